/-
  Part 2: AmState · AmStore · AmPut · AmPutTwo · AmPutThree · AmTake · AmTakeTwo · AmRoots · AmCode · AmOps.
-/
import Derived.Test.YteooihiebpbaiaaGreatDoorVp1
import Derived.MapKept
set_option linter.unusedSimpArgs false
set_option linter.unusedVariables false
set_option linter.unusedSectionVars false
set_option linter.unnecessarySimpa false
section
namespace Go.Am
inductive RC where
 |blk (b:Nat)
 |gh (v:Value)
 deriving Inhabited
abbrev Gam:=Nm->RC
abbrev Mm:=List (Nm×Root)
def aH(w:World):RC->Nat->Option Value
 |.blk b,k=>w.cell? ⟨b,k,none⟩
 |.gh v,k=>if k=0 then some v else none
def plA(w:World)(γ:Gam)(p:Pl):Option Addr:=
 match p.path with
 |[]=>match γ p.root with|.blk b=>some ⟨b,p.off,none⟩|.gh _=>none
 |st::r=>(aH w (γ p.root) p.off).bind λy=>bu w y (st::r)
def plV(w:World)(γ:Gam)(p:Pl):Option Value:=
 match p.path with
 |[]=>aH w (γ p.root) p.off
 |st::r=>((aH w (γ p.root) p.off).bind λy=>bu w y (st::r)).bind w.cell?
def ah:Mm->Nm->Option Root
 |[],_=>none
 |(k,r)::m,n=>if k=n then some r else ah m n
def cz:Mm->Nm->Root->Mm
 |[],_,_=>[]
 |(k,x)::m,n,r=>if k=n then(k,r)::m else(k,x)::cz m n r
def bQ:Mm->Nm->Mm
 |[],_=>[]
 |(k,x)::m,n=>if k=n then m else(k,x)::bQ m n
def bU(m:Mm)(p:Pl):Prop:=
 match ah m p.root with
 |none=>False
 |some r=>
  match p.path with
  |[]=>p.off<r.cells.length
  |st::q=>match r.cells[p.off]? with
   |some (.ow sub l)=>okO sub l (st::q)
   |_=>False
def gY(m:Mm)(p:Pl):Prop:=
 match ah m p.root with
 |none=>False
 |some r=>
  match r.cells[p.off]?,p.path with
  |some (.ow _ _),[]=>True
  |some (.mp _),[]=>True
  |some (.it _ _),[]=>True
  |some (.ow sub l),st::q=>okO sub l (st::q)/\match bG sub l (st::q)with
   |some (.ow _,.li _)=>True
   |_=>False
  |_,_=>False
def D.isKey:D->Bool
 |.int _ _=>true
 |.bool _=>true
 |.str _=>true
 |_=>false
def MpO(w:World)(H:FH):List (D×Sh×D)->List MapEntry->Fp->Prop
 |[],[],f=>∀b,f b=0
 |x::l,e::es,f=>(x.1.isKey=true/\FDx H x.1 e.key)/\∃f1 a:Fp,∃k,(∀b,f b=f1 b+a b)/\OD w H k x.2.1 x.2.2 f1 e.val/\MpO w H l es a
 |_,_,_=>False
theorem kn{w w':World}{H H':FH}(a:∀b o y,H b o=some y->H' b o=some y):∀{l:List (D×Sh×D)}{es:List MapEntry}{f:Fp},(∀b,f b≠0->w'.heap[b]? = w.heap[b]?)->MpO w H l es f->MpO w' H' l es f
 |[],[],_,_,h=>h
 |_::_,_::_,f,hw,h=>by obtain⟨⟨h1,h2⟩,f1,c,k,h3,h4,h5⟩:=h;exact⟨⟨h1,eL a h2⟩,f1,c,k,h3,cK a k k _ _ _ _ (akR _) (λb hb=>hw b (by grind)) h4,kn a (λb hb=>hw b (by grind)) h5⟩
 |[],_::_,_,_,h=>h.elim
 |_::_,[],_,_,h=>h.elim
def ItL(H:FH):List (D×D)->List MapEntry->Prop
 |[],[]=>True
 |x::l,e::es=>(x.1.isKey=true/\FDx H x.1 e.key/\FDx H x.2 e.val)/\ItL H l es
 |_,_=>False
theorem Ij{H H':FH}(a:∀b o y,H b o=some y->H' b o=some y):∀{l:List (D×D)}{es:List MapEntry},ItL H l es->ItL H' l es
 |[],[],h=>h
 |_::_,_::_,h=>⟨⟨h.1.1,eL a h.1.2.1,eL a h.1.2.2⟩,Ij a h.2⟩
 |[],_::_,h=>h.elim
 |_::_,[],h=>h.elim
def ItR(H:FH)(cur:Option (D×D))(rest:List (D×D)):Option Nat->Nat->Array Nat->Nat->Prop
 |none,_,_,_=>cur=none/\rest=[]
 |some m,b,a,last=>∃es ck,H m 0=some (.m es ck)/\b=ck/\last=ck/\ItL H rest (es.toList.filter λe=>!a.contains e.born) /\
   match cur with
   |none=>True
   |some x=>∃(c:Array Nat)(e:MapEntry),a=c.push e.born/\e∈es.toList/\x.1.isKey=true/\FDx H x.1 e.key/\FDx H x.2 e.val
theorem Ik{H H':FH}(d:∀b o y,H b o=some y->H' b o=some y){cur:Option (D×D)}{rest:List (D×D)}:∀{m:Option Nat}{a:Nat}{s:Array Nat}{c:Nat},ItR H cur rest m a s c->ItR H' cur rest m a s c
 |none,_,_,_,h=>by obtain⟨h1,h2⟩:=h;exact⟨h1,h2⟩
 |some m,_,_,_,⟨es,ck,h1,h2,h3,h4,h5⟩=>⟨es,ck,d _ _ _ h1,h2,h3,Ij d h4,by grind [eL]⟩
def TR(w:World)(H:FH)(γ:Gam)(m:Mm):T->Fp->Value->Prop
 |.d x,f,y=>(∀b,f b=0)/\FDx H x y
 |.nil,f,y=>(∀b,f b=0)/\y=.slice none 0 0
 |.ow sub l,f,y=>∃k,OD w H k (.ow sub) (.li l) f y
 |.mp l,f,y=>∃b es ck,∃g:Fp,y=.map (some b)/\w.heap[b]? = some (.map es ck)/\MapKept.Stamped es ck/\MpO w H l es.toList g/\∀c,f c=g c+if c=b then 1 else 0
 |.it cur rest,f,y=>∃r m a s c,y=.pointer (some ⟨r,0,none⟩)/\w.heap[r]? = some (.mapIter m a s c)/\ItR H cur rest m a s c/\∀k,f k=if k=r then 1 else 0
 |.el row off,f,y=>(∀b,f b=0)/\∃b o k,y=.pointer (some ⟨b,o+off,none⟩)/\BP H k row b o
 |.pl p,f,y=>(∀b,f b=0)/\bU m p/\∃a,plA w γ p=some a/\y=.pointer (some a)
 |.rf p,f,y=>(∀b,f b=0)/\gY m p/\plV w γ p=some y
 |.any,f,_=>∀b,f b=0
def Ts(R:T->Fp->Value->Prop)(ts:List T)(f:Fp)(vs:List Value):Prop:=Cs (λ(_:Unit) t=>R t) (List.replicate ts.length ()) ts f vs
def Nm.tyd:Nm->Option TypeId
 |.loc i=>if i < 1000000 then none else some (i / 1000000)
 |.out i=>if i < 1000000 then none else some (i / 1000000)
 |.gh _=>none
def okR(n:Nm)(ty:TypeId)(fz:Nat×Nat)(sz:Nat):Prop:=KR fz sz/\∀t,n.tyd=some t->ty=t
def bv(w:World)(H:FH)(γ:Gam)(m:Mm)(n:Nm)(r:Root)(f:Fp):Prop:=
 if r.blk then ∃b cs ty fz,∃g:Fp,γ n=.blk b/\w.heap[b]? = some (.cells cs ty fz)/\okR n ty fz cs.size/\cs.size=r.cells.length /\
  Ts (TR w H γ m) r.cells g cs.toList/\∀k,f k=g k+if k=b then 1 else 0
 else ∃v t,γ n=.gh v/\r.cells=[t]/\TR w H γ m t f v
def tot(F:Nm->Fp):Mm->Fp
 |[],_=>0
 |x::m,b=>F x.1 b+tot F m b
def RdV(w:World)(b o:Nat):HV->Prop
 |.c y=>w.cell? ⟨b,o,none⟩=some y
 |.m es ck=>w.heap[b]? = some (.map es ck)/\MapKept.Stamped es ck
variable{b:Nat}
theorem RdV.lt{w:World}{o:Nat}:∀{y:HV},RdV w b o y->b<w.heap.size
 |.c _,h=>World.block_lt_of_cell? _ _ h
 |.m _ _,h=>(Array.getElem?_eq_some_iff.1 h.1).1
theorem RdV.frame{w w':World}{o:Nat}:∀{y:HV},RdV w b o y->w'.heap[b]? = w.heap[b]? -> RdV w' b o y
 |.c y,h,e=>by
  have h:w.cell? ⟨b,o,none⟩=some y:=h
  show w'.cell? ⟨b,o,none⟩=some y
  grind [World.cell?]
 |.m _ _,h,e=>⟨e.trans h.1,h.2⟩
structure Mem (w:World) (H:FH) (γ:Gam) (m:Mm) (F:Nm->Fp):Prop where
 agree:∀b o y,H b o=some y->RdV w b o y
 roots:∀x∈m,bv w H γ m x.1 x.2 (F x.1)
 keys:(m.map (·.1)).Nodup
 le1:∀b,tot F m b<=1
 lt:∀b,tot F m b≠0->b<w.heap.size
 nofz:∀b,tot F m b≠0->∀o,H b o=none
def AR1(w:World)(H:FH)(γ:Gam)(m:Mm):AV1->Value->Prop
 |.c t,y=>TR w H γ m t (λ_=>0) y
 |.agg ts,y=>∃cs,y=.agg cs/\cs.size=ts.length/\Ts (TR w H γ m) ts (λ_=>0) cs.toList
def ARs(w:World)(H:FH)(γ:Gam)(m:Mm):List AV1->List Value->Prop
 |[],[]=>True
 |x::xs,y::a=>AR1 w H γ m x y/\ARs w H γ m xs a
 |_,_=>False
def AR(w:World)(H:FH)(γ:Gam)(m:Mm):AV->Value->Prop
 |.one x,y=>AR1 w H γ m x y
 |.tup xs,y=>∃l,y=.tuple l/\ARs w H γ m xs l.toList
 |.any,_=>True
structure S where
 t:List (Nat×AV)
 m:Mm
structure G where
 nt:Nat
 w0:World
 H0:FH
 own0:Fp
 out:Nat->Option Nat
 ex:Option (Nat->Value)
 dfs:List Deferred
def TB:Nat:=100000
def Thawed(w:World)(b:Nat):Prop:=∃cs ty,w.heap[b]? = some (.cells cs ty (0,0))
theorem Thawed.of_block{w w':World}(h:Thawed w b)(e:w'.heap[b]? = w.heap[b]?):Thawed w' b:=by obtain⟨cs,ty,h⟩:=h;exact⟨cs,ty,e.trans h⟩
theorem Thawed.lt{w:World}(h:Thawed w b):b<w.heap.size:=by obtain⟨cs,ty,h⟩:=h;grind
theorem oO{w:World}{H:FH}:(∀b,Thawed w b->Thawed w b)/\∀b o x l c,H b o=some (.c (.slice x l c))->H b o=none->Thawed w b:=⟨λ_ h=>h,λb o x l c h1 h2=>by grind⟩
variable{α β:Type}
theorem Pk{R:α->β->Fp->Value->Prop}:∀(a:List α)(xs:List β)(f:Fp)(vs:List Value),Cs R a xs f vs->∀b,f b≠0->∃s x g v,R s x g v/\g b≠0
 |[],[],_,_,h,b,hb=>absurd (h b) hb
 |s::a,x::xs,f,vs,h,b,hb=>by
  obtain⟨v,r,f1,c,_,hf,h1,h2⟩:=h;by_cases h0:f1 b=0
  .exact Pk a xs c r h2 b (by grind)
  grind
 |[],_::_,_,_,h,_,_=>h.elim
 |_::_,[],_,_,h,_,_=>h.elim
theorem P5{w:World}{H:FH}:∀(k:Nat)(s:Sh)(x:D)(f:Fp)(y:Value),OD w H k s x f y->∀b,f b≠0->Thawed w b:=by
 intro k;induction k with
 |zero=>
  intro s x f y h b hb;cases s with
  |fr=>grind [fV]
  |ow sub=>
   cases x with
   |any=>exact absurd (h b) hb
   |_=>simp[OD]at h
 |succ k ih=>
  intro s x f y h b hb;cases s with
  |fr=>grind [fV]
  |ow sub=>
   cases x with
   |li l=>
    rw[fo]at h;rcases h with h|⟨b',c,cs,ty,fr,g,_,h2,h3,_,_,_,_,h8,h9⟩
    .grind
    by_cases e:b=b'
    .subst e;have h3:fr=(0,0):=h3
     subst h3;exact⟨cs,ty,h2⟩
    obtain⟨s,x,g',v,r1,r2⟩:=Pk _ _ _ _ h8 b (by grind)
    grind
   |any=>exact absurd (h b) hb
   |_=>simp[OD]at h
structure Fr (w0:World) (H0:FH) (own0:Fp) (w:World) (H:FH) (tt:Fp):Prop where
 size:w0.heap.size<=w.heap.size
 os:w.os=w0.os
 tape:w.tape=w0.tape
 output:w.output=w0.output
 block:∀k,k<w0.heap.size->own0 k=0->w.heap[k]? = w0.heap[k]?
 hold:∀b o y,H0 b o=some y->H b o=some y
 hnew:∀b o,H b o≠none->H0 b o=none->own0 b≠0\/w0.heap.size<=b
 tt:∀b,tt b≠0->own0 b≠0\/w0.heap.size<=b
 /-- blocks that may be written stay so; new frozen slices lie in such -/
 nz:(∀b,Thawed w0 b->Thawed w b)/\∀b o x l c,H b o=some (.c (.slice x l c))->H0 b o=none->Thawed w b
def G.tv(g:G)(a:Act)(i:Nat):Value:=match g.ex with
 |none=>a.tmps.getD i undef
 |some f=>if i<TB\/i<a.tmps.size then a.tmps.getD i undef else f (i-TB)
variable{a:Act}{i:Nat}
theorem G.tv_lo{g:G}(h:i<TB):g.tv a i=a.tmps.getD i undef:=by grind [G.tv]
theorem G.tv_lt{g:G}(h:i<a.tmps.size):g.tv a i=a.tmps.getD i undef:=by grind [G.tv]
theorem G.tv_none{g:G}(h:g.ex=none)(a:Act)(i:Nat):g.tv a i=a.tmps.getD i undef:=by grind [G.tv]
def aW:List (Nat×AV)->Nat->AV
 |[],_=>.any
 |(k,v)::t,i=>if k=i then v else aW t i
def Globs(H:FH):Prop:=(∀k row,sf k=some row->∃m,BP H m row k 0)/\∀k,acZ=some k->∃n m,BP H m [.int .i64 n] k 0
theorem za{H H':FH}(a:∀b o y,H b o=some y->H' b o=some y)(h:Globs H):Globs H':=⟨λk row e=>(λ⟨m,hm⟩=>⟨m,mS a hm⟩) (h.1 k row e),λk e=>(λ⟨n,m,hm⟩=>⟨n,m,mS a hm⟩) (h.2 k e)⟩
structure RX (g:G) (s:S) (a:Act) (w:World) (H:FH) (γ:Gam) (F:Nm->Fp):Prop where
 mem:Mem w H γ s.m F
 fr:Fr g.w0 g.H0 g.own0 w H (tot F s.m)
 nt:a.tmps.size=g.nt
 df:a.defers=g.dfs/\(∀j b,g.out j=some b->γ (.out j)=.blk b)/\Globs g.H0
 t:∀i,AR w H γ s.m (aW s.t i) (g.tv a i)
variable{F:Nm->Fp}
theorem ji{g:G}{s:S}{w:World}{H:FH}{γ:Gam}(h:RX g s a w H γ F):Globs H:=za h.fr.hold h.df.2.2
def R(g:G)(s:S)(a:Act)(w:World):Prop:=∃H γ F,RX g s a w H γ F
variable{n:Nm}{r:Root}
theorem aj{m:Mm}(h:ah m n=some r):(n,r)∈m:=by induction m<;>grind [ah]
variable{x:Nm×Root}
theorem bD{m:Mm}(h:x∈m)(b:Nat):F x.1 b<=tot F m b:=by induction m<;>grind [tot]
theorem dJ{w w':World}{o:Nat}(h:w'.heap[b]? = w.heap[b]?):w'.cell? ⟨b,o,none⟩=w.cell? ⟨b,o,none⟩:=by grind [World.cell?]
theorem LM{w w':World}{H:FH}:∀(p:List Step)(k:Nat)(sub:List Sh)(l:List (List D))(f:Fp)(y:Value),
  OD w H k (.ow sub) (.li l) f y->okO sub l p->(∀b,f b≠0->w'.heap[b]? = w.heap[b]?)->bu w' y p=bu w y p:=by
 intro p;induction p with
 |nil=>intro k sub l f y _ h;exact h.elim
 |cons st r ih=>
  intro k sub l f y h d hw;cases r with
  |nil=>
   cases y with
   |slice a _ _=>
    cases a with
    |none=>rfl
    |some a=>obtain⟨b,o,sp⟩:=a;cases sp<;>rfl
   |_=>rfl
  |cons t u=>
   cases k with
   |zero=>simp[OD]at h
   |succ k=>
   rw[fo]at h;rcases h with⟨_,rfl,_⟩|⟨b,c,cs,ty,frz,g,h1,h2,h3,h4,h5,h6,h7,h8,h9⟩
   .rfl
   subst h1;obtain⟨⟨hi,m,i⟩,d⟩:=d;have hb:w'.heap[b]? = w.heap[b]? := hw b (by grind)
   have hk:st.idx*sub.length+st.off<l.flatten.length:=by
    rw[cQ _ _ h7];have:(st.idx+1)*sub.length<=l.length*sub.length:=alS _ hi
    grind
   obtain⟨s,x,v,n,fr,j,e,a3,a4,a5,_,_⟩:=cX _ _ _ _ _ h8 hk
   grind [eA,World.cell?,bu]
variable{f:Fp}{k:Nat}{vs:List Value}
theorem sC{R:α->β->Fp->Value->Prop}{a:List α}{xs:List β}(h:Cs R a xs f vs){x:β}(hx:xs[k]? = some x) :
  ∃s v,∃g:Fp,a[k]? = some s/\vs[k]? = some v/\R s x g v/\∀b,g b<=f b:=by
 have hk:k<xs.length:=by grind
 obtain⟨s,x',v,e,fr,c,d,a3,a4,a5,_,_⟩:=cX _ _ _ _ _ h hk
 grind
theorem eE{w:World}{H:FH}{γ:Gam}{m:Mm}(h:bv w H γ m n r f){t:T}(hk:r.cells[k]? = some t) :
  ∃v,∃g:Fp,aH w (γ n) k=some v/\TR w H γ m t g v/\∀b,g b<=f b:=by
 unfold bv at h;split at h
 .obtain⟨b,cs,ty,fz,g,h1,h2,h3,h4,h5,h6⟩:=h;obtain⟨s,v,g',a,c,a3,a4⟩:=sC h5 hk
  grind [aH,World.cell?]
 obtain⟨v,t',h1,h2,h3⟩:=h;rw[h2]at hk;cases k with
 |zero=>
  obtain rfl:t'=t:=by grind
  exact⟨v,f,by rw[h1];rfl,h3,λ_=>akR _⟩
 |succ k=>grind
theorem wG{w w':World}{H:FH}{γ:Gam}{m:Mm}{F:Nm->Fp}(hm:Mem w H γ m F){p:Pl}(a:bU m p)
  (hw:∀b,F p.root b≠0->w'.heap[b]? = w.heap[b]?):plA w' γ p=plA w γ p/\plV w' γ p=plV w γ p:=by
 obtain⟨n,off,path⟩:=p;unfold bU at a;cases hr:ah m n with
 |none=>grind
 |some r=>
  simp only[hr]at a;have e:=hm.roots _ (aj hr)
  have c:aH w' (γ n) off=aH w (γ n) off:=by grind [aH,dJ,bv]
  cases path with
  |nil=>exact⟨rfl,by grind [plV]⟩
  |cons st q=>
   dsimp only at a;cases j:r.cells[off]? with
   |none=>grind
   |some t=>
    rw[j]at a;cases t with
    |ow sub l=>
     obtain⟨v,g,h,f,i⟩:=eE e j;dsimp only at h i;obtain⟨k,f⟩:=f;have d:bu w' v (st::q)=bu w v (st::q):=LM (st::q) k sub l g v f a (λb hb=>hw b (by grind))
     refine⟨by grind [plA],?_⟩;simp only[plV,c,h,Option.bind_some,d];have o:∀b,g b<=1:=λb=>by have:=i b;have:=hm.le1 b;have:=bD (F:=F) (aj hr) b;grind
     grind [nY,dJ]
    |_=>grind
variable{j:Nat}
theorem Dx{l:List (List D)}{i' j':Nat}{y:D}(hi:i<l.length)(hj:j < (l.getD i []).length) :
  ((l.set i ((l.getD i []).set j y)).getD i' []).getD j' default=if i=i'/\j=j' then y else(l.getD i' []).getD j' default:=by
 grind
def wfO:Nat->List Sh->List (List D)->Prop
 |0,_,_=>True
 |n+1,sub,l=>(∀x∈l,x.length=sub.length)/\∀i j s l',sub[j]? = some (.ow s)->(l.getD i []).getD j default=.li l'->wfO n s l'
theorem Eu{w:World}{H:FH}:∀(n m:Nat)(sub:List Sh)(l:List (List D))(f:Fp)(y:Value),OD w H m (.ow sub) (.li l) f y->wfO n sub l:=by
 intro n;induction n with
 |zero=>intros;trivial
 |succ n ih=>
  intro m sub l f y h;cases m with
  |zero=>simp[OD]at h
  |succ m=>
  rw[fo]at h;rcases h with⟨rfl,_,_⟩|⟨b,c,cs,ty,frz,g,h1,h2,h3,h4,h5,h6,h7,h8,h9⟩
  .exact⟨by simp,λi j s l' _ h=>by simp[List.getD]at h;cases h⟩
  refine⟨h7,λi j s l' hs hx=>?_⟩;by_cases hi:i<l.length
  .have o:j<sub.length:=by grind
   have hk:i*sub.length+j<l.flatten.length:=by
    rw[cQ _ _ h7];have:(i+1)*sub.length<=l.length*sub.length:=alS _ hi
    grind
   obtain⟨s',x,v,k,fr,a,d,a3,a4,a5,_,_⟩:=cX _ _ _ _ _ h8 hk
   grind [eA]
  have e:l.getD i []=[]:=by grind
  rw[e]at hx;simp[List.getD]at hx;cases hx
theorem KT:∀(q p:List Step)(n:Nat)(sub:List Sh)(l:List (List D))(x:D),q.length+p.length<=n->wfO n sub l->okO sub l q->okO sub l p ->
  (∀s l',bG sub l p≠some (.ow s,.li l')) ->
  okO sub (bX sub l x p) q/\∀s l',bG sub l q=some (.ow s,.li l')->∃g,bG sub (bX sub l x p) q=some (.ow s,.li g):=by
 intro q;induction q with
 |nil=>intro p n sub l x _ _ h;exact h.elim
 |cons st r ih=>
  intro p n sub l x hn v hq hp hno;cases p with
  |nil=>exact hp.elim
  |cons a d=>
  cases n with
  |zero=>grind
  |succ n=>
  obtain⟨w,m⟩:=v;have f:st.idx<l.length/\st.esz=sub.length/\st.off<sub.length:=by
   cases r with
   |nil=>exact hq
   |cons _ _=>exact hq.1
  have b:a.idx<l.length/\a.esz=sub.length/\a.off<sub.length:=by
   cases d with
   |nil=>exact hp
   |cons _ _=>exact hp.1
  obtain⟨hi,C,F⟩:=f;obtain⟨k,A,E⟩:=b;have e:a.off < (l.getD a.idx []).length:=by grind
  have key:∃y,bX sub l x (a::d)=l.set a.idx ((l.getD a.idx []).set a.off y) /\
    (a.idx=st.idx->a.off=st.off->∀s2 l2,sub[st.off]? = some (.ow s2)->(l.getD st.idx []).getD st.off default=.li l2 ->
     ∃t u,d=t::u/\y=.li (bX s2 l2 x (t::u))/\okO s2 l2 (t::u)/\∀s l',bG s2 l2 (t::u)≠some (.ow s,.li l')):=by
   cases d with
   |nil=>
    refine⟨x,rfl,λB z s2 l2 h1 h2=>?_⟩
    grind [bG]
   |cons t u=>
    obtain⟨_,hp⟩:=hp;cases hs:sub[a.off]? with
    |none=>grind
    |some s0=>
     rw[hs]at hp;cases s0 with
     |fr=>grind
     |ow s2=>
      cases hd:(l.getD a.idx []).getD a.off default with
      |li l2=>
       rw[hd]at hp;refine⟨.li (bX s2 l2 x (t::u)),by grind [bX],λB z H G h1 h2=>?_⟩
       grind [bG]
      |_=>grind
  obtain⟨y,c,o⟩:=key;rw[c];have hget:=λi' j'=>Dx (l:=l) (i:=a.idx) (j:=a.off) (i':=i') (j':=j') (y:=y) k e
  cases r with
  |nil=>
   refine⟨⟨by grind,C,F⟩,λs l' h=>?_⟩
   grind [bG]
  |cons t u=>grind [okO,bG]
theorem Og:∀(r a:List Step)(sub:List Sh)(l:List (List D)),r≠[]->a≠[]->okO sub l (r++a) ->
  okO sub l r/\∃s l',bG sub l r=some (.ow s,.li l'):=by
 intro r;induction r with
 |nil=>grind
 |cons st u ih=>
  intro a sub l _ b h;cases u with
  |nil=>
   cases a with
   |nil=>grind
   |cons t v=>
    obtain⟨h1,h2⟩:=h;refine⟨h1,?_⟩;cases hs:sub[st.off]? with
    |none=>grind
    |some s0=>
     simp only[hs]at h2;cases s0 with
     |fr=>grind
     |ow s2=>
      cases hd:(l.getD st.idx []).getD st.off default with
      |li l2=>simp_all[bG]
      |_=>grind
  |cons t v=>
   obtain⟨h1,h2⟩:=h;cases hs:sub[st.off]? with
   |none=>grind
   |some s0=>
    simp only[hs]at h2;cases s0 with
    |fr=>grind
    |ow s2=>
     cases hd:(l.getD st.idx []).getD st.off default with
     |li l2=>
      rw[hd]at h2;obtain⟨g1,s,l',g2⟩:=ih a s2 l2 (by simp) b h2;refine⟨⟨h1,?_⟩,s,l',?_⟩
      all_goals grind [bG]
     |_=>grind
theorem LN{w w':World}{A:Addr}(hw:∀a,a≠A->w'.cell? a=w.cell? a):∀(p:List Step)(y:Value),
  (∀r d,p=r++d->r≠[]->d≠[]->bu w y r≠some A)->bu w' y p=bu w y p:=by
 intro p;induction p with
 |nil=>
  intro y _;cases y with
  |slice a _ _=>
   cases a with
   |none=>rfl
   |some a=>obtain⟨b,o,sp⟩:=a;cases sp<;>rfl
  |_=>rfl
 |cons st r ih=>
  intro y h;cases r with
  |nil=>
   cases y with
   |slice a _ _=>
    cases a with
    |none=>rfl
    |some a=>obtain⟨b,o,sp⟩:=a;cases sp<;>rfl
   |_=>rfl
  |cons t u=>
   cases y with
   |slice a n c=>
    cases a with
    |none=>rfl
    |some a=>
     obtain⟨b,o,sp⟩:=a;cases sp with
     |some k=>rfl
     |none=>
      have h1:bu w (.slice (some ⟨b,o,none⟩) n c) [st]≠some A:=h [st] (t::u) rfl (by simp) (by simp)
      simp only[bu]at h1|-;rw[hw _ (λe=>h1 (by rw[e]))]
      grind [bu]
   |_=>rfl
structure Keeps (w:World) (γ:Gam) (m:Mm) (w':World) (γ':Gam) (m':Mm):Prop where
 pl:∀q,bU m q->bU m' q/\plA w' γ' q=plA w γ q
 rf:∀q,gY m q->gY m' q/\plV w' γ' q=plV w γ q
theorem jk{w w':World}{H H':FH}{γ γ':Gam}{m m':Mm}(i:Keeps w γ m w' γ' m')(e:∀b o y,H b o=some y->H' b o=some y)
  {t:T} {f:Fp} {y:Value} (hw:∀b,f b≠0->w'.heap[b]? = w.heap[b]?) (h:TR w H γ m t f y):TR w' H' γ' m' t f y:=by
 cases t with
 |d x=>exact⟨h.1,eL e h.2⟩
 |nil=>exact h
 |ow sub l=>obtain⟨k,h⟩:=h;exact⟨k,cK e k k _ _ _ _ (akR _) hw h⟩
 |mp l=>obtain⟨b,es,ck,g,h1,h2,h3,h4,h5⟩:=h;exact⟨b,es,ck,g,h1,by grind,h3,kn e (λc hc=>hw c (by grind)) h4,h5⟩
 |it cur rest=>obtain⟨r,m,a,s,c,h1,h2,h3,h4⟩:=h;exact⟨r,m,a,s,c,h1,by grind,Ik e h3,h4⟩
 |el row off=>obtain⟨h0,b,o,k,h1,h2⟩:=h;exact⟨h0,b,o,k,h1,mS e h2⟩
 |pl p=>obtain⟨h0,h1,a,h2,h3⟩:=h;obtain⟨k1,k2⟩:=i.pl p h1;exact⟨h0,k1,a,by grind,h3⟩
 |rf p=>obtain⟨h0,h1,h2⟩:=h;obtain⟨k1,k2⟩:=i.rf p h1;exact⟨h0,k1,by grind⟩
 |any=>exact h
theorem pE{w w':World}{H H':FH}{γ γ':Gam}{m m':Mm}(d:Keeps w γ m w' γ' m')(a:∀b o y,H b o=some y->H' b o=some y)
  {ts:List T} {f:Fp} {vs:List Value} (hw:∀b,f b≠0->w'.heap[b]? = w.heap[b]?) (h:Ts (TR w H γ m) ts f vs):Ts (TR w' H' γ' m') ts f vs:=
 lM _ _ _ _ (λ_ _ g _ e c=>jk d a (λb hb=>hw b (by grind)) c) h
theorem Cw{w w':World}{H H':FH}{γ γ':Gam}{m m':Mm}(a:Keeps w γ m w' γ' m')(d:∀b o y,H b o=some y->H' b o=some y)
  {x:AV1} {y:Value} (h:AR1 w H γ m x y):AR1 w' H' γ' m' x y:=by
 cases x with
 |c t=>exact jk a d (λb hb=>absurd rfl hb) h
 |agg ts=>obtain⟨cs,h1,h2,h3⟩:=h;exact⟨cs,h1,h2,pE a d (λb hb=>absurd rfl hb) h3⟩
theorem Cx{w w':World}{H H':FH}{γ γ':Gam}{m m':Mm}(a:Keeps w γ m w' γ' m')(d:∀b o y,H b o=some y->H' b o=some y) :
  ∀{xs:List AV1}{c:List Value},ARs w H γ m xs c->ARs w' H' γ' m' xs c
 |[],[],_=>trivial
 |_::_,_::_,h=>⟨Cw a d h.1,Cx a d h.2⟩
 |[],_::_,h=>h.elim
 |_::_,[],h=>h.elim
theorem dw{w w':World}{H H':FH}{γ γ':Gam}{m m':Mm}(a:Keeps w γ m w' γ' m')(c:∀b o y,H b o=some y->H' b o=some y)
  {x:AV} {y:Value} (h:AR w H γ m x y):AR w' H' γ' m' x y:=by
 cases x with
 |one x=>exact Cw a c h
 |tup xs=>obtain⟨l,h1,h2⟩:=h;exact⟨l,h1,Cx a c h2⟩
 |any=>trivial
theorem aZ{w w':World}{H H':FH}{γ γ':Gam}{m m':Mm}(d:Keeps w γ m w' γ' m')(a:∀b o y,H b o=some y->H' b o=some y)
  {n:Nm} {r:Root} {f:Fp} (e:γ' n=γ n) (hw:∀b,f b≠0->w'.heap[b]? = w.heap[b]?) (h:bv w H γ m n r f):bv w' H' γ' m' n r f:=by
 unfold bv at h|-;split at h
 .rename_i hb;rw[if_pos hb];obtain⟨b,cs,ty,fz,g,h1,h2,h3,h4,h5,h6⟩:=h;exact⟨b,cs,ty,fz,g,by grind,by grind,h3,h4,
   pE d a (λc hc=>hw c (by grind)) h5,h6⟩
 grind [jk]
theorem fj{w w':World}{H:FH}{γ:Gam}{m:Mm}{F:Nm->Fp}(hm:Mem w H γ m F)(hw:∀b,tot F m b≠0->w'.heap[b]? = w.heap[b]?):Keeps w γ m w' γ m:=by
 have a:∀q:Pl,bU m q->∀b,F q.root b≠0->w'.heap[b]? = w.heap[b]? := by
  intro q hq b hb;unfold bU at hq;cases hr:ah m q.root with
  |none=>grind
  |some r=>exact hw b (by have:=bD (F:=F) (aj hr) b;grind)
 have c:∀q:Pl,gY m q->bU m q:=by grind (splits:=20) [gY,bU]
 exact⟨λq hq=>⟨hq,(wG hm hq (a q hq)).1⟩,λq hq=>⟨hq,(wG hm (c q hq) (a q (c q hq))).2⟩⟩
theorem fA{m:Mm}{q:Pl}(hq:gY m q):bU m q:=by grind (splits:=20) [gY,bU]
def aU(m:Mm)(p:Pl):Option T:=
 match ah m p.root with
 |none=>none
 |some r=>
  match p.path with
  |[]=>r.cells[p.off]?
  |st::q=>match r.cells[p.off]? with
   |some (.ow sub l)=>match bG sub l (st::q)with
    |some (.fr,x)=>some (.d x)
    |some (.ow s,.li l')=>some (.ow s l')
    |some (.ow _,_)=>some .any
    |none=>none
   |_=>none
theorem eY{m:Mm}:tot F (x::m) b=F x.1 b+tot F m b:=rfl
theorem vB{m:Mm}{y:Nm×Root}(hx:x∈m)(hy:y∈m)(hn:x.1≠y.1)(b:Nat):F x.1 b+F y.1 b<=tot F m b:=by induction m<;>grind [eY,bD]
theorem A6{w:World}{H:FH}{γ:Gam}{m:Mm}{F:Nm->Fp}(hm:Mem w H γ m F){p:Pl}(c:bU m p){a:Addr}(ha:plA w γ p=some a) :
  F p.root a.block≠0/\a.spot=none:=by
 obtain⟨n,off,path⟩:=p;unfold bU at c;cases hr:ah m n with
 |none=>grind
 |some r=>
  simp only[hr]at c;have d:=hm.roots _ (aj hr)
  cases path with
  |nil=>grind [bv,plA]
  |cons st q=>
   dsimp only at c;cases f:r.cells[off]? with
   |none=>grind
   |some t=>
    rw[f]at c;cases t with
    |ow sub l=>
     obtain⟨v,g,h,⟨k,j⟩,e⟩:=eE d f;dsimp only at h e;have i:∀b,g b<=1:=λb=>by have:=e b;have:=hm.le1 b;have:=bD (F:=F) (aj hr) b;grind
     grind [nY,plA]
    |_=>grind
theorem adF{w:World}{H:FH}{γ:Gam}{m:Mm}{F:Nm->Fp}(hm:Mem w H γ m F){p q:Pl}(hp:bU m p)(hq:bU m q){a:Addr}
  (ha:plA w γ p=some a) (hb:plA w γ q=some a) :
  p.root=q.root/\p.off=q.off/\p.path.map (λs=>(s.idx,s.off))=q.path.map (λs=>(s.idx,s.off)):=by
 have I:=A6 hm hp ha
 have K:=A6 hm hq hb
 obtain⟨n,off,path⟩:=p;obtain⟨n',d,f⟩:=q;by_cases hn:n=n'
 .subst hn;refine⟨rfl,?_⟩;unfold bU at hp hq;cases hr:ah m n with
  |none=>grind
  |some r=>
   simp only[hr]at hp hq;have c:=hm.roots _ (aj hr)
   have z:∀b,F n b<=1:=λb=>by have:=hm.le1 b;have:=bD (F:=F) (aj hr) b;grind
   have blk:∀(off:Nat)(sub:List Sh)(l:List (List D))(st:Step)(u:List Step),r.cells[off]? = some (.ow sub l)->okO sub l (st::u) ->
     ∀d,plA w γ ⟨n,off,st::u⟩≠plA w γ ⟨n,d,[]⟩\/plA w γ ⟨n,d,[]⟩=none:=by
    intro off sub l st u i J d;unfold bv at c;split at c
    .left
     obtain⟨b,cs,ty,fz,g,h1,h2,h3,h4,h5,h6⟩:=c;obtain⟨_,v,g',_,o,⟨k,a3⟩,a4⟩:=sC h5 i
     grind [nY,plA,aH,World.cell?]
    grind [plA]
   cases path with
   |nil=>
    cases f with
    |nil=>
     unfold bv at c
     grind [plA]
    |cons st u=>grind
   |cons st u=>
    dsimp only at hp;cases i:r.cells[off]? with
    |none=>grind
    |some t=>
     rw[i]at hp;cases t with
     |ow sub l=>
      cases f with
      |nil=>grind
      |cons G u'=>
       dsimp only at hq;cases h:r.cells[d]? with
       |none=>grind
       |some t'=>
        rw[h]at hq;cases t' with
        |ow B l'=>
         by_cases A:off=d
         .subst A;refine⟨rfl,?_⟩;rw[i]at h;simp only[akO,T.ow.injEq]at h;obtain⟨rfl,rfl⟩:=h;obtain⟨v,g,M,⟨k,U⟩,N⟩:=eE c i
          grind [plA,L9]
         . -- two cells of one root
          exfalso
          unfold bv at c;split at c
          .obtain⟨b,cs,ty,fz,g,h1,h2,h3,h4,h5,h6⟩:=c;dsimp only at h1 h6;have x:off<r.cells.length:=by grind
           have j:d<r.cells.length:=by grind
           obtain⟨s1,S,Q,R,fr,V,o,a3,a4,a5,_,E⟩:=cX _ _ _ _ _ h5 x;obtain⟨s2,O,P,g2,b1,b2,b3,C,W⟩:=E d (λe=>A e.symm) j;rw[i]at o;rw[h]at b2;simp only[akO]at o b2;subst o;subst b2;obtain⟨k,a5⟩:=a5;obtain⟨k',C⟩:=C
           grind [nY,plA,aH,World.cell?]
          grind
        |_=>grind
     |_=>grind
 exfalso
 unfold bU at hp hq;cases hr:ah m n with
 |none=>grind
 |some r=>
  cases y:ah m n' with
  |none=>grind
  |some L=>
   have:=vB (F:=F) (aj hr) (aj y) hn a.block
   grind [Mem.le1]
theorem Ky:∀(p q:List Step)(sub:List Sh)(l:List (List D)),p.map (λs=>(s.idx,s.off))=q.map (λs=>(s.idx,s.off))->bG sub l p=bG sub l q:=by
 intro p;induction p with
 |nil=>simp_all
 |cons st r ih=>
  intro q sub l h;cases q with
  |nil=>simp at h
  |cons b a=>
   simp only[List.map_cons,List.cons.injEq,Prod.mk.injEq]at h;obtain⟨⟨h1,h2⟩,h3⟩:=h;cases r with
   |nil=>simp_all[bG]
   |cons t u=>cases a<;>grind [bG]
theorem Jz{m:Mm}{p q:Pl}(h1:p.root=q.root)(h2:p.off=q.off)(h3:p.path.map (λs=>(s.idx,s.off))=q.path.map (λs=>(s.idx,s.off))):aU m p=aU m q:=by grind (splits:=20) [aU,Ky]
def T.owned:T->Bool
 |.mp _=>true
 |.it _ _=>true
 |.ow _ _=>true
 |_=>false
def T.toD:T->D
 |.d x=>x
 |.nil=>.li []
 |.ow _ l=>.li l
 |_=>.any
def bk(m:Mm)(p:Pl)(t:T):Mm:=
 match ah m p.root with
 |none=>m
 |some r=>cz m p.root { r with cells:=match p.path with
   |[]=>r.cells.set p.off t
   |st::q=>match r.cells[p.off]? with
    |some (.ow sub l)=>r.cells.set p.off (.ow sub (bX sub l t.toD (st::q)))
    |_=>r.cells }
theorem fM{m:Mm}{n':Nm}{r0:Root}(h:ah m n=some r0):ah (cz m n r) n'=if n=n' then some r else ah m n':=by induction m<;>grind [ah,cz]
def aS(cells:List T)(off:Nat)(path:List Step):Prop:=
 match path with
 |[]=>off<cells.length
 |st::q=>match cells[off]? with
  |some (.ow sub l)=>okO sub l (st::q)
  |_=>False
def bz(cells:List T)(off:Nat)(path:List Step):Prop:=
 match cells[off]?,path with
 |some (.ow _ _),[]=>True
 |some (.mp _),[]=>True
 |some (.it _ _),[]=>True
 |some (.ow sub l),st::q=>okO sub l (st::q)/\match bG sub l (st::q)with
  |some (.ow _,.li _)=>True
  |_=>False
 |_,_=>False
theorem ay{m:Mm}{p:Pl}:bU m p ↔ ∃r,ah m p.root=some r/\aS r.cells p.off p.path:=by grind [bU,aS]
theorem bV{m:Mm}{p:Pl}:gY m p ↔ ∃r,ah m p.root=some r/\bz r.cells p.off p.path:=by
 unfold gY bz
 grind
variable{sub:List Sh}
theorem Ch{l:List (List D)}{p:List Step}{P:Prop}(h:match bG sub l p with|some (.ow _,.li _)=>True|_=>False) :
  ∃s l',bG sub l p=some (.ow s,.li l'):=by
 grind
theorem xj{w w':World}{H:FH}{γ:Gam}{m:Mm}(hm:Mem w H γ m F){p:Pl}(hp:bU m p){t0 t:T}(h0:aU m p=some t0)(hno:t0.owned=false)
  {A:Addr} (hA:plA w γ p=some A) (hw:∀a,a≠A->w'.cell? a=w.cell? a):Keeps w γ m w' γ (bk m p t):=by
 have I:∀q:Pl,bU m q->(∃x,aU m q=some x/\x.owned=true)->plA w γ q≠some A:=by grind [adF,Jz]
 have O:∀q:Pl,bU m q->plA w' γ q=plA w γ q/\(q.path≠[]->aH w' (γ q.root) q.off=aH w (γ q.root) q.off):=by
  intro q hq;obtain⟨n,off,path⟩:=q;cases path with
  |nil=>exact⟨rfl,λh=>absurd rfl h⟩
  |cons st u=>
   obtain⟨r,hr,hc⟩:=ay.1 hq;dsimp only[aS]at hr hc;cases j:r.cells[off]? with
   |none=>grind
   |some tt=>
    rw[j]at hc;cases tt with
    |ow sub l=>
     have o:off<r.cells.length:=by grind
     have h1:bU m ⟨n,off,[]⟩:=ay.2 ⟨r,hr,o⟩
     have h2:=I ⟨n,off,[]⟩ h1 ⟨.ow sub l,by grind [aU],rfl⟩
     have z:aH w' (γ n) off=aH w (γ n) off:=by grind [plA,aH]
     refine⟨?_,λ_=>z⟩;simp only[plA,z];cases hv:aH w (γ n) off with
     |none=>rfl
     |some v=>
      simp only[Option.bind_some];refine LN hw (st::u) v (λa b e ha hb=>?_);rw[e]at hc;obtain⟨c1,s,l',c2⟩:=Og a b sub l ha hb hc;cases a with
      |nil=>grind
      |cons a1 Y=>
       have h3:bU m ⟨n,off,a1::Y⟩:=ay.2 ⟨r,hr,by grind [aS]⟩
       have h4:=I ⟨n,off,a1::Y⟩ h3 ⟨.ow s l',by grind [aU],rfl⟩
       grind [plA]
    |_=>grind
 obtain⟨d,J,aa⟩:=ay.1 hp;have N:∀(off:Nat)(sub:List Sh)(l:List (List D)),d.cells[off]? = some (T.ow sub l)->∀n,wfO n sub l:=by
  intro off sub l j n;obtain⟨v,g,_,⟨k,c2⟩,_⟩:=eE (hm.roots _ (aj J)) j
  grind [Eu]
 have E:∀q:Nm,ah (bk m p t) q=if p.root=q then some { d with cells:=match p.path with
   |[]=>d.cells.set p.off t
   |st::q=>match d.cells[p.off]? with
    |some (.ow sub l)=>d.cells.set p.off (.ow sub (bX sub l t.toD (st::q)))
    |_=>d.cells }else ah m q:=by
  grind [bk,fM]
 have G:∀st u,p.path=st::u->∀(sub:List Sh)(l:List (List D)),d.cells[p.off]? = some (T.ow sub l)->okO sub l (st::u)/\∀s l',bG sub l (st::u)≠some (.ow s,.li l'):=by grind [aS,aU,T.owned]
 have X:p.path=[]->∀(sub:List Sh)(l:List (List D)),d.cells[p.off]? ≠ some (T.ow sub l):=by grind [aU,T.owned]
 have R:∀q:Pl,bU m q->bU (bk m p t) q:=by
  intro q hq;obtain⟨r,hr,hc⟩:=ay.1 hq;rw[ay,E];by_cases hn:p.root=q.root
  .rw[if_pos hn];rw[<- hn,J]at hr;obtain rfl:d=r:=by grind
   refine⟨_,rfl,?_⟩;obtain⟨n,off,path⟩:=q;dsimp only at hc|-;cases path with
   |nil=>grind [aS]
   |cons st u=>
    dsimp only[aS]at hc|-;cases f:p.path with
    |nil=>grind
    |cons B u'=>
     dsimp only;cases i:d.cells[p.off]? with
     |none=>exact hc
     |some U=>
      cases U with
      |ow sub l=>
       dsimp only;by_cases V:p.off=off
       .subst V;have o:p.off<d.cells.length:=by grind
        rw[alH o];rw[i]at hc;obtain⟨g1,g2⟩:=G B u' f sub l i;exact(KT (st::u) (B::u') _ sub l t.toD (akR _) (N _ sub l i _) hc g1 g2).1
       grind
      |_=>exact hc
  grind
 have S:∀q:Pl,gY m q->gY (bk m p t) q:=by
  intro q hq;obtain⟨r,hr,hc⟩:=bV.1 hq;rw[bV,E];by_cases hn:p.root=q.root
  .rw[if_pos hn];rw[<- hn,J]at hr;obtain rfl:d=r:=by grind
   refine⟨_,rfl,?_⟩;obtain⟨n,off,path⟩:=q;dsimp only at hc|-;unfold bz at hc|-;cases j:d.cells[off]? with
   |none=>grind
   |some tt=>
    cases tt with
    |ow W l0=>
     rw[j]at hc;cases f:p.path with
     |nil=>grind
     |cons B u'=>
      dsimp only;cases i:d.cells[p.off]? with
      |none=>grind
      |some U=>
       cases U with
       |ow sub l=>
        dsimp only;by_cases V:p.off=off
        .subst V;have o:p.off<d.cells.length:=by grind
         rw[alH o];rw[i]at j;simp only[akO,T.ow.injEq]at j;obtain⟨rfl,rfl⟩:=j;cases path with
         |nil=>trivial
         |cons st u=>
          dsimp only at hc|-;obtain⟨g1,g2⟩:=G B u' f _ _ i;obtain⟨k1,k2⟩:=KT (st::u) (B::u') _ _ _ t.toD (akR _) (N _ _ _ i _) hc.1 g1 g2
          grind
        grind
       |_=>grind
    |mp l0=>grind [aU,T.owned]
    |it c0 l0=>grind [aU,T.owned]
    |_=>grind
  grind
 refine⟨λq hq=>⟨R q hq,(O q hq).1⟩,λq hq=>⟨S q hq,?_⟩⟩;have M:=fA hq
 obtain⟨Z,e2⟩:=O q M;have hg:∃x,aU m q=some x/\x.owned=true:=by
  obtain⟨r,hr,hc⟩:=bV.1 hq;unfold bz at hc;unfold aU;rw[hr];cases j:r.cells[q.off]? with
  |none=>grind
  |some tt=>
   cases K:q.path with
   |nil=>
    rw[j,K]at hc;cases tt with
    |ow sub l=>exact⟨_,by dsimp only;exact j,rfl⟩
    |mp l=>exact⟨_,by dsimp only;exact j,rfl⟩
    |it c l=>exact⟨_,by dsimp only;exact j,rfl⟩
    |_=>grind
   |cons st u=>
    rw[j,K]at hc;cases tt with
    |ow sub l=>obtain⟨s,l',e⟩:=Ch (P:=True) hc.2;exact⟨.ow s l',by grind,rfl⟩
    |_=>grind
 have C:=I q M hg
 obtain⟨n,off,path⟩:=q;cases path with
 |nil=>
  simp only[plV];cases Q:γ n with
  |gh v=>rfl
  |blk b=>simp only[plA,Q,ne_eq,akO]at C;exact hw _ C
 |cons st u=>
  have L:=e2 (by simp)
  simp only[plA,L]at Z C;simp only[plV,L,Z];cases hz:(aH w (γ n) off).bind λy=>bu w y (st::u)with
  |none=>rfl
  |some a=>grind
def pW:Sh->T->Prop
 |.fr,.d _=>True
 |.fr,.nil=>True
 |.ow s,.ow s' _=>s=s'
 |.ow _,.nil=>True
 |_,_=>False
theorem lN{H:FH}:FDx H (.li []) (.slice none 0 0):=⟨1,none,0,rfl,akR _,alL _,.inl rfl⟩
variable{y:Value}
theorem aiC{w:World}{H:FH}{γ:Gam}{m:Mm}{s:Sh}{t:T}(hs:pW s t)(h:TR w H γ m t f y):∃k,OD w H k s t.toD f y:=by
 cases s with
 |fr=>
  cases t with
  |d x=>exact⟨0,fV.2 h⟩
  |nil=>obtain⟨h0,rfl⟩:=h;exact⟨0,fV.2 ⟨h0,lN⟩⟩
  |_=>exact hs.elim
 |ow s=>
  cases t with
  |ow s' l=>obtain rfl:s=s':=hs;exact h
  |nil=>obtain⟨h0,rfl⟩:=h;exact⟨1,fo.2 (.inl ⟨rfl,rfl,h0⟩)⟩
  |_=>exact hs.elim
def adX(m:Mm)(p:Pl):Option Sh:=
 match ah m p.root with
 |none=>none
 |some r=>match r.cells[p.off]? with
  |some (.ow sub l)=>(bG sub l p.path).map (·.1)
  |_=>none
theorem dH{m:Mm}:tot F (cz m n r) b=tot F m b:=by induction m<;>grind [cz,eY]
theorem np{m:Mm}:(cz m n r).map (·.1)=m.map (·.1):=by induction m<;>grind [cz]
theorem qf{m:Mm}(hk:(m.map (·.1)).Nodup)(h:x∈cz m n r):(x.1≠n/\x∈m)\/x=(n,r):=by induction m<;>grind [cz]
theorem Zp{m:Mm}{ft:Fp}(h:n ∉ m.map (·.1)):tot (λk b=>F k b+if k=n then ft b else 0) m b=tot F m b:=by
 induction m with
 |nil=>rfl
 |cons x m ih=>grind [eY]
theorem Gk{m:Mm}{ft:Fp}(hk:(m.map (·.1)).Nodup)(h:ah m n=some r) :
  tot (λk b=>F k b+if k=n then ft b else 0) m b=tot F m b+ft b:=by
 induction m with
 |nil=>simp[ah]at h
 |cons x m ih=>
  obtain⟨k,y⟩:=x;simp only[List.map_cons,alG]at hk;simp only[ah]at h;rw[eY,eY];split at h
  .rename_i e;subst e;rw[Zp hk.1];grind
  grind
variable{cs:Array Value}
theorem oF{w:World}{ty:TypeId}{fz:Nat×Nat}(h:w.heap[b]? = some (.cells cs ty fz)) :
  (w.setCell ⟨b,k,none⟩ y).heap[b]? = some (.cells (cs.setIfInBounds k y) ty fz):=by
 grind [World.setCell]
theorem Dt{w:World}{ty:TypeId}{fz:Nat×Nat}(h:w.heap[b]? = some (.cells cs ty fz))(h2:KR fz cs.size)(_:k<cs.size) :
  w.frozen? ⟨b,k,none⟩=false:=by
 grind [KR,World.frozen?]
theorem jM{w:World}{b':Nat}(h:b'≠b):(w.setCell ⟨b,k,none⟩ y).heap[b']? = w.heap[b']? := by grind [World.setCell]
theorem Thawed.setCell{w:World}{c:Nat}(h:Thawed w c):Thawed (w.setCell ⟨b,k,none⟩ y) c:=by
 obtain⟨cs,ty,h⟩:=h;by_cases e:c=b
 .subst e;exact⟨_,_,oF h⟩
 exact⟨cs,ty,(jM e).trans h⟩
theorem Ru{w:World}{H:FH}{γ:Gam}{m:Mm}{F:Nm->Fp}(hm:Mem w H γ m F){p:Pl}(hp:bU m p){t0 t:T}(h0:aU m p=some t0)(hno:t0.owned=false)
  {b k:Nat} (Q:plA w γ p=some ⟨b,k,none⟩) {ft:Fp} {y:Value} (ht:TR w H γ m t ft y) (af:pi y=true)
  (ac:p.path=[]\/∃s,adX m p=some s/\pW s t)
  (hd:∀c,tot F m c+ft c<=1) (hl:∀c,ft c≠0->c<w.heap.size/\∀o,H c o=none) :
  (∃z,w.cell? ⟨b,k,none⟩=some z)/\w.frozen? ⟨b,k,none⟩=false /\
   Mem (w.setCell ⟨b,k,none⟩ y) H γ (bk m p t) (λn c=>F n c+if n=p.root then ft c else 0):=by
 have Z:=(A6 hm hp Q).1
 dsimp only at Z;have ad:ft b=0:=by obtain⟨r,hr,_⟩:=ay.1 hp;have:=bD (F:=F) (aj hr) b;grind
 have hw:∀a,a≠(⟨b,k,none⟩:Addr)->(w.setCell ⟨b,k,none⟩ y).cell? a=w.cell? a:=λa ha=>World.cell?_setCell_other _ _ _ _ (λe=>ha e.symm)
 have R:=xj hm hp h0 hno (t:=t) Q hw
 obtain⟨G,B,A⟩:=ay.1 hp;have ae:∀c,F p.root c<=1:=λc=>by have:=hm.le1 c;have:=bD (F:=F) (aj B) c;grind
 have i:=hm.roots _ (aj B)
 dsimp only at i;have E:∀c,c≠b->(w.setCell ⟨b,k,none⟩ y).heap[c]? = w.heap[c]? := λc hc=>jM hc
 have P:TR (w.setCell ⟨b,k,none⟩ y) H γ (bk m p t) t ft y:=jk R (λ_ _ _ h=>h) (λc hc=>E c (by grind)) ht
 have K:(∃z,w.cell? ⟨b,k,none⟩=some z)/\w.frozen? ⟨b,k,none⟩=false /\
   bv (w.setCell ⟨b,k,none⟩ y) H γ (bk m p t) p.root { G with cells:=match p.path with
    |[]=>G.cells.set p.off t
    |st::q=>match G.cells[p.off]? with
     |some (.ow sub l)=>G.cells.set p.off (.ow sub (bX sub l t.toD (st::q)))
     |_=>G.cells } (λc=>F p.root c+ft c):=by
  have O:∀(st:Step)(u:List Step)(sub:List Sh)(l:List (List D))(v:Value)(g:Fp),p.path=st::u->G.cells[p.off]? = some (.ow sub l)->okO sub l (st::u) ->
    TR w H γ m (.ow sub l) g v->(∀c,g c<=1)->bu w v (st::u)=some ⟨b,k,none⟩ ->
    (∃z,w.cell? ⟨b,k,none⟩=some z)/\w.frozen? ⟨b,k,none⟩=false/\g b≠0 /\
     TR (w.setCell ⟨b,k,none⟩ y) H γ (bk m p t) (.ow sub (bX sub l t.toD (st::u))) (λc=>g c+ft c) v:=by
   intro st u sub l v g f aa ab ⟨n,W⟩ U C;obtain⟨b',k',z,s,x,cs,ty,fz,f1,f2,S,c2,c3,c4,c5,c6,c7,c8,c9⟩:=yh (st::u) n sub l g v W U ab;rw[C]at S;simp only[akO,Addr.mk.injEq,and_true]at S;obtain⟨rfl,rfl⟩:=S;have hk:k<cs.size:=by grind
   refine⟨⟨z,by grind [World.cell?]⟩,?_,by grind,?_⟩
   .grind [Dt]
   . -- its cell was not owned
    have ag:∀c,f1 c=0:=by
     have hg:aU m p=some (match s,x with|.fr,x=>.d x|.ow s,.li l'=>.ow s l'|.ow _,_=>.any):=by
      unfold aU;rw[B,f];simp only[aa,c5];cases s with
      |fr=>rfl
      |ow s=>cases x<;>rfl
     rw[h0]at hg;simp only[akO]at hg;cases s with
     |fr=>grind [fV]
     |ow s=>cases x with
      |li l'=>grind [T.owned]
      |any=>grind [OD]
      |_=>grind [OD]
    have X:pW s t:=by grind [adX]
    obtain⟨j,hj⟩:=aiC X P;obtain⟨M,hM⟩:=c9 (w.setCell ⟨b,k,none⟩ y) H y t.toD ft j (λ_ _ _ h=>h) (oF c2) (λc h1 _=>E c h1) hj;exact⟨M,Io (λc=>by grind) hM⟩
  unfold bv at i|-;dsimp only;split at i
  .rename_i hb;rw[if_pos hb];obtain⟨b0,cs,ty,fz,g,h1,h2,h3,h4,h5,h6⟩:=i;cases f:p.path with
   |nil=>
    dsimp only;simp only[plA,f,h1,akO,Addr.mk.injEq,and_true]at Q;obtain⟨rfl,rfl⟩:=Q;rw[f]at A;dsimp only[aS]at A;obtain⟨s,x,v,L,fr,a1,a2,a3,a4,a5,a6,_⟩:=cX _ _ _ _ _ h5 A;have hv:cs[p.off]? = some v:=by grind
    have hk:p.off<cs.size:=by omega
    refine⟨⟨v,by grind [World.cell?]⟩,?_,b0,cs.setIfInBounds p.off y,ty,fz,λc=>ft c+fr c,h1,oF h2,by grind,by grind,?_,?_⟩
    .exact Dt h2 h3.1 hk
    .unfold Ts;rw[amG];have:=a6 (λ_ t'=>TR (w.setCell ⟨b0,p.off,none⟩ y) H γ (bk m p t) t') t y ft (λ_ x g' v Y hx=>jk R (λ_ _ _ h=>h) (λc hc=>E c (by grind)) hx) P
     grind
    intro c;have:L c=0:=by
     simp only[aU,B,f,a2,akO]at h0;subst h0;cases x with
     |ow sub l=>grind [T.owned]
     |mp l=>grind [T.owned]
     |it c l=>grind [T.owned]
     |d x=>exact a5.1 c
     |nil=>exact a5.1 c
     |el row off=>exact a5.1 c
     |pl q=>exact a5.1 c
     |rf q=>exact a5.1 c
     |any=>exact a5 c
    grind
   |cons st u=>
    rw[f]at A;dsimp only[aS]at A;cases I:G.cells[p.off]? with
    |none=>grind
    |some tt=>
     rw[I]at A;cases tt with
     |ow sub l=>
      dsimp only at A|-;have V:p.off<G.cells.length:=by grind
      obtain⟨s,x,v,L,fr,a1,a2,a3,a4,a5,a6,_⟩:=cX _ _ _ _ _ h5 V;rw[I]at a2;obtain rfl:T.ow sub l=x:=by grind
      have hv:cs[p.off]? = some v:=by grind
      have C:bu w v (st::u)=some ⟨b,k,none⟩:=by grind [plA,aH,World.cell?]
      obtain⟨e1,e2,e3,e4⟩:=O st u sub l v L f I A a5 (λc=>by grind) C;have ah:b0≠b:=by grind
      refine⟨e1,e2,b0,cs,ty,fz,λc=>(L c+ft c)+fr c,h1,by grind,h3,by grind,?_,?_⟩
      .unfold Ts;rw[amG];have:=a6 (λ_ t'=>TR (w.setCell ⟨b,k,none⟩ y) H γ (bk m p t) t') (.ow sub (bX sub l t.toD (st::u))) v (λc=>L c+ft c) (λ_ x g' v Y hx=>jk R (λ_ _ _ h=>h) (λc hc=>E c (by grind)) hx) e4
       have hs:cs.toList.set p.off v=cs.toList:=by
        apply al1
        grind
       grind
      grind
     |_=>grind
  grind [plA,aS,aH]
 obtain⟨m1,m2,m3⟩:=K;refine⟨m1,m2,?_⟩;have J:bk m p t=cz m p.root { G with cells:=match p.path with
    |[]=>G.cells.set p.off t
    |st::q=>match G.cells[p.off]? with
     |some (.ow sub l)=>G.cells.set p.off (.ow sub (bX sub l t.toD (st::q)))
     |_=>G.cells }:=by
  grind [bk]
 have N:∀c,tot (λn c=>F n c+if n=p.root then ft c else 0) (bk m p t) c=tot F m c+ft c:=by intro c;rw[J,dH,Gk hm.keys B]
 constructor
 .intro b' o v hv;refine(hm.agree b' o v hv).frame (E b' λe=>?_);subst e;have:=hm.nofz b' (by have:=bD (F:=F) (aj B) b';grind) o
  grind
 .intro x hx;rw[J]at hx;rcases qf hm.keys hx with⟨hn,hx⟩|rfl
  .have h:=aZ (γ':=γ) R (λ_ _ _ h=>h) rfl (λc hc=>E c (by
    intro e;subst e;have:=vB (F:=F) (aj B) hx (λe=>hn e.symm) c
    grind)) (hm.roots x hx)
   simp_all
  grind
 .grind [np,Mem.keys]
 .grind
 .grind [World.size_setCell,Mem.lt]
 intro c hc;rw[N]at hc;by_cases h:ft c=0
 .exact hm.nofz c kQ1
 grind
def Pl.offs(p:Pl):List Nat:=p.off::p.path.map (·.off)
def thr(q:Pl)(rf:Bool)(p:Pl):Bool:=decide (q.root=p.root)&&q.offs.isPrefixOf p.offs&&(rf||q.offs != p.offs)
def T.kill(bad:Bool->Pl->Bool):T->T
 |.pl p=>if bad false p then .any else .pl p
 |.rf p=>if bad true p then .any else .rf p
 |t=>t
def AV1.kill(bad:Bool->Pl->Bool):AV1->AV1
 |.c t=>.c (t.kill bad)
 |.agg ts=>.agg (ts.map (·.kill bad))
def AV.kill(bad:Bool->Pl->Bool):AV->AV
 |.one x=>.one (x.kill bad)
 |.tup xs=>.tup (xs.map (·.kill bad))
 |.any=>.any
def aM(bad:Bool->Pl->Bool)(m:Mm):Mm:=m.map λx=>(x.1,{ x.2 with cells:=x.2.cells.map (·.kill bad) })
def nu(bad:Bool->Pl->Bool)(t:List (Nat×AV)):List (Nat×AV):=t.map λx=>(x.1,x.2.kill bad)
structure KeepsB (bad:Bool->Pl->Bool) (w:World) (γ:Gam) (m:Mm) (w':World) (γ':Gam) (m':Mm):Prop where
 pl:∀q,bad false q=false->bU m q->bU m' q/\plA w' γ' q=plA w γ q
 rf:∀q,bad true q=false->gY m q->gY m' q/\plV w' γ' q=plV w γ q
section
variable {bad:Bool->Pl->Bool} {w w':World} {H H':FH} {γ γ':Gam} {m m':Mm}
theorem qR(i:KeepsB bad w γ m w' γ' m')(e:∀b o y,H b o=some y->H' b o=some y)
  {t:T} {f:Fp} {y:Value} (hw:∀b,f b≠0->w'.heap[b]? = w.heap[b]?) (h:TR w H γ m t f y):TR w' H' γ' m' (t.kill bad) f y:=by
 cases t with
 |d x=>exact⟨h.1,eL e h.2⟩
 |nil=>exact h
 |ow sub l=>obtain⟨k,h⟩:=h;exact⟨k,cK e k k _ _ _ _ (akR _) hw h⟩
 |mp l=>obtain⟨b,es,ck,g,h1,h2,h3,h4,h5⟩:=h;exact⟨b,es,ck,g,h1,by grind,h3,kn e (λc hc=>hw c (by grind)) h4,h5⟩
 |it cur rest=>obtain⟨r,m,a,s,c,h1,h2,h3,h4⟩:=h;exact⟨r,m,a,s,c,h1,by grind,Ik e h3,h4⟩
 |el row off=>obtain⟨h0,b,o,k,h1,h2⟩:=h;exact⟨h0,b,o,k,h1,mS e h2⟩
 |pl p=>
  obtain⟨h0,h1,a,h2,h3⟩:=h;simp only[T.kill];split
  .exact h0
  rename_i hb;obtain⟨k1,k2⟩:=i.pl p (by grind) h1;exact⟨h0,k1,a,by grind,h3⟩
 |rf p=>
  obtain⟨h0,h1,h2⟩:=h;simp only[T.kill];split
  .exact h0
  rename_i hb;obtain⟨k1,k2⟩:=i.rf p (by grind) h1;exact⟨h0,k1,by grind⟩
 |any=>exact h
theorem L1{R d:α->β->Fp->Value->Prop}{g:β->β}:∀{a:List α}{xs:List β}{f:Fp}{vs:List Value},
  (∀s x h v,(∀b,h b<=f b)->R s x h v->d s (g x) h v)->Cs R a xs f vs->Cs d a (xs.map g) f vs
 |[],[],_,_,_,h=>h
 |s::a,x::xs,f,vs,c,h=>by obtain⟨v,r,f1,e,hv,hf,h1,h2⟩:=h;exact⟨v,r,f1,e,hv,hf,c _ _ _ _ (λb=>by grind) h1,L1 (λs x h v i=>c s x h v (λb=>by grind)) h2⟩
 |[],_::_,_,_,_,h=>h.elim
 |_::_,[],_,_,_,h=>h.elim
theorem t8(a:KeepsB bad w γ m w' γ' m')(c:∀b o y,H b o=some y->H' b o=some y)
  {ts:List T} {f:Fp} {vs:List Value} (hw:∀b,f b≠0->w'.heap[b]? = w.heap[b]?) (h:Ts (TR w H γ m) ts f vs):Ts (TR w' H' γ' m') (ts.map (·.kill bad)) f vs:=by
 grind [Ts,L1,qR]
theorem Gt(a:KeepsB bad w γ m w' γ' m')(d:∀b o y,H b o=some y->H' b o=some y){x:AV1}(h:AR1 w H γ m x y):AR1 w' H' γ' m' (x.kill bad) y:=by
 cases x with
 |c t=>exact qR a d (λb hb=>absurd rfl hb) h
 |agg ts=>obtain⟨cs,h1,h2,h3⟩:=h;exact⟨cs,h1,by grind,t8 a d (λb hb=>absurd rfl hb) h3⟩
theorem Gu(a:KeepsB bad w γ m w' γ' m')(d:∀b o y,H b o=some y->H' b o=some y) :
  ∀{xs:List AV1}{c:List Value},ARs w H γ m xs c->ARs w' H' γ' m' (xs.map (·.kill bad)) c
 |[],[],_=>trivial
 |_::_,_::_,h=>⟨Gt a d h.1,Gu a d h.2⟩
 |[],_::_,h=>h.elim
 |_::_,[],h=>h.elim
theorem tM(a:KeepsB bad w γ m w' γ' m')(c:∀b o y,H b o=some y->H' b o=some y){x:AV}(h:AR w H γ m x y):AR w' H' γ' m' (x.kill bad) y:=by
 cases x with
 |one x=>exact Gt a c h
 |tup xs=>obtain⟨l,h1,h2⟩:=h;exact⟨l,h1,Gu a c h2⟩
 |any=>trivial
theorem sH(d:KeepsB bad w γ m w' γ' m')(a:∀b o y,H b o=some y->H' b o=some y)
  {n:Nm} {r:Root} {f:Fp} (e:γ' n=γ n) (hw:∀b,f b≠0->w'.heap[b]? = w.heap[b]?) (h:bv w H γ m n r f) :
  bv w' H' γ' m' n { r with cells:=r.cells.map (·.kill bad) } f:=by
 unfold bv at h|-;dsimp only;split at h
 .rename_i hb;rw[if_pos hb];obtain⟨b,cs,ty,fz,g,h1,h2,h3,h4,h5,h6⟩:=h;exact⟨b,cs,ty,fz,g,by grind,by grind,h3,by grind,
   t8 d a (λc hc=>hw c (by grind)) h5,h6⟩
 grind [qR]
end
theorem kY{bad:Bool->Pl->Bool}{m:Mm}:ah (aM bad m) n=(ah m n).map λr=>{ r with cells:=r.cells.map (·.kill bad) }:=by
 induction m with
 |nil=>rfl
 |cons x m ih=>
  obtain⟨k,y⟩:=x;simp only[aM,List.map_cons,ah];split
  .rfl
  exact ih
variable{cells:List T}{path:List Step}
theorem FM{bad:Bool->Pl->Bool}{off:Nat}(h:aS cells off path):aS (cells.map (·.kill bad)) off path:=by
 cases path with
 |nil=>grind [aS]
 |cons st u=>
  simp only[aS,akT]at h|-;cases a:cells[off]? with
  |none=>grind
  |some t=>
   rw[a]at h;cases t with
   |ow sub l=>exact h
   |_=>grind
theorem AY{bad:Bool->Pl->Bool}{off:Nat}(h:bz cells off path):bz (cells.map (·.kill bad)) off path:=by
 unfold bz at h|-;simp only[akT];cases a:cells[off]? with
 |none=>grind
 |some t=>
  rw[a]at h;cases t with
  |ow sub l=>exact h
  |mp l=>exact h
  |it c l=>exact h
  |_=>grind
variable{q:Pl}
theorem s7{bad:Bool->Pl->Bool}{m:Mm}(h:bU m q):bU (aM bad m) q:=by grind [ay,kY,FM]
theorem s8{bad:Bool->Pl->Bool}{m:Mm}(h:gY m q):gY (aM bad m) q:=by grind [bV,kY,AY]
theorem bg{bad:Bool->Pl->Bool}{m:Mm}:tot F (aM bad m) b=tot F m b:=by induction m<;>grind [aM,tot]
theorem oL{bad:Bool->Pl->Bool}{m:Mm}:(aM bad m).map (·.1)=m.map (·.1):=by simp[aM,Function.comp_def]
theorem KS:∀(p q:List Step)(sub:List Sh)(l:List (List D))(x:D)(n:Nat),p.length+q.length<=n->wfO n sub l->okO sub l p->okO sub l q ->
  ((q.map (·.off)).isPrefixOf (p.map (·.off))=false\/q.map (·.off)=p.map (·.off)->okO sub (bX sub l x q) p) /\
  ((q.map (·.off)).isPrefixOf (p.map (·.off))=false->∀s l',bG sub l p=some (.ow s,.li l')->∃v,bG sub (bX sub l x q) p=some (.ow s,.li v)):=by
 intro p;induction p with
 |nil=>intro q sub l x n _ _ h;exact h.elim
 |cons st r ih=>
  intro q sub l x n hn B hp hq;cases q with
  |nil=>grind
  |cons a d=>
  cases n with
  |zero=>grind
  |succ n=>
  obtain⟨F,b⟩:=B;have o:st.idx<l.length/\st.esz=sub.length/\st.off<sub.length:=by
   cases r with
   |nil=>exact hp
   |cons _ _=>exact hp.1
  have f:a.idx<l.length/\a.esz=sub.length/\a.off<sub.length:=by
   cases d with
   |nil=>exact hq
   |cons _ _=>exact hq.1
  obtain⟨hi,I,K⟩:=o;obtain⟨z,H,J⟩:=f;have m:a.off < (l.getD a.idx []).length:=by grind
  have key:∃y,bX sub l x (a::d)=l.set a.idx ((l.getD a.idx []).set a.off y) /\
    (∀t u,d=t::u->∃s2 l2,sub[a.off]? = some (.ow s2)/\(l.getD a.idx []).getD a.off default=.li l2/\y=.li (bX s2 l2 x (t::u))/\okO s2 l2 (t::u)):=by
   cases d with
   |nil=>exact⟨x,rfl,λt u h=>by simp at h⟩
   |cons t u=>
    obtain⟨_,hq⟩:=hq;cases hs:sub[a.off]? with
    |none=>grind
    |some s0=>
     rw[hs]at hq;cases s0 with
     |fr=>grind
     |ow s2=>
      cases hd:(l.getD a.idx []).getD a.off default with
      |li l2=>
       rw[hd]at hq;refine⟨.li (bX s2 l2 x (t::u)),by grind [bX],λt' u' h=>?_⟩
       grind
      |_=>grind
  obtain⟨y,g,c⟩:=key;rw[g];have hget:=λi' j'=>Dx (l:=l) (i:=a.idx) (j:=a.off) (i':=i') (j':=j') (y:=y) z m
  cases r with
  |nil=>
   refine⟨λ_=>⟨by grind,I,K⟩,λC s l' h=>?_⟩;simp only[bG]at h|-;rw[hget];by_cases e:a.idx=st.idx/\a.off=st.off
   .rw[if_pos e];obtain⟨E,k⟩:=e;cases d<;>grind
   grind
  |cons t u=>
   obtain⟨_,hp⟩:=hp;cases hs:sub[st.off]? with
   |none=>grind
   |some s0=>
    rw[hs]at hp;cases s0 with
    |fr=>grind
    |ow s2=>
     cases hd:(l.getD st.idx []).getD st.off default with
     |li l2=>
      rw[hd]at hp;have G:=hget st.idx st.off
      by_cases e:a.idx=st.idx/\a.off=st.off
      .rw[if_pos e]at G;obtain⟨E,k⟩:=e;cases d with
       |nil=>grind
       |cons t' u'=>
        obtain⟨M,L,A,w,rfl,a4⟩:=c t' u' rfl;rw[k,hs]at A;rw[E,k,hd]at w;simp only[akO,Sh.ow.injEq]at A;simp only[D.li.injEq]at w;subst A;subst w;obtain⟨g1,g2⟩:=ih (t'::u') s2 l2 x n (by grind) (b st.idx st.off s2 l2 hs hd) hp a4
        grind [okO,bG]
      grind [okO,bG]
     |_=>grind
theorem Aj{m:Mm}{p:Pl}{t:T}{a:Root}(b:ah m p.root=some a)(q:Nm):ah (bk m p t) q=if p.root=q then some { a with cells:=match p.path with
   |[]=>a.cells.set p.off t
   |st::q=>match a.cells[p.off]? with
    |some (.ow sub l)=>a.cells.set p.off (.ow sub (bX sub l t.toD (st::q)))
    |_=>a.cells }else ah m q:=by
 grind [bk,fM]
theorem bT{l:List α}{x:α}(h:l[i]? = some x):i<l.length:=by grind
theorem px{w:World}{H:FH}{γ:Gam}{m:Mm}(hm:Mem w H γ m F)(hq:bU m q) :
  KeepsB (thr q) w γ m w γ (aM (thr q) (bk m q .any)):=by
 obtain⟨h,d,a⟩:=ay.1 hq;have e:=Aj (t:=T.any) d
 have j:∀(off:Nat)(sub:List Sh)(l:List (List D)),h.cells[off]? = some (T.ow sub l)->∀n,wfO n sub l:=by
  intro off sub l i n;obtain⟨v,g,_,⟨k,z⟩,_⟩:=eE (hm.roots _ (aj d)) i
  grind [Eu]
 constructor
 .intro p hb hp;refine⟨s7 ?_,rfl⟩;obtain⟨r,hr,hc⟩:=ay.1 hp;rw[ay,e];by_cases hn:q.root=p.root
  .rw[if_pos hn];rw[<- hn,d]at hr;obtain rfl:h=r:=by grind
   refine⟨_,rfl,?_⟩;simp only[thr,hn,decide_true,ak9,Bool.false_or,Pl.offs]at hb;obtain⟨n,off,path⟩:=p;dsimp only at hc hb|-;cases path with
   |nil=>grind [aS]
   |cons st u=>
    dsimp only[aS]at hc|-;cases b:q.path with
    |nil=>grind
    |cons f u'=>
     dsimp only;rw[b]at a;dsimp only[aS]at a;cases c:h.cells[q.off]? with
     |none=>exact hc
     |some s=>
      rw[c]at a;cases s with
      |ow sub l=>
       dsimp only at a|-;by_cases o:q.off=off
       .subst o;rw[alH (bT c)];rw[c]at hc;refine(KS (st::u) (f::u') sub l _ _ (akR _) (j _ sub l c _) hc a).1 ?_
        grind
       grind
      |_=>exact hc
  grind
 intro p hb hp;refine⟨s8 ?_,rfl⟩;obtain⟨r,hr,hc⟩:=bV.1 hp;rw[bV,e];by_cases hn:q.root=p.root
 .rw[if_pos hn];rw[<- hn,d]at hr;obtain rfl:h=r:=by grind
  refine⟨_,rfl,?_⟩;simp only[thr,hn,decide_true,ak9,Bool.true_or,amN,Pl.offs]at hb;obtain⟨n,off,path⟩:=p;dsimp only at hc hb|-;unfold bz at hc|-;cases i:h.cells[off]? with
  |none=>grind
  |some tt=>
   cases tt with
   |ow y x=>
    rw[i]at hc;cases b:q.path with
    |nil=>grind
    |cons f u'=>
     dsimp only;rw[b]at a;dsimp only[aS]at a;cases c:h.cells[q.off]? with
     |none=>grind
     |some s=>
      rw[c]at a;cases s with
      |ow sub l=>
       dsimp only at a|-;by_cases o:q.off=off
       .subst o;rw[alH (bT c)];rw[c]at i;simp only[akO,T.ow.injEq]at i;obtain⟨rfl,rfl⟩:=i;cases path with
        |nil=>trivial
        |cons st u=>
         dsimp only at hc|-;rw[b]at hb;simp only[List.isPrefixOf_cons_cons,beq_self_eq_true,ak9]at hb;obtain⟨k1,k2⟩:=KS (st::u) (f::u') _ _ T.any.toD _ (akR _) (j _ _ _ c _) hc.1 a
         grind
       grind
      |_=>grind
   |mp x=>grind
   |it A x=>grind
   |_=>grind
 grind
theorem ad7{F:Nm->Fp}{m:Mm}{g:Fp}{b:Nat}(hk:(m.map (·.1)).Nodup)(h:ah m n=some r)(a:∀b,g b<=F n b) :
  tot (λk b=>F k b-if k=n then g b else 0) m b+g b=tot F m b:=by
 have e:=Gk (F:=λk b=>F k b-if k=n then g b else 0) (ft:=g) (b:=b) hk h
 rw[<- e];have:(λk b=>(F k b-if k=n then g b else 0)+if k=n then g b else 0)=F:=by grind
 rw[this]
theorem qA{l:List α}{x:α}(h:l[i]? = some x):l.set i x=l:=by
 apply al1
 grind
theorem oc{z:Value}(h:cs[k]? = some z):cs.setIfInBounds k z=cs:=by grind
theorem zd{w:World}{H:FH}{γ:Gam}{m:Mm}{F:Nm->Fp}(hm:Mem w H γ m F)(hq:bU m q){l:List (List D)}(r:aU m q=some (.ow sub l)) :
  ∃g v,plV w γ q=some v/\TR w H γ m (.ow sub l) g v/\(∀b,g b<=F q.root b)/\(∀b,tot (λn b=>F n b-if n=q.root then g b else 0) m b+g b=tot F m b) /\
   ∀H':FH,(∀b o y,H b o=some y->H' b o=some y)->(∀b o y,H' b o=some y->RdV w b o y) ->
    (∀b,tot (λn b=>F n b-if n=q.root then g b else 0) m b≠0->∀o,H' b o=none) ->
    Mem w H' γ (aM (thr q) (bk m q .any)) (λn b=>F n b-if n=q.root then g b else 0):=by
 have Z:=px hm hq
 obtain⟨p,j,f⟩:=ay.1 hq;have e:=hm.roots _ (aj j)
 dsimp only at e;have O:∀c,F q.root c<=1:=λc=>by have:=hm.le1 c;have:=bD (F:=F) (aj j) c;grind
 have L:∃g v,plV w γ q=some v/\TR w H γ m (.ow sub l) g v/\(∀b,g b<=F q.root b) /\
   ∀H':FH,(∀b o y,H b o=some y->H' b o=some y) ->
    bv w H' γ (aM (thr q) (bk m q .any)) q.root { p with cells:=List.map (λt=>T.kill (thr q) t) (match q.path with
     |[]=>p.cells.set q.off .any
     |st::u=>match p.cells[q.off]? with
      |some (.ow sub l)=>p.cells.set q.off (.ow sub (bX sub l .any (st::u)))
      |_=>p.cells) } (λb=>F q.root b-g b):=by
  have C:∀(st:Step)(u:List Step)(a:List Sh)(A:List (List D))(v0:Value)(I:Fp),q.path=st::u->p.cells[q.off]? = some (.ow a A)->okO a A (st::u) ->
    TR w H γ m (.ow a A) I v0->(∀c,I c<=1)->∃g v,(bu w v0 (st::u)).bind w.cell? = some v/\TR w H γ m (.ow sub l) g v/\(∀b,g b<=I b) /\
     ∀H':FH,(∀b o y,H b o=some y->H' b o=some y)->∀m',TR w H' γ m' (.ow a (bX a A .any (st::u))) (λc=>I c-g c) v0:=by
   intro st u a A v0 I d ht ab ⟨n,X⟩ V;obtain⟨b,k,z,s,x,cs,ty,fz,f1,f2,c1,c2,c3,c4,c5,c6,c7,c8,c9⟩:=yh (st::u) n a A I v0 X V ab;unfold aU at r;rw[j,d]at r;simp only[ht,c5]at r;refine⟨f1,z,by grind [World.cell?],?_,λb=>by grind,λH' B m'=>?_⟩
   .cases s with
    |fr=>grind
    |ow s=>cases x with
     |li l'=>simp only[akO,T.ow.injEq]at r;obtain⟨rfl,rfl⟩:=r;exact⟨n,c8⟩
     |_=>grind
   cases s with
   |fr=>grind
   |ow s=>obtain⟨M,hM⟩:=c9 w H' z .any (λ_=>0) 1 B (by grind [oc]) (λ_ _ _=>rfl) (by simp[OD]);exact⟨M,Io (λc=>by grind) hM⟩
  unfold bv at e|-;dsimp only;split at e
  .rename_i hb;obtain⟨b0,cs,ty,fz,g,h1,h2,h3,h4,h5,h6⟩:=e;cases d:q.path with
   |nil=>
    unfold aU at r;rw[j,d]at r;dsimp only at r;obtain⟨s,x,v,J,fr,a1,a2,a3,a4,a5,a6,_⟩:=cX _ _ _ _ _ h5 (bT r);rw[r]at a2;obtain rfl:T.ow sub l=x:=by grind
    have hv:cs[q.off]? = some v:=by grind
    refine⟨J,v,?_,a5,λb=>by grind,λH' B=>?_⟩
    .grind [plV,aH,World.cell?]
    rw[if_pos hb];refine⟨b0,cs,ty,fz,fr,h1,h2,h3,by grind,?_,λc=>by grind⟩;have E:=a6 (λ_ t=>TR w H γ m t) T.any v (λ_=>0) (λ_ x g' N Y hx=>hx) (λ_=>rfl)
    rw[qA a3]at E;have G:Ts (TR w H γ m) (p.cells.set q.off .any) fr cs.toList:=by grind [Ts]
    exact t8 Z B (λ_ _=>rfl) G
   |cons st u=>
    rw[d]at f;dsimp only[aS]at f;cases i:p.cells[q.off]? with
    |none=>grind
    |some tt=>
     rw[i]at f;cases tt with
     |ow a A=>
      dsimp only at f|-;obtain⟨s,x,v,J,fr,a1,a2,a3,a4,a5,a6,_⟩:=cX _ _ _ _ _ h5 (bT i);rw[i]at a2;obtain rfl:T.ow a A=x:=by grind
      have hv:cs[q.off]? = some v:=by grind
      obtain⟨g',N,e1,U,e3,S⟩:=C st u a A v J d i f a5 (λc=>by grind);refine⟨g',N,?_,U,λb=>by grind,λH' B=>?_⟩
      .grind [plV,aH,World.cell?]
      rw[if_pos hb];refine⟨b0,cs,ty,fz,λc=>(J c-g' c)+fr c,h1,h2,h3,by grind,?_,λc=>by grind⟩;have E:=a6 (λ_ t=>TR w H γ m t) (.ow a (bX a A .any (st::u))) v (λc=>J c-g' c) (λ_ x g' N Y hx=>hx) (S H (λ_ _ _ h=>h) m)
      rw[qA a3]at E;have G:Ts (TR w H γ m) (p.cells.set q.off (.ow a (bX a A .any (st::u)))) (λc=>(J c-g' c)+fr c) cs.toList:=by grind [Ts]
      exact t8 Z B (λ_ _=>rfl) G
     |_=>grind
  rename_i hb;obtain⟨v,t',h1,h2,h3⟩:=e;cases d:q.path with
  |nil=>
   unfold aU at r;rw[j,d]at r;dsimp only at r;have Q:q.off=0:=by grind
   rw[h2,Q]at r;obtain rfl:t'=T.ow sub l:=by grind
   refine⟨F q.root,v,?_,h3,λ_=>akR _,λH' B=>?_⟩
   .grind [plV,aH]
   rw[if_neg hb];refine⟨v,.any,h1,?_,λc=>Nat.sub_self _⟩;rw[h2,Q];rfl
  |cons st u=>
   rw[d]at f;dsimp only[aS]at f;cases i:p.cells[q.off]? with
   |none=>grind
   |some tt=>
    rw[i]at f;cases tt with
    |ow a A=>
     dsimp only at f|-;have Q:q.off=0:=by grind
     have K:=i
     rw[h2,Q]at K;obtain rfl:t'=T.ow a A:=by grind
     obtain⟨g',N,e1,U,e3,S⟩:=C st u a A v (F q.root) d i f h3 O;refine⟨g',N,?_,U,e3,λH' B=>?_⟩
     .grind [plV,aH]
     rw[if_neg hb];refine⟨v,_,h1,?_,S H' B _⟩;rw[h2,Q];rfl
    |_=>grind
 obtain⟨g,v,m1,m2,m3,m4⟩:=L;have ac:∀b,tot (λn b=>F n b-if n=q.root then g b else 0) m b+g b=tot F m b:=λb=>ad7 hm.keys j m3
 refine⟨g,v,m1,m2,m3,ac,λH' B aa ad=>?_⟩;have W:bk m q .any=cz m q.root { p with cells:=match q.path with
    |[]=>p.cells.set q.off .any
    |st::u=>match p.cells[q.off]? with
     |some (.ow sub l)=>p.cells.set q.off (.ow sub (bX sub l .any (st::u)))
     |_=>p.cells }:=by
  unfold bk;rw[j];rfl
 have P:∀c,tot (λn c=>F n c-if n=q.root then g c else 0) (aM (thr q) (bk m q .any)) c=tot (λn c=>F n c-if n=q.root then g c else 0) m c:=by grind [bg,dH]
 constructor
 .exact aa
 .intro x hx;simp only[aM,ak8]at hx;obtain⟨x0,R,rfl⟩:=hx;dsimp only;rw[W]at R;rcases qf hm.keys R with⟨hn,hx1⟩|rfl
  .have h:=sH (γ':=γ) Z B rfl (λc _=>rfl) (hm.roots x0 hx1)
   simp_all
  grind
 .grind [oL,np,Mem.keys]
 .grind [Mem.le1]
 .intro c hc;rw[P]at hc;exact hm.lt c (by grind)
 grind
theorem VS{w:World}{H H':FH}(m:∀b o v,H b o=some v->H' b o=some v):∀(k:Nat)(s:Sh)(x:D)(g:Fp)(y:Value),OD w H k s x g y ->
  (∀b,g b≠0->∀o v,w.cell? ⟨b,o,none⟩=some v->H' b o=some v)->FDx H' x y:=by
 intro k;induction k with
 |zero=>
  intro s x g y h hw;cases s with
  |fr=>grind [eL,fV]
  |ow sub=>cases x with
   |any=>exact⟨0,trivial⟩
   |_=>simp[OD]at h
 |succ k ih=>
  intro s x g y h hw;cases s with
  |fr=>grind [eL,fV]
  |ow sub=>
   cases x with
   |any=>exact⟨0,trivial⟩
   |li l=>
    rw[fo]at h;rcases h with⟨rfl,rfl,_⟩|⟨b,c,cs,ty,frz,g',h1,h2,h3,h4,h5,h6,h7,h8,h9⟩
    .exact lN
    subst h1;have hb:∀o v,w.cell? ⟨b,o,none⟩=some v->H' b o=some v:=hw b (by grind)
    obtain⟨n,hn⟩:=GD (H:=H') (l:=l) (b:=b) (o:=0) (e:=sub.length) (λi hi=>by
     have a:l.getD i []=l[i]:=by grind
     refine⟨by grind,λj hj=>?_⟩;have hk:i*sub.length+j<l.flatten.length:=by
      rw[cQ _ _ h7];have:(i+1)*sub.length<=l.length*sub.length:=alS _ hi
      grind
     obtain⟨x,hx⟩:∃x,l.flatten[i*sub.length+j]? = some x:=⟨_,akQ hk⟩
     obtain⟨s,v,g2,d,f,a3,a4⟩:=sC h8 hx
     grind [World.cell?,eA])
    exact⟨n+1,mR.2 ⟨some ⟨b,0,none⟩,c,rfl,h5,h6,.inr ⟨b,0,sub.length,rfl,hn⟩⟩⟩
   |int _ _=>simp[OD]at h
   |bool _=>simp[OD]at h
   |str _=>simp[OD]at h
   |mp _=>simp[OD]at h
   |fn _ _=>simp[OD]at h
   |v _=>simp[OD]at h
def upd(f:Nm->α)(n:Nm)(x:α):Nm->α:=λk=>if k=n then x else f k
theorem dZ{f:Nm->α}{x:α}:upd f n x n=x:=by simp[upd]
theorem mO{f:Nm->α}{k:Nm}{x:α}(h:k≠n):upd f n x k=f k:=by simp[upd,h]
theorem wm{m:Mm}:ah m n=none ↔ n ∉ m.map (·.1):=by induction m<;>grind [ah]
theorem Ug{m:Mm}(h:bU m q):ah m q.root≠none:=by grind [ay]
theorem mT{w:World}{γ:Gam}{m:Mm}{rc:RC}(hn:ah m n=none):Keeps w γ m w (upd γ n rc) ((n,r)::m):=by
 have a:∀q:Pl,bU m q->q.root≠n:=λq hq e=>Ug hq (by grind)
 have b:∀k,k≠n->ah ((n,r)::m) k=ah m k:=λk hk=>by grind [ah]
 constructor
 all_goals grind [ay,plA,mO,fA,bV,plV]
theorem UT{F':Nm->Fp}{m:Mm}(h:∀x∈m,F' x.1 b=F x.1 b):tot F' m b=tot F m b:=by
 induction m with
 |nil=>rfl
 |cons x m ih=>grind [eY]
theorem yg{w:World}{H:FH}{γ:Gam}{m:Mm}(hm:Mem w H γ m F){rc:RC}{r:Root}(hn:ah m n=none)
  (hr:bv w H (upd γ n rc) ((n,r)::m) n r f) (hd:∀b,tot F m b+f b<=1) (hl:∀b,f b≠0->b<w.heap.size/\∀o,H b o=none) :
  Mem w H (upd γ n rc) ((n,r)::m) (upd F n f)/\∀b,tot (upd F n f) ((n,r)::m) b=f b+tot F m b:=by
 have g:=mT (w:=w) (γ:=γ) (rc:=rc) (r:=r) hn
 have d:∀x∈m,x.1≠n:=λx hx e=>by grind [wm]
 have a:∀b,tot (upd F n f) ((n,r)::m) b=f b+tot F m b:=λb=>by rw[eY,dZ,UT (λx hx=>by rw[mO (d x hx)])]
 refine⟨⟨hm.agree,?_,?_,?_,?_,?_⟩,a⟩
 .intro x hx;rcases akX.1 hx with rfl|c
  .grind [dZ]
  rw[mO (d x c)];exact aZ g (λ_ _ _ h=>h) (mO (d x c)) (λ_ _=>rfl) (hm.roots x c)
 .grind [Mem.keys]
 .grind
 .grind [Mem.lt]
 intro b hb;rw[a]at hb;by_cases h:f b=0
 .exact hm.nofz b kQ1
 grind
def bm(n:Nm)(_:Bool)(p:Pl):Bool:=decide (p.root=n)
theorem ng{m:Mm}{k:Nm}(h:k≠n):ah (bQ m n) k=ah m k:=by induction m<;>grind [bQ,ah]
theorem AN{m:Mm}(h:x∈bQ m n):x∈m:=by
 induction m with
 |nil=>exact h
 |cons y m ih=>grind [bQ]
theorem AS{m:Mm}(h:(m.map (·.1)).Nodup):((bQ m n).map (·.1)).Nodup:=by
 induction m with
 |nil=>exact h
 |cons y m ih=>
  obtain⟨j,z⟩:=y;simp only[List.map_cons,alG]at h;simp only[bQ];split
  .exact h.2
  simp only[List.map_cons,alG];refine⟨λhj=>h.1 ?_,ih h.2⟩;obtain⟨x,hx,e⟩:=ak8.1 hj
  grind [AN]
theorem gp{m:Mm}:tot F (bQ m n) b<=tot F m b:=by
 induction m with
 |nil=>exact akR _
 |cons y m ih=>grind [bQ,eY]
theorem eD{w:World}{γ:Gam}{m:Mm}:KeepsB (bm n) w γ m w γ (aM (bm n) (bQ m n)):=by
 constructor
 all_goals grind [bm,s7,ay,ng,s8,bV]
theorem Es{w:World}{H:FH}{γ:Gam}{m:Mm}(hm:Mem w H γ m F)(n:Nm):Mem w H γ (aM (bm n) (bQ m n)) F:=by
 constructor
 .exact hm.agree
 .intro x hx;simp only[aM,ak8]at hx;obtain⟨c,a,rfl⟩:=hx;exact sH eD (λ_ _ _ h=>h) rfl (λ_ _=>rfl) (hm.roots c (AN a))
 .rw[oL];exact AS hm.keys
 .grind [bg,gp,Mem.le1]
 .intro b hb;rw[bg]at hb;exact hm.lt b (by grind [gp])
 intro b hb;rw[bg]at hb;exact hm.nofz b (by grind [gp])
theorem Lc(sub:List Sh)(n m:Nat):(List.replicate (n+m) sub).flatten=(List.replicate n sub).flatten++(List.replicate m sub).flatten:=by grind [List.replicate_append_replicate]
theorem zg{w:World}{H:FH}{c:Nat}{l:List (List D)}{g:Fp}{ty:TypeId}{fz:Nat×Nat}
  (h1:w.heap[b]? = some (.cells cs ty fz)) (h2:KR fz cs.size) (h3:cs.size=c*sub.length) (h4:l.length<=c) (h5:l.length<=BIG) (h6:∀x∈l,x.length=sub.length)
  (h7:Cs (OD w H k) (List.replicate l.length sub).flatten l.flatten g cs.toList) :
  OD w H (k+1) (.ow sub) (.li l) (λd=>g d+if d=b then 1 else 0) (.slice (some ⟨b,0,none⟩) l.length c):=
 fo.2 (.inr ⟨b,c,cs,ty,fz,g,rfl,h1,h2,h3,h4,h5,h6,h7,λ_=>rfl⟩)
theorem mU{w:World}{H:FH}{l:List (List D)}(h:OD w H (k+1) (.ow sub) (.li l) f y) :
  ∃a c,∃g:Fp,∃vs:List Value,y=.slice a l.length c/\l.length<=c/\l.length<=BIG/\(∀x∈l,x.length=sub.length)/\vs.length=l.length*sub.length/\Cs (OD w H k) (List.replicate l.length sub).flatten l.flatten g vs /\
   ((l=[]/\a=none/\c=0/\∀b,f b=0)\/∃b cs ty fz,a=some ⟨b,0,none⟩/\w.heap[b]? = some (.cells cs ty fz)/\KR fz cs.size/\cs.size=c*sub.length/\vs=cs.toList.take (l.length*sub.length)/\∀d,f d=g d+if d=b then 1 else 0):=by
 rw[fo]at h;rcases h with⟨rfl,rfl,h0⟩|⟨b,c,cs,ty,fz,g,h1,h2,h3,h4,h5,h6,h7,h8,h9⟩
 .exact⟨none,0,λ_=>0,[],rfl,akR _,alL _,by simp,by simp,by intro b;rfl,.inl ⟨rfl,rfl,rfl,h0⟩⟩
 have e:l.flatten.length=l.length*sub.length:=cQ _ _ h7
 have i:l.length*sub.length<=cs.toList.length:=by simp_all[alS]
 exact⟨some ⟨b,0,none⟩,c,g,cs.toList.take (l.length*sub.length),h1,h5,h6,h7,by grind,
  Pp _ _ _ _ _ kQ1 h8,.inr ⟨b,cs,ty,fz,rfl,h2,h3,h4,rfl,h9⟩⟩
theorem yc{n:Nat}{l xs:List (List D)}(h1:∀x∈l,x.length=n)(h2:∀x∈xs,x.length=n):∀x∈l++xs,x.length=n:=by grind
theorem Vl{w:World}{H:FH}{l xs:List (List D)}{g gx:Fp}{ws rest:List Value}(h1:∀x∈l,x.length=sub.length)(hv:vs.length=l.length*sub.length)
  (h3:Cs (OD w H k) (List.replicate l.length sub).flatten l.flatten g vs) (h4:Cs (OD w H k) (List.replicate xs.length sub).flatten xs.flatten gx ws) :
  Cs (OD w H k) (List.replicate (l++xs).length sub).flatten (l++xs).flatten (λb=>g b+gx b) (vs++ws++rest):=by
 grind [Lc,Pm,Cy,cQ]
def tw:List (Nat×AV)->Nat->AV->List (Nat×AV)
 |[],i,v=>[(i,v)]
 |(k,x)::t,i,v=>if k=i then(k,v)::t else(k,x)::tw t i v
def S.put(s:S):Option Tmp->AV->S
 |none,_=>s
 |some d,v=>{ s with t:=tw s.t d v }
def okD(nt:Nat):Option Tmp->Bool
 |none=>true
 |some d=>decide (d<nt)
theorem iT(t:List (Nat×AV))(d i:Nat)(v:AV):aW (tw t d v) i=if d=i then v else aW t i:=by induction t<;>grind [tw,aW]
theorem oE(bad:Bool->Pl->Bool)(t:List (Nat×AV))(i:Nat):aW (nu bad t) i=(aW t i).kill bad:=by
 induction t with
 |nil=>rfl
 |cons x t ih=>
  obtain⟨k,u⟩:=x;simp only[nu,List.map_cons,aW];split
  .rfl
  exact ih
theorem YU(a:Act)(d i:Nat)(y:Value)(hd:d<a.tmps.size):(a.put (some d) y).tmps.getD i undef=if d=i then y else a.tmps.getD i undef:=by
 simp only[Act.put,al7,Array.getElem?_setIfInBounds]
 grind
theorem RX.put{g:G}{s:S}{w:World}{H:FH}{γ:Gam}(h:RX g s a w H γ F){d:Option Tmp}(hd:okD g.nt d=true){v:AV}(hv:AR w H γ s.m v y) :
  RX g (s.put d v) (a.put d y) w H γ F:=by
 cases d with
 |none=>exact h
 |some d=>
  have hd':d<g.nt:=by grind [okD]
  refine⟨h.mem,h.fr,?_,h.df,λi=>?_⟩
  .grind [Act.put,nt]
  have hs:d<a.tmps.size:=by grind [nt]
  have e:g.tv (a.put (some d) y) i=if d=i then y else g.tv a i:=by grind [Act.put,YU,G.tv]
  grind [S.put,iT,t]
def lift(g:G)(Q:Exit->S->Prop):Exit->Act->World->Prop:=λe a w=>∃s,Q e s/\R g s a w
def AW(P:Program)(g:G)(c:Code)(Q:Exit->S->Prop)(s:S):Prop:=∀a w,R g s a w->c.wp P (lift g Q) a w
def AL(P:Program)(g:G)(ops rest:List Oper)(Q:Exit->S->Prop)(s:S):Prop:=∀a w,R g s a w->wpList P ops.toArray (lift g Q) rest a w
def AO(P:Program)(g:G)(o:Oper)(K:S->Prop)(Q:Exit->S->Prop)(s:S):Prop:=∀a w,R g s a w->o.wp P a w (λa' w'=>∃s',K s'/\R g s' a' w') (lift g Q)
def Zo(K:S->Prop)(Q:Exit->S->Prop):Exit->S->Prop
 |.normal,s=>K s
 |e,s=>Q e s
def MA(id:Nat)(Q:Exit->S->Prop):Exit->S->Prop
 |.exit a,s=>if a=id then Q .normal s else Q (.exit a) s
 |e,s=>Q e s
variable{Q':Exit->S->Prop}
theorem T6{g:G}{Q:Exit->S->Prop}(h:∀e s,Q e s->Q' e s){e:Exit}{w:World}(hl:lift g Q e a w):lift g Q' e a w:=by obtain⟨s,h1,h2⟩:=hl;exact⟨s,h _ _ h1,h2⟩
variable{c:Code}{id:Nat}{o:Oper}{ops rest:List Oper}{want:Bool}
section
variable {P:Program} {g:G} {Q:Exit->S->Prop} {s:S}
theorem AW.mono(h:AW P g c Q s)(hq:∀e s,Q e s->Q' e s):AW P g c Q' s:=λa w hR=>Code.wp_mono (λ_ _ _=>T6 hq) (h a w hR)
theorem ZO(h:Q .normal s):AW P g .skip Q s:=λa w b=>wp_skip ⟨s,h,b⟩
theorem afU(h:Q .ret s):AW P g .ret Q s:=λa w b=>wp_ret ⟨s,h,b⟩
theorem ZN(h:Q (.exit id) s):AW P g (.exit id) Q s:=λa w b=>wp_exit ⟨s,h,b⟩
theorem Vc{x y:Code}(h:AW P g x (Zo (AW P g y Q) Q) s):AW P g (.seq x y) Q s:=λa w b=>
 wp_seq (Code.wp_mono (λe a w hl=>by
  obtain⟨s',h1,h2⟩:=hl;cases e with
  |normal=>exact h1 a w h2
  |exit _=>exact⟨s',h1,h2⟩
  |goto _=>exact⟨s',h1,h2⟩
  |ret=>exact⟨s',h1,h2⟩
  |panic _=>exact⟨s',h1,h2⟩
  |outgrown=>exact⟨s',h1,h2⟩) (h a w b))
theorem Va(h:AW P g c (MA id Q) s):AW P g (.block id c) Q s:=λa w b=>
 wp_block (Code.wp_mono (λe a w hl=>by
  obtain⟨s',h1,h2⟩:=hl;cases e with
  |exit d=>
   simp only[MA]at h1;simp only[Exit.inBlock];split
   .rename_i e;rw[if_pos e]at h1;exact⟨s',h1,h2⟩
   rename_i e;rw[if_neg e]at h1;exact⟨s',h1,h2⟩
  |normal=>exact⟨s',h1,h2⟩
  |goto _=>exact⟨s',h1,h2⟩
  |ret=>exact⟨s',h1,h2⟩
  |panic _=>exact⟨s',h1,h2⟩
  |outgrown=>exact⟨s',h1,h2⟩) (h a w b))
theorem ZM{t:Tmp}{x y:Code}{b:Bool}(hc:aW s.t t=.one (.c (.d (.bool b))))(j:b=true->AW P g x Q s)(hf:b=false->AW P g y Q s)(f:t<TB:=by decide) :
  AW P g (.cond (.tmp t) x y) Q s:=by
 intro a w i;obtain⟨H,γ,F,e⟩:=i;have h:=e.t t
 rw[hc,G.tv_lo f]at h;obtain⟨_,m,h⟩:=h;have h':a.tmps.getD t undef=.bool b:=by cases m<;>exact h
 cases b with
 |true=>exact wp_cond_true (by grind [Act.eval]) (j rfl a w ⟨H,γ,F,e⟩)
 |false=>exact wp_cond_false (by grind [Act.eval]) (hf rfl a w ⟨H,γ,F,e⟩)
theorem least{p:Nat->Prop}(h:∃n,p n):∃n,p n/\∀m,m<n->¬ p m:=by obtain⟨n,hn⟩:=h;induction n using Nat.strongRecOn<;>grind
theorem Pg(I:Nat->S->Prop)(k:Nat)(h0:I k s)(f:∀n s,I n s->AW P g c (Zo (λs'=>∃n',n'<n/\I n' s') Q) s):AW P g (.loop c) Q s:=by
 intro a w l
 let p:Act->World->Nat->Prop:=λa w n=>∃s,I n s/\R g s a w
 have b:∀a w,(∃n,p a w n)->∃n,p a w n/\∀m,m<n->¬ p a w m:=λa w h=>least h
 let d:Act->World->Nat:=λa w=>by
  classical
  exact if h:∃n,p a w n then Classical.choose (b a w h)else 0
 have i:∀a w(h:∃n,p a w n),p a w (d a w)/\∀m,m<d a w->¬ p a w m:=by
  intro a w h;have:d a w=Classical.choose (b a w h):=by simp only[d];rw[dif_pos h]
  rw[this];exact Classical.choose_spec (b a w h)
 refine wp_loop (λa w=>∃n,p a w n) d ⟨k,s,h0,l⟩ (λa w hI=>?_);obtain⟨⟨s1,h1,h2⟩,_⟩:=i a w hI;refine Code.wp_mono (λe a' w' hl=>?_) (f _ s1 h1 a w h2);obtain⟨s',k1,k2⟩:=hl;cases e with
 |normal=>
  obtain⟨n',k3,k4⟩:=k1;have j:∃n,p a' w' n:=⟨n',s',k4,k2⟩
  refine⟨j,?_⟩;rcases al8 (d a' w') (d a w)with h|h
  .exact h
  exact absurd ⟨s',k4,k2⟩ ((i a' w' j).2 n' kQ1)
 |exit _=>exact⟨s',k1,k2⟩
 |goto _=>exact⟨s',k1,k2⟩
 |ret=>exact⟨s',k1,k2⟩
 |panic _=>exact⟨s',k1,k2⟩
 |outgrown=>exact⟨s',k1,k2⟩
theorem Ri{l:List Oper}(h:AL P g l l Q s):AW P g (.region id l.toArray false) Q s:=λa w b=>wp_region_lit (h a w b)
theorem afR(h:Q .normal s):AL P g ops [] Q s:=λa w b=>wpList_nil ⟨s,h,b⟩
theorem bY{w:World}{N b:Act->World->Prop}{Q Q':Exit->Act->World->Prop}(hN:∀a w,N a w->b a w)(g:∀e a w,Q e a w->Q' e a w)
  (h:o.wp P a w N Q):o.wp P a w b Q':=by
 unfold Oper.wp at h|-;cases hr:(execOp a.eval o).run P w with
 |halt x w'=>
  rw[hr]at h;cases x with
  |panic v=>exact g _ _ _ h
  |_=>exact h.elim
 |ok x w'=>
  rw[hr]at h;cases x with
  |value v=>exact hN _ _ h
  |skip=>exact hN _ _ h
  |defer d=>exact hN _ _ h
  |enter f args=>
   simp only[Oper.upon]at h|-;refine Calls.mono h (λe j i=>?_);cases e with
   |returned v=>grind
   |panicked c=>grind
   |outgrown=>obtain⟨a0,w0,h0⟩:=i;exact⟨a0,w0,g _ _ _ h0⟩
  |row r args=>grind [Oper.upon,Rows.mono]
  |_=>exact h.elim
theorem ZH(b:o.guard=none)(h:AO P g o (AL P g ops rest Q) Q s):AL P g ops (o::rest) Q s:=λa w c=>wpList_plain b (λK d=>bY (λa' w'⟨s',h1,h2⟩=>d _ _ (h1 a' w' h2)) (λ_ _ _ h=>h) (h a w c))
theorem tO{w:World}{H:FH}{γ:Gam}{m:Mm}:AR w H γ m (.tup []) undef:=⟨#[],rfl,trivial⟩
theorem unyielded{s:S}{w:World}{H:FH}{γ:Gam}{ops:Array Oper}{d:Nat}(f:RX g s a w H γ F)(hj:((ops[j]?).bind (·.dst))=some d)(hd:aW s.t d=.tup []):yielded ops a.tmps j=none:=by
 have hv:=f.t d
 rw[hd]at hv;rcases al8 d a.tmps.size with b|b
 rotate_left
 .grind [yielded]
 rw[G.tv_lt b]at hv;obtain⟨l,e,hl⟩:=hv;have k:l.toList=[]:=by
  cases h:l.toList with
  |nil=>rfl
  |cons x r=>rw[h]at hl;exact hl.elim
 have c:l=#[]:=by grind
 subst c;simp only[yielded,hj,Option.bind_some];cases i:a.tmps[d]? with
 |none=>rfl
 |some x=>
  rw[al7,i]at e
  grind
theorem LS{ops:List Oper}{d:Nat}(c:o.guard=some (j,want))(hj:((ops[j]?).bind (·.dst))=some d)
  (hd:aW s.t d=.tup []) (f:okD g.nt o.dst=true) (h:AL P g ops rest Q (s.put o.dst (.tup []))):AL P g ops (o::rest) Q s:=by
 intro a w i;obtain⟨H,γ,F,b⟩:=i;have hy:=unyielded (ops:=ops.toArray) b (by simpa using hj) hd
 refine wpList_step (λK k=>?_);simp only[Region.wanted,c,hy];have e:((none:Option Bool)==some want)=false:=rfl
 rw[e];simp only[akS,if_false];exact k _ _ (h (a.put o.dst undef) w ⟨H,γ,F,b.put f tO⟩)
theorem Gq{d:Nat}{c:Bool}(p:o.guard=some (j,want))(hj:((ops[j]?).bind (·.dst))=some d)
  (hd:aW s.t d=.one (.c (.d (.bool c)))) (f:okD g.nt (some d)=true) (q:okD g.nt o.dst=true)
  (h1:c=want->AO P g o (AL P g ops rest Q) Q (s.put (some d) (.one (.c (.d (.bool want))))))
  (h2:c=!want->AL P g ops rest Q ((s.put (some d) (.one (.c (.d (.bool (!want)))))).put o.dst (.tup []))):AL P g ops (o::rest) Q s:=by
 intro a w u;obtain⟨H,γ,F,l⟩:=u;have hv:=l.t d
 have i:d<a.tmps.size:=by grind [RX.nt,okD]
 rw[hd,G.tv_lt i]at hv;obtain⟨x,m,hv⟩:=hv;have r:a.tmps.getD d undef=.bool c:=by cases m<;>exact hv
 have hget:a.tmps[d]? = some (.bool c):=by simp_all
 have hy:yielded ops.toArray a.tmps j=some c:=by grind [yielded]
 have same:a.put (some d) (.bool c)=a:=by simp_all[Act.put,oc]
 have b:RX g (s.put (some d) (.one (.c (.d (.bool c))))) a w H γ F:=by
  have:=l.put (d:=some d) f (v:=.one (.c (.d (.bool c)))) (y:=.bool c) ⟨λ_=>rfl,0,rfl⟩
  grind
 refine wpList_step (λK n=>?_);simp only[Region.wanted,p,hy];by_cases hc:c=want
 .subst hc;simp only[beq_self_eq_true,if_true];exact bY (λa' w'⟨s',k1,k2⟩=>n _ _ (k1 a' w' k2)) (λ_ _ _ h=>h) (h1 rfl a w ⟨H,γ,F,b⟩)
 have k:c=!want:=by cases c<;>cases want<;>simp_all
 subst k;have e:(some (!want)==some want)=false:=by grind
 rw[e];simp only[akS,if_false];exact n _ _ (h2 rfl (a.put o.dst undef) w ⟨H,γ,F,b.put q tO⟩)
end
abbrev sc(x:D):AV:=.one (.c (.d x))
def rQ:Value->T
 |.bool b=>.d (.bool b)
 |.int k n=>.d (.int k n)
 |.string s=>.d (.str s.data.toList)
 |.slice none 0 0=>.nil
 |.pointer none=>.d (.v (.pointer none))
 |.map none=>.d (.mp none)
 |.nilFunc=>.d (.v .nilFunc)
 |.nilIface=>.d (.v .nilIface)
 |.func f a b=>.d (.v (.func f a b))
 |_=>.any
def cst:Value->AV
 |.agg cs=>.one (.agg (cs.toList.map rQ))
 |v=>.one (.c (rQ v))
def okT:Value->Bool
 |.int k n=>(Lit.int k n).wf
 |.string s=>decide (s.size<=2 ^ 62)
 |_=>true
def okC:Value->Bool
 |.agg cs=>cs.all okT
 |v=>okT v
def aI:Operand->Bool
 |.const v=>okC v
 |.tmp t=>Nat.blt t 100000
 |.global g=>(sf g).isSome
 |_=>true
def ev(s:S):Operand->AV
 |.tmp t=>aW s.t t
 |.const v=>cst v
 |.func f=>sc (.fn f [])
 |.global g=>match sf g with
  |some row=>.one (.c (.el row 0))
  |none=>.any
theorem Qn{w:World}{H:FH}{γ:Gam}{m:Mm}{v:Value}(h:okT v=true):TR w H γ m (rQ v) (λ_=>0) v:=by
 cases v with
 |bool b=>exact⟨λ_=>rfl,0,rfl⟩
 |int k n=>exact⟨λ_=>rfl,0,rfl,h⟩
 |string s=>
  refine⟨λ_=>rfl,0,?_,?_⟩
  all_goals simp_all[okT,BIG]
 |slice a n c=>
  cases a with
  |none=>cases n with
   |zero=>cases c with
    |zero=>exact⟨λ_=>rfl,rfl⟩
    |succ c=>intro b;rfl
   |succ n=>intro b;rfl
  |some a=>intro b;rfl
 |pointer a=>cases a with
  |none=>exact⟨λ_=>rfl,0,rfl,rfl⟩
  |some a=>intro b;rfl
 |map a=>cases a with
  |none=>exact⟨λ_=>rfl,0,rfl⟩
  |some a=>intro b;rfl
 |nilFunc=>exact⟨λ_=>rfl,0,rfl,rfl⟩
 |nilIface=>exact⟨λ_=>rfl,0,rfl,rfl⟩
 |func f a b=>exact⟨λ_=>rfl,0,rfl,rfl⟩
 |_=>intro b;rfl
theorem zo{w:World}{H:FH}{γ:Gam}{m:Mm}:∀{l:List Value},l.all okT=true->Ts (TR w H γ m) (l.map rQ) (λ_=>0) l
 |[],_=>λ_=>rfl
 |v::l,h=>by simp only[ak2,akP]at h;exact⟨v,l,λ_=>0,λ_=>0,rfl,λ_=>rfl,Qn h.1,zo h.2⟩
theorem agZ{w:World}{H:FH}{γ:Gam}{m:Mm}{v:Value}(h:okC v=true):AR w H γ m (cst v) v:=by
 by_cases hv:∃cs,v=.agg cs
 .obtain⟨cs,rfl⟩:=hv;exact⟨cs,rfl,by simp,zo (by grind [okC])⟩
 have e:cst v=.one (.c (rQ v))/\okC v=okT v:=by
  cases v with
  |agg cs=>grind
  |_=>exact⟨rfl,rfl⟩
 rw[e.1];exact Qn (by grind)
theorem aL{g:G}{s:S}{w:World}{H:FH}{γ:Gam}(h:RX g s a w H γ F){x:Operand}(hx:aI x=true):AR w H γ s.m (ev s x) (a.eval x):=by
 cases x with
 |tmp t=>
  have:=h.t t
  rw[G.tv_lo (show t<TB from Nat.lt_of_lt_of_le (akZ hx) (akR _))]at this;exact this
 |const v=>exact agZ hx
 |global n=>
  cases b:sf n with
  |none=>grind [aI]
  |some row=>obtain⟨m,hm⟩:=(ji h).1 n row b;simp only[ev,b];exact⟨λ_=>rfl,n,0,m,rfl,hm⟩
 |func f=>exact⟨λ_=>rfl,1,[],rfl,rfl,λi row y h=>by simp at h⟩
def D.val:D->Option Value
 |.int k n=>some (.int k n)
 |.bool b=>some (.bool b)
 |.str l=>some (.string ⟨l.toArray⟩)
 |.v x=>some x
 |_=>none
theorem fJ{H:FH}{k:IntKind}{n:Int}(h:FDx H (.int k n) y):y=.int k n/\(Lit.int k n).wf=true:=by obtain⟨m,h⟩:=h;cases m<;>exact h
theorem jh{H:FH}{b:Bool}(h:FDx H (.bool b) y):y=.bool b:=by obtain⟨m,h⟩:=h;cases m<;>exact h
variable{l:a8}
theorem ia{H:FH}(h:FDx H (.str l) y):y=.string ⟨l.toArray⟩/\l.length<=BIG:=by obtain⟨m,h⟩:=h;cases m<;>exact h
theorem nV{w:World}{H:FH}{γ:Gam}{m:Mm}{k:IntKind}{n:Int}(h:AR w H γ m (sc (.int k n)) y):y=.int k n/\(Lit.int k n).wf=true:=fJ h.2
theorem yf{w:World}{H:FH}{γ:Gam}{m:Mm}{b:Bool}(h:AR w H γ m (sc (.bool b)) y):y=.bool b:=jh h.2
theorem Eo{w:World}{H:FH}{γ:Gam}{m:Mm}(h:AR w H γ m (sc (.str l)) y):y=.string ⟨l.toArray⟩/\l.length<=BIG:=ia h.2
theorem mP{w:World}{H:FH}{γ:Gam}{m:Mm}{k:IntKind}{n:Int}(h:(Lit.int k n).wf=true):AR w H γ m (sc (.int k n)) (.int k n):=⟨λ_=>rfl,0,rfl,h⟩
theorem gA{w:World}{H:FH}{γ:Gam}{m:Mm}{b:Bool}:AR w H γ m (sc (.bool b)) (.bool b):=⟨λ_=>rfl,0,rfl⟩
theorem qH{w:World}{H:FH}{γ:Gam}{m:Mm}(h:l.length<=BIG):AR w H γ m (sc (.str l)) (.string ⟨l.toArray⟩):=⟨λ_=>rfl,0,rfl,h⟩
theorem U2{P:Program}{g:G}{K:S->Prop}{Q:Exit->S->Prop}{s:S}(hd:okD g.nt o.dst=true)
  (h:∀a w H γ F,RX g s a w H γ F->∃y v,(execOp a.eval o).run P w=.ok (.value y) w/\AR w H γ s.m v y/\K (s.put o.dst v)):AO P g o K Q s:=by
 intro a w ⟨H,γ,F,b⟩;obtain⟨y,v,h1,h2,h3⟩:=h a w H γ F b;unfold Oper.wp;rw[h1];exact⟨_,h3,H,γ,F,b.put hd h2⟩
def vW(op:BinOp):D->D->(D->Prop)->Prop
 |.int k a,.int k' b,K=>
  match op with
  |.add=>k=k'/\K (.int k (k.wrap (a+b)))
  |.sub=>k=k'/\K (.int k (k.wrap (a-b)))
  |.mul=>k=k'/\K (.int k (k.wrap (a*b)))
  |.quo=>k=k'/\b≠0/\K (.int k (k.wrap (a.tdiv b)))
  |.rem=>k=k'/\b≠0/\K (.int k (a.tmod b))
  |.and=>k=k'/\K (.int k (k.wrap (BitVec.ofInt k.bits a &&& BitVec.ofInt k.bits b).toNat))
  |.or=>k=k'/\K (.int k (k.wrap (BitVec.ofInt k.bits a ||| BitVec.ofInt k.bits b).toNat))
  |.xor=>k=k'/\K (.int k (k.wrap (BitVec.ofInt k.bits a ^^^ BitVec.ofInt k.bits b).toNat))
  |.andNot=>k=k'/\K (.int k (k.wrap (BitVec.ofInt k.bits a &&& ~~~BitVec.ofInt k.bits b).toNat))
  |.shl=>0<=b/\K (.int k (k.wrap (a*2 ^ (min b.toNat k.bits))))
  |.shr=>0<=b/\K (.int k (a.fdiv (2 ^ (min b.toNat k.bits))))
  |.eql=>k=k'/\K (.bool (decide (a=b)))
  |.neq=>k=k'/\K (.bool (!decide (a=b)))
  |.lss=>k=k'/\K (.bool (decide (a<b)))
  |.leq=>k=k'/\K (.bool (decide (a<=b)))
  |.gtr=>k=k'/\K (.bool (decide (b<a)))
  |.geq=>k=k'/\K (.bool (decide (b<=a)))
 |.str a,.str b,K=>
  match op with
  |.add=>a.length+b.length<=4611686018427387904/\K (.str (a++b))
  |.eql=>K (.bool (decide (a=b)))
  |.neq=>K (.bool (!decide (a=b)))
  |.lss=>K (.bool (Op.bytesLess a b))
  |.leq=>K (.bool (Op.bytesLess a b||decide (a=b)))
  |.gtr=>K (.bool (!(Op.bytesLess a b||decide (a=b))))
  |.geq=>K (.bool (!Op.bytesLess a b))
  |_=>False
 |_,_,_=>False
theorem vz{a b:Int}(ha:0<=a):a.tmod b<=a:=by
 obtain⟨m,rfl⟩:=alY ha;cases b with
 |ofNat n=>
  have:(m:Int).tmod (Int.ofNat n)=((m % n:Nat):Int):=rfl
  rw[this];exact Int.ofNat_le.2 (Nat.mod_le _ _)
 |negSucc n=>
  have:(m:Int).tmod (Int.negSucc n)=((m % (n+1):Nat):Int):=rfl
  rw[this];exact Int.ofNat_le.2 (Nat.mod_le _ _)
theorem aeB{k:IntKind}{a b:Int}(h:(Lit.int k a).wf=true):(Lit.int k (a.tmod b)).wf=true:=by
 simp only[Lit.wf,akP,decide_eq_true_eq]at h|-;obtain⟨h1,h2⟩:=h;have c:k.min<=0:=by cases k<;>decide
 have d:0<=k.max:=by cases k<;>decide
 rcases Int.le_total 0 a with ha|ha
 .have h3:0<=a.tmod b:=Int.tmod_nonneg b ha
  have h4:a.tmod b<=a:=vz ha
  omega
 have h0:0 <= -a:=by omega
 have h3:0<=(-a).tmod b:=Int.tmod_nonneg b h0
 have h4:(-a).tmod b <= -a:=vz h0
 rw[Int.neg_tmod]at h3 h4;omega
theorem aeA{k:IntKind}{a:Int}{n:Nat}(h:(Lit.int k a).wf=true):(Lit.int k (a.fdiv (2 ^ n))).wf=true:=by
 simp only[Lit.wf,akP,decide_eq_true_eq]at h|-;obtain⟨h1,h2⟩:=h;have b:k.min<=0:=by cases k<;>decide
 have c:0<=k.max:=by cases k<;>decide
 have hp:(0:Int) < 2 ^ n:=Int.pow_pos (by decide)
 have e:a.fdiv (2 ^ n)=a / 2 ^ n:=Int.fdiv_eq_ediv_of_nonneg a kQ1
 rw[e];generalize(2:Int) ^ n=p at *;rcases Int.le_total 0 a with ha|ha
 .have h3:0<=a / p:=Int.ediv_nonneg ha kQ1
  have h4:a / p<=a:=Int.ediv_le_self _ ha
  omega
 have h3:a / p<=0:=by have:=Int.ediv_le_ediv hp ha;simp_all
 have h4:a<=a / p:=by
  refine Int.le_ediv_of_mul_le hp ?_;have h5:(-a)*1<=(-a)*p:=Int.mul_le_mul_of_nonneg_left kQ1 kQ1
  grind
 omega
end Go.Am
end
