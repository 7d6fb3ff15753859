/-
  Part 2: AmState · AmStore · AmPut · AmPutTwo · AmPutThree · AmTake · AmTakeTwo · AmRoots · AmCode · AmOps.
-/
import Derived.Test.YthhkhcolidkemaaGreatDoorCt1
import Derived.MapKept
set_option linter.unusedSimpArgs false
set_option linter.unusedVariables false
set_option linter.unusedSectionVars false
set_option linter.unnecessarySimpa false
section
namespace Go.Am
inductive RC where
 |blk (b:Nat)
 |gh (v:Value)
 deriving Inhabited
abbrev Gam:=Nm->RC
abbrev Mm:=List (Nm×Root)
def aI(w:World):RC->Nat->Option Value
 |.blk b,k=>w.cell? ⟨b,k,none⟩
 |.gh v,k=>if k=0 then some v else none
def plA(w:World)(γ:Gam)(p:Pl):Option Addr:=
 match p.path with
 |[]=>match γ p.root with|.blk b=>some ⟨b,p.off,none⟩|.gh _=>none
 |st::r=>(aI w (γ p.root) p.off).bind λy=>bM w y (st::r)
def plV(w:World)(γ:Gam)(p:Pl):Option Value:=
 match p.path with
 |[]=>aI w (γ p.root) p.off
 |st::r=>((aI w (γ p.root) p.off).bind λy=>bM w y (st::r)).bind w.cell?
def ah:Mm->Nm->Option Root
 |[],_=>none
 |(k,r)::m,n=>if k=n then some r else ah m n
def cY:Mm->Nm->Root->Mm
 |[],_,_=>[]
 |(k,x)::m,n,r=>if k=n then(k,r)::m else(k,x)::cY m n r
def ci:Mm->Nm->Mm
 |[],_=>[]
 |(k,x)::m,n=>if k=n then m else(k,x)::ci m n
def cq(m:Mm)(p:Pl):Prop:=
 match ah m p.root with
 |none=>False
 |some r=>
  match p.path with
  |[]=>p.off<r.cells.length
  |st::q=>match r.cells[p.off]? with
   |some (.ow sub l)=>okO sub l (st::q)
   |_=>False
def iB(m:Mm)(p:Pl):Prop:=
 match ah m p.root with
 |none=>False
 |some r=>
  match r.cells[p.off]?,p.path with
  |some (.ow _ _),[]=>True
  |some (.mp _),[]=>True
  |some (.it _ _),[]=>True
  |some (.ow sub l),st::q=>okO sub l (st::q)/\match bU sub l (st::q)with
   |some (.ow _,.li _)=>True
   |_=>False
  |_,_=>False
def D.isKey:D->Bool
 |.int _ _=>true
 |.bool _=>true
 |.str _=>true
 |_=>false
def MpO(w:World)(H:FH):List (D×Sh×D)->List MapEntry->Fp->Prop
 |[],[],f=>∀b,f b=0
 |x::l,e::es,f=>(x.1.isKey=true/\FDx H x.1 e.key)/\∃f1 a:Fp,∃k,(∀b,f b=f1 b+a b)/\OD w H k x.2.1 x.2.2 f1 e.val/\MpO w H l es a
 |_,_,_=>False
theorem kJ{w w':World}{H H':FH}(a:∀b o y,H b o=some y->H' b o=some y):∀{l:List (D×Sh×D)}{es:List MapEntry}{f:Fp},(∀b,f b≠0->w'.heap[b]? = w.heap[b]?)->MpO w H l es f->MpO w' H' l es f
 |[],[],_,_,h=>h
 |_::_,_::_,f,hw,h=>by obtain⟨⟨h1,h2⟩,f1,c,k,h3,h4,h5⟩:=h;exact⟨⟨h1,fq a h2⟩,f1,c,k,h3,cZ a k k _ _ _ _ (akK _) (λb hb=>hw b (by grind)) h4,kJ a (λb hb=>hw b (by grind)) h5⟩
 |[],_::_,_,_,h=>h.elim
 |_::_,[],_,_,h=>h.elim
def ItL(H:FH):List (D×D)->List MapEntry->Prop
 |[],[]=>True
 |x::l,e::es=>(x.1.isKey=true/\FDx H x.1 e.key/\FDx H x.2 e.val)/\ItL H l es
 |_,_=>False
theorem Ia{H H':FH}(a:∀b o y,H b o=some y->H' b o=some y):∀{l:List (D×D)}{es:List MapEntry},ItL H l es->ItL H' l es
 |[],[],h=>h
 |_::_,_::_,h=>⟨⟨h.1.1,fq a h.1.2.1,fq a h.1.2.2⟩,Ia a h.2⟩
 |[],_::_,h=>h.elim
 |_::_,[],h=>h.elim
def ItR(H:FH)(cur:Option (D×D))(rest:List (D×D)):Option Nat->Nat->Array Nat->Nat->Prop
 |none,_,_,_=>cur=none/\rest=[]
 |some m,b,a,last=>∃es ck,H m 0=some (.m es ck)/\b=ck/\last=ck/\ItL H rest (es.toList.filter λe=>!a.contains e.born) /\
   match cur with
   |none=>True
   |some x=>∃(c:Array Nat)(e:MapEntry),a=c.push e.born/\e∈es.toList/\x.1.isKey=true/\FDx H x.1 e.key/\FDx H x.2 e.val
theorem Ib{H H':FH}(d:∀b o y,H b o=some y->H' b o=some y){cur:Option (D×D)}{rest:List (D×D)}:∀{m:Option Nat}{a:Nat}{s:Array Nat}{c:Nat},ItR H cur rest m a s c->ItR H' cur rest m a s c
 |none,_,_,_,h=>by obtain⟨h1,h2⟩:=h;exact⟨h1,h2⟩
 |some m,_,_,_,⟨es,ck,h1,h2,h3,h4,h5⟩=>⟨es,ck,d _ _ _ h1,h2,h3,Ia d h4,by grind [fq]⟩
def TR(w:World)(H:FH)(γ:Gam)(m:Mm):T->Fp->Value->Prop
 |.d x,f,y=>(∀b,f b=0)/\FDx H x y
 |.nil,f,y=>(∀b,f b=0)/\y=.slice none 0 0
 |.ow sub l,f,y=>∃k,OD w H k (.ow sub) (.li l) f y
 |.mp l,f,y=>∃b es ck,∃g:Fp,y=.map (some b)/\w.heap[b]? = some (.map es ck)/\MapKept.Stamped es ck/\MpO w H l es.toList g/\∀c,f c=g c+if c=b then 1 else 0
 |.it cur rest,f,y=>∃r m a s c,y=.pointer (some ⟨r,0,none⟩)/\w.heap[r]? = some (.mapIter m a s c)/\ItR H cur rest m a s c/\∀k,f k=if k=r then 1 else 0
 |.el row off,f,y=>(∀b,f b=0)/\∃b o k,y=.pointer (some ⟨b,o+off,none⟩)/\BR H k row b o
 |.pl p,f,y=>(∀b,f b=0)/\cq m p/\∃a,plA w γ p=some a/\y=.pointer (some a)
 |.rf p,f,y=>(∀b,f b=0)/\iB m p/\plV w γ p=some y
 |.any,f,_=>∀b,f b=0
def Ts(R:T->Fp->Value->Prop)(ts:List T)(f:Fp)(vs:List Value):Prop:=Cs (λ(_:Unit) t=>R t) (List.replicate ts.length ()) ts f vs
def Nm.tyd:Nm->Option TypeId
 |.loc i=>if i < 1000000 then none else some (i / 1000000)
 |.out i=>if i < 1000000 then none else some (i / 1000000)
 |.gh _=>none
def okR(n:Nm)(ty:TypeId)(fz:Nat×Nat)(sz:Nat):Prop:=KG fz sz/\∀t,n.tyd=some t->ty=t
def cz(w:World)(H:FH)(γ:Gam)(m:Mm)(n:Nm)(r:Root)(f:Fp):Prop:=
 if r.blk then ∃b cs ty fz,∃g:Fp,γ n=.blk b/\w.heap[b]? = some (.cells cs ty fz)/\okR n ty fz cs.size/\cs.size=r.cells.length /\
  Ts (TR w H γ m) r.cells g cs.toList/\∀k,f k=g k+if k=b then 1 else 0
 else ∃v t,γ n=.gh v/\r.cells=[t]/\TR w H γ m t f v
def tot(F:Nm->Fp):Mm->Fp
 |[],_=>0
 |x::m,b=>F x.1 b+tot F m b
def RdV(w:World)(b o:Nat):HV->Prop
 |.c y=>w.cell? ⟨b,o,none⟩=some y
 |.m es ck=>w.heap[b]? = some (.map es ck)/\MapKept.Stamped es ck
variable{b:Nat}
theorem RdV.lt{w:World}{o:Nat}:∀{y:HV},RdV w b o y->b<w.heap.size
 |.c _,h=>World.block_lt_of_cell? _ _ h
 |.m _ _,h=>(Array.getElem?_eq_some_iff.1 h.1).1
theorem RdV.frame{w w':World}{o:Nat}:∀{y:HV},RdV w b o y->w'.heap[b]? = w.heap[b]? -> RdV w' b o y
 |.c y,h,e=>by
  have h:w.cell? ⟨b,o,none⟩=some y:=h
  show w'.cell? ⟨b,o,none⟩=some y
  grind [World.cell?]
 |.m _ _,h,e=>⟨e.trans h.1,h.2⟩
structure Mem (w:World) (H:FH) (γ:Gam) (m:Mm) (F:Nm->Fp):Prop where
 agree:∀b o y,H b o=some y->RdV w b o y
 roots:∀x∈m,cz w H γ m x.1 x.2 (F x.1)
 keys:(m.map (·.1)).Nodup
 le1:∀b,tot F m b<=1
 lt:∀b,tot F m b≠0->b<w.heap.size
 nofz:∀b,tot F m b≠0->∀o,H b o=none
def AR1(w:World)(H:FH)(γ:Gam)(m:Mm):AV1->Value->Prop
 |.c t,y=>TR w H γ m t (λ_=>0) y
 |.agg ts,y=>∃cs,y=.agg cs/\cs.size=ts.length/\Ts (TR w H γ m) ts (λ_=>0) cs.toList
def ARs(w:World)(H:FH)(γ:Gam)(m:Mm):List AV1->List Value->Prop
 |[],[]=>True
 |x::xs,y::ys=>AR1 w H γ m x y/\ARs w H γ m xs ys
 |_,_=>False
def AR(w:World)(H:FH)(γ:Gam)(m:Mm):AV->Value->Prop
 |.one x,y=>AR1 w H γ m x y
 |.tup xs,y=>∃l,y=.tuple l/\ARs w H γ m xs l.toList
 |.any,_=>True
structure S where
 t:List (Nat×AV)
 m:Mm
structure G where
 nt:Nat
 w0:World
 H0:FH
 own0:Fp
 out:Nat->Option Nat
 ex:Option (Nat->Value)
 dfs:List Deferred
def TB:Nat:=100000
def Thawed(w:World)(b:Nat):Prop:=∃cs ty,w.heap[b]? = some (.cells cs ty (0,0))
theorem Thawed.of_block{w w':World}(h:Thawed w b)(e:w'.heap[b]? = w.heap[b]?):Thawed w' b:=by obtain⟨cs,ty,h⟩:=h;exact⟨cs,ty,e.trans h⟩
theorem Thawed.lt{w:World}(h:Thawed w b):b<w.heap.size:=by obtain⟨cs,ty,h⟩:=h;grind
theorem o8{w:World}{H:FH}:(∀b,Thawed w b->Thawed w b)/\∀b o x l c,H b o=some (.c (.slice x l c))->H b o=none->Thawed w b:=⟨λ_ h=>h,λb o x l c h1 h2=>by grind⟩
variable{α β:Type}
theorem Ph{R:α->β->Fp->Value->Prop}:∀(a:List α)(xs:List β)(f:Fp)(vs:List Value),Cs R a xs f vs->∀b,f b≠0->∃s x g v,R s x g v/\g b≠0
 |[],[],_,_,h,b,hb=>absurd (h b) hb
 |s::a,x::xs,f,vs,h,b,hb=>by
  obtain⟨v,r,f1,c,_,hf,h1,h2⟩:=h;by_cases h0:f1 b=0
  .exact Ph a xs c r h2 b (by grind)
  grind
 |[],_::_,_,_,h,_,_=>h.elim
 |_::_,[],_,_,h,_,_=>h.elim
theorem P5{w:World}{H:FH}:∀(k:Nat)(s:Sh)(x:D)(f:Fp)(y:Value),OD w H k s x f y->∀b,f b≠0->Thawed w b:=by
 intro k;induction k with
 |zero=>
  intro s x f y h b hb;cases s with
  |fr=>grind [gr]
  |ow sub=>
   cases x with
   |any=>exact absurd (h b) hb
   |_=>simp[OD]at h
 |succ k ih=>
  intro s x f y h b hb;cases s with
  |fr=>grind [gr]
  |ow sub=>
   cases x with
   |li l=>
    rcases h with h|⟨b',c,cs,ty,fr,g,_,h2,h3,_,_,_,_,h8,h9⟩
    .grind
    by_cases e:b=b'
    .subst e;subst h3;exact⟨cs,ty,h2⟩
    obtain⟨s,x,g',v,r1,r2⟩:=Ph _ _ _ _ h8 b (by grind)
    grind
   |any=>exact absurd (h b) hb
   |_=>simp[OD]at h
structure Fr (w0:World) (H0:FH) (own0:Fp) (w:World) (H:FH) (tt:Fp):Prop where
 size:w0.heap.size<=w.heap.size
 os:w.os=w0.os
 tape:w.tape=w0.tape
 output:w.output=w0.output
 block:∀k,k<w0.heap.size->own0 k=0->w.heap[k]? = w0.heap[k]?
 hold:∀b o y,H0 b o=some y->H b o=some y
 hnew:∀b o,H b o≠none->H0 b o=none->own0 b≠0\/w0.heap.size<=b
 tt:∀b,tt b≠0->own0 b≠0\/w0.heap.size<=b
 /-- blocks that may be written stay so; new frozen slices lie in such -/
 nz:(∀b,Thawed w0 b->Thawed w b)/\∀b o x l c,H b o=some (.c (.slice x l c))->H0 b o=none->Thawed w b
def G.tv(g:G)(a:Act)(i:Nat):Value:=match g.ex with
 |none=>a.tmps.getD i undef
 |some f=>if i<TB\/i<a.tmps.size then a.tmps.getD i undef else f (i-TB)
variable{a:Act}{i:Nat}
theorem G.tv_lo{g:G}(h:i<TB):g.tv a i=a.tmps.getD i undef:=by grind [G.tv]
theorem G.tv_lt{g:G}(h:i<a.tmps.size):g.tv a i=a.tmps.getD i undef:=by grind [G.tv]
theorem G.tv_none{g:G}(h:g.ex=none)(a:Act)(i:Nat):g.tv a i=a.tmps.getD i undef:=by grind [G.tv]
def bB:List (Nat×AV)->Nat->AV
 |[],_=>.any
 |(k,v)::t,i=>if k=i then v else bB t i
def Globs(H:FH):Prop:=(∀k row,sC k=some row->∃m,BR H m row k 0)/\∀k,adH=some k->∃n m,BR H m [.int .i64 n] k 0
theorem ze{H H':FH}(a:∀b o y,H b o=some y->H' b o=some y)(h:Globs H):Globs H':=⟨λk row e=>(λ⟨m,hm⟩=>⟨m,mW a hm⟩) (h.1 k row e),λk e=>(λ⟨n,m,hm⟩=>⟨n,m,mW a hm⟩) (h.2 k e)⟩
structure RX (g:G) (s:S) (a:Act) (w:World) (H:FH) (γ:Gam) (F:Nm->Fp):Prop where
 mem:Mem w H γ s.m F
 fr:Fr g.w0 g.H0 g.own0 w H (tot F s.m)
 nt:a.tmps.size=g.nt
 df:a.defers=g.dfs/\(∀j b,g.out j=some b->γ (.out j)=.blk b)/\Globs g.H0
 t:∀i,AR w H γ s.m (bB s.t i) (g.tv a i)
variable{F:Nm->Fp}
theorem jI{g:G}{s:S}{w:World}{H:FH}{γ:Gam}(h:RX g s a w H γ F):Globs H:=ze h.fr.hold h.df.2.2
def R(g:G)(s:S)(a:Act)(w:World):Prop:=∃H γ F,RX g s a w H γ F
variable{n:Nm}{r:Root}
theorem al{m:Mm}(h:ah m n=some r):(n,r)∈m:=by induction m<;>grind [ah]
variable{x:Nm×Root}
theorem bV{m:Mm}(h:x∈m)(b:Nat):F x.1 b<=tot F m b:=by induction m<;>grind [tot]
theorem dW{w w':World}{o:Nat}(h:w'.heap[b]? = w.heap[b]?):w'.cell? ⟨b,o,none⟩=w.cell? ⟨b,o,none⟩:=by grind [World.cell?]
theorem LD{w w':World}{H:FH}:∀(p:List Step)(k:Nat)(sub:List Sh)(l:List (List D))(f:Fp)(y:Value),
  OD w H k (.ow sub) (.li l) f y->okO sub l p->(∀b,f b≠0->w'.heap[b]? = w.heap[b]?)->bM w' y p=bM w y p:=by
 intro p;induction p with
 |nil=>intro k sub l f y _ h;exact h.elim
 |cons st r ih=>
  intro k sub l f y h d hw;cases r with
  |nil=>
   cases y with
   |slice a _ _=>
    cases a with
    |none=>rfl
    |some a=>obtain⟨b,o,sp⟩:=a;cases sp<;>rfl
   |_=>rfl
  |cons t u=>
   cases k with
   |zero=>simp[OD]at h
   |succ k=>
   rcases h with⟨_,rfl,_⟩|⟨b,c,cs,ty,frz,g,h1,h2,h3,h4,h5,h6,h7,h8,h9⟩
   .rfl
   obtain⟨⟨hi,m,ho⟩,d⟩:=d;have hk:st.idx*sub.length+st.off<l.flatten.length:=by
    rw[db _ _ h7];have:(st.idx+1)*sub.length<=l.length*sub.length:=alS _ hi
    grind
   obtain⟨s,x,v,i,fr,j,e,a3,a4,a5,_,_⟩:=dq _ _ _ _ _ h8 hk
   grind [eY,World.cell?,bM]
variable{f:Fp}{k:Nat}{vs:List Value}
theorem sP{R:α->β->Fp->Value->Prop}{a:List α}{xs:List β}(h:Cs R a xs f vs){x:β}(hx:xs[k]? = some x) :
  ∃s v,∃g:Fp,a[k]? = some s/\vs[k]? = some v/\R s x g v/\∀b,g b<=f b:=by
 have hk:k<xs.length:=by grind
 obtain⟨s,x',v,c,fr,d,e,a3,a4,a5,_,_⟩:=dq _ _ _ _ _ h hk
 grind
theorem fe{w:World}{H:FH}{γ:Gam}{m:Mm}(h:cz w H γ m n r f){t:T}(hk:r.cells[k]? = some t) :
  ∃v,∃g:Fp,aI w (γ n) k=some v/\TR w H γ m t g v/\∀b,g b<=f b:=by
 unfold cz at h;split at h
 .obtain⟨b,cs,ty,fz,g,h1,h2,h3,h4,h5,h6⟩:=h;obtain⟨s,v,g',a,c,a3,a4⟩:=sP h5 hk
  grind [aI,World.cell?]
 obtain⟨v,t',h1,h2,h3⟩:=h;cases k with
 |zero=>
  obtain rfl:t'=t:=by grind
  exact⟨v,f,by rw[h1];rfl,h3,λ_=>akK _⟩
 |succ k=>grind
theorem wU{w w':World}{H:FH}{γ:Gam}{m:Mm}{F:Nm->Fp}(hm:Mem w H γ m F){p:Pl}(a:cq m p)
  (hw:∀b,F p.root b≠0->w'.heap[b]? = w.heap[b]?):plA w' γ p=plA w γ p/\plV w' γ p=plV w γ p:=by
 obtain⟨n,off,path⟩:=p;unfold cq at a;cases hr:ah m n with
 |none=>grind
 |some r=>
  simp only[hr]at a;have c:=hm.roots _ (al hr)
  have f:aI w' (γ n) off=aI w (γ n) off:=by grind [aI,dW,cz]
  cases path with
  |nil=>exact⟨rfl,by grind [plV]⟩
  |cons st q=>
   cases h:r.cells[off]? with
   |none=>grind
   |some t=>
    rw[h]at a;cases t with
    |ow sub l=>
     obtain⟨v,g,j,d,c3⟩:=fe c h;obtain⟨k,d⟩:=d;have e:=LD (st::q) k sub l g v d a (λb hb=>hw b (by grind))
     refine⟨by grind [plA],?_⟩;simp only[plV];have i:∀b,g b<=1:=λb=>by have:=hm.le1 b;have:=bV (F:=F) (al hr) b;grind
     grind [ox,dW]
    |_=>grind
variable{j:Nat}
theorem Do{l:List (List D)}{i' j':Nat}{y:D}(hi:i<l.length)(hj:j < (l.getD i []).length) :
  ((l.set i ((l.getD i []).set j y)).getD i' []).getD j' default=if i=i'/\j=j' then y else(l.getD i' []).getD j' default:=by
 grind
def wfO:Nat->List Sh->List (List D)->Prop
 |0,_,_=>True
 |n+1,sub,l=>(∀x∈l,x.length=sub.length)/\∀i j s l',sub[j]? = some (.ow s)->(l.getD i []).getD j default=.li l'->wfO n s l'
theorem EB{w:World}{H:FH}:∀(n m:Nat)(sub:List Sh)(l:List (List D))(f:Fp)(y:Value),OD w H m (.ow sub) (.li l) f y->wfO n sub l:=by
 intro n;induction n with
 |zero=>intros;trivial
 |succ n ih=>
  intro m sub l f y h;cases m with
  |zero=>simp[OD]at h
  |succ m=>
  rw[im]at h;rcases h with⟨rfl,_,_⟩|⟨b,c,cs,ty,frz,g,h1,h2,h3,h4,h5,h6,h7,h8,h9⟩
  .exact⟨by simp,λi j s l' _ h=>by simp[List.getD]at h;cases h⟩
  refine⟨h7,λi j s l' hs hx=>?_⟩;by_cases hi:i<l.length
  .have ho:j<sub.length:=by grind
   have hk:i*sub.length+j<l.flatten.length:=by
    rw[db _ _ h7];have:(i+1)*sub.length<=l.length*sub.length:=alS _ hi
    grind
   obtain⟨s',x,v,a,fr,d,k,a3,a4,a5,_,_⟩:=dq _ _ _ _ _ h8 hk
   grind [eY]
  have e:l.getD i []=[]:=by grind
  rw[e]at hx;simp[List.getD]at hx;cases hx
theorem KI:∀(q p:List Step)(n:Nat)(sub:List Sh)(l:List (List D))(x:D),q.length+p.length<=n->wfO n sub l->okO sub l q->okO sub l p ->
  (∀s l',bU sub l p≠some (.ow s,.li l')) ->
  okO sub (cC sub l x p) q/\∀s l',bU sub l q=some (.ow s,.li l')->∃o,bU sub (cC sub l x p) q=some (.ow s,.li o):=by
 intro q;induction q with
 |nil=>intro p n sub l x _ _ h;exact h.elim
 |cons st r ih=>
  intro p n sub l x hn e hq hp hno;cases p with
  |nil=>exact hp.elim
  |cons a d=>
  cases n with
  |zero=>grind
  |succ n=>
  obtain⟨w,g⟩:=e;have f:st.idx<l.length/\st.esz=sub.length/\st.off<sub.length:=by
   cases r with
   |nil=>exact hq
   |cons _ _=>exact hq.1
  have c:a.idx<l.length/\a.esz=sub.length/\a.off<sub.length:=by
   cases d with
   |nil=>exact hp
   |cons _ _=>exact hp.1
  obtain⟨hi,F,ho⟩:=f;obtain⟨m,C,E⟩:=c;have k:a.off < (l.getD a.idx []).length:=by grind
  have key:∃y,cC sub l x (a::d)=l.set a.idx ((l.getD a.idx []).set a.off y) /\
    (a.idx=st.idx->a.off=st.off->∀s2 l2,sub[st.off]? = some (.ow s2)->(l.getD st.idx []).getD st.off default=.li l2 ->
     ∃t u,d=t::u/\y=.li (cC s2 l2 x (t::u))/\okO s2 l2 (t::u)/\∀s l',bU s2 l2 (t::u)≠some (.ow s,.li l')):=by
   cases d with
   |nil=>
    refine⟨x,rfl,λB A s2 l2 h1 h2=>?_⟩
    grind [bU]
   |cons t u=>
    obtain⟨_,hp⟩:=hp;cases hs:sub[a.off]? with
    |none=>grind
    |some s0=>
     rw[hs]at hp;cases s0 with
     |fr=>grind
     |ow s2=>
      cases hd:(l.getD a.idx []).getD a.off default with
      |li l2=>
       rw[hd]at hp;refine⟨.li (cC s2 l2 x (t::u)),by grind [cC],λB A G H h1 h2=>?_⟩
       grind [bU]
      |_=>grind
  obtain⟨y,b,v⟩:=key;rw[b];have z:=λi' j'=>Do (l:=l) (i:=a.idx) (j:=a.off) (i':=i') (j':=j') (y:=y) m k
  cases r with
  |nil=>
   refine⟨⟨by grind,F,ho⟩,λs l' h=>?_⟩
   grind [bU]
  |cons t u=>grind [okO,bU]
theorem Ob:∀(r a:List Step)(sub:List Sh)(l:List (List D)),r≠[]->a≠[]->okO sub l (r++a) ->
  okO sub l r/\∃s l',bU sub l r=some (.ow s,.li l'):=by
 intro r;induction r with
 |nil=>grind
 |cons st u ih=>
  intro a sub l _ b h;cases u with
  |nil=>
   cases a with
   |nil=>grind
   |cons t v=>
    obtain⟨h1,h2⟩:=h;refine⟨h1,?_⟩;cases hs:sub[st.off]? with
    |none=>grind
    |some s0=>
     simp only[hs]at h2;cases s0 with
     |fr=>grind
     |ow s2=>
      cases hd:(l.getD st.idx []).getD st.off default with
      |li l2=>simp_all[bU]
      |_=>grind
  |cons t v=>
   obtain⟨h1,h2⟩:=h;cases hs:sub[st.off]? with
   |none=>grind
   |some s0=>
    simp only[hs]at h2;cases s0 with
    |fr=>grind
    |ow s2=>
     cases hd:(l.getD st.idx []).getD st.off default with
     |li l2=>
      rw[hd]at h2;obtain⟨g1,s,l',g2⟩:=ih a s2 l2 (by simp) b h2;refine⟨⟨h1,?_⟩,s,l',?_⟩
      all_goals grind [bU]
     |_=>grind
theorem LF{w w':World}{A:Addr}(hw:∀a,a≠A->w'.cell? a=w.cell? a):∀(p:List Step)(y:Value),
  (∀r d,p=r++d->r≠[]->d≠[]->bM w y r≠some A)->bM w' y p=bM w y p:=by
 intro p;induction p with
 |nil=>
  intro y _;cases y with
  |slice a _ _=>
   cases a with
   |none=>rfl
   |some a=>obtain⟨b,o,sp⟩:=a;cases sp<;>rfl
  |_=>rfl
 |cons st r ih=>
  intro y h;cases r with
  |nil=>
   cases y with
   |slice a _ _=>
    cases a with
    |none=>rfl
    |some a=>obtain⟨b,o,sp⟩:=a;cases sp<;>rfl
   |_=>rfl
  |cons t u=>
   cases y with
   |slice a n c=>
    cases a with
    |none=>rfl
    |some a=>
     obtain⟨b,o,sp⟩:=a;cases sp with
     |some k=>rfl
     |none=>
      have h1:bM w (.slice (some ⟨b,o,none⟩) n c) [st]≠some A:=h [st] (t::u) rfl (by simp) (by simp)
      simp only[bM]at h1|-;rw[hw _ (λe=>h1 (by rw[e]))]
      grind [bM]
   |_=>rfl
structure Keeps (w:World) (γ:Gam) (m:Mm) (w':World) (γ':Gam) (m':Mm):Prop where
 pl:∀q,cq m q->cq m' q/\plA w' γ' q=plA w γ q
 rf:∀q,iB m q->iB m' q/\plV w' γ' q=plV w γ q
theorem jJ{w w':World}{H H':FH}{γ γ':Gam}{m m':Mm}(i:Keeps w γ m w' γ' m')(e:∀b o y,H b o=some y->H' b o=some y)
  {t:T} {f:Fp} {y:Value} (hw:∀b,f b≠0->w'.heap[b]? = w.heap[b]?) (h:TR w H γ m t f y):TR w' H' γ' m' t f y:=by
 cases t with
 |d x=>exact⟨h.1,fq e h.2⟩
 |nil=>exact h
 |ow sub l=>obtain⟨k,h⟩:=h;exact⟨k,cZ e k k _ _ _ _ (akK _) hw h⟩
 |mp l=>obtain⟨b,es,ck,g,h1,h2,h3,h4,h5⟩:=h;exact⟨b,es,ck,g,h1,by grind,h3,kJ e (λc hc=>hw c (by grind)) h4,h5⟩
 |it cur rest=>obtain⟨r,m,a,s,c,h1,h2,h3,h4⟩:=h;exact⟨r,m,a,s,c,h1,by grind,Ib e h3,h4⟩
 |el row off=>obtain⟨h0,b,o,k,h1,h2⟩:=h;exact⟨h0,b,o,k,h1,mW e h2⟩
 |pl p=>obtain⟨h0,h1,a,h2,h3⟩:=h;obtain⟨k1,k2⟩:=i.pl p h1;exact⟨h0,k1,a,by grind,h3⟩
 |rf p=>obtain⟨h0,h1,h2⟩:=h;obtain⟨k1,k2⟩:=i.rf p h1;exact⟨h0,k1,by grind⟩
 |any=>exact h
theorem pT{w w':World}{H H':FH}{γ γ':Gam}{m m':Mm}(d:Keeps w γ m w' γ' m')(c:∀b o y,H b o=some y->H' b o=some y)
  {ts:List T} {f:Fp} {vs:List Value} (hw:∀b,f b≠0->w'.heap[b]? = w.heap[b]?) (h:Ts (TR w H γ m) ts f vs):Ts (TR w' H' γ' m') ts f vs:=
 lY _ _ _ _ (λ_ _ g _ e a=>jJ d c (λb hb=>hw b (by grind)) a) h
theorem Cq{w w':World}{H H':FH}{γ γ':Gam}{m m':Mm}(d:Keeps w γ m w' γ' m')(a:∀b o y,H b o=some y->H' b o=some y)
  {x:AV1} {y:Value} (h:AR1 w H γ m x y):AR1 w' H' γ' m' x y:=by
 cases x with
 |c t=>exact jJ d a (λb hb=>absurd rfl hb) h
 |agg ts=>obtain⟨cs,h1,h2,h3⟩:=h;exact⟨cs,h1,h2,pT d a (λb hb=>absurd rfl hb) h3⟩
theorem Cr{w w':World}{H H':FH}{γ γ':Gam}{m m':Mm}(c:Keeps w γ m w' γ' m')(a:∀b o y,H b o=some y->H' b o=some y) :
  ∀{xs:List AV1}{ys:List Value},ARs w H γ m xs ys->ARs w' H' γ' m' xs ys
 |[],[],_=>trivial
 |_::_,_::_,h=>⟨Cq c a h.1,Cr c a h.2⟩
 |[],_::_,h=>h.elim
 |_::_,[],h=>h.elim
theorem dK{w w':World}{H H':FH}{γ γ':Gam}{m m':Mm}(c:Keeps w γ m w' γ' m')(a:∀b o y,H b o=some y->H' b o=some y)
  {x:AV} {y:Value} (h:AR w H γ m x y):AR w' H' γ' m' x y:=by
 cases x with
 |one x=>exact Cq c a h
 |tup xs=>obtain⟨l,h1,h2⟩:=h;exact⟨l,h1,Cr c a h2⟩
 |any=>trivial
theorem bm{w w':World}{H H':FH}{γ γ':Gam}{m m':Mm}(d:Keeps w γ m w' γ' m')(a:∀b o y,H b o=some y->H' b o=some y)
  {n:Nm} {r:Root} {f:Fp} (e:γ' n=γ n) (hw:∀b,f b≠0->w'.heap[b]? = w.heap[b]?) (h:cz w H γ m n r f):cz w' H' γ' m' n r f:=by
 unfold cz at h|-;split at h
 .rename_i hb;rw[if_pos hb];obtain⟨b,cs,ty,fz,g,h1,h2,h3,h4,h5,h6⟩:=h;exact⟨b,cs,ty,fz,g,by grind,by grind,h3,h4,
   pT d a (λc hc=>hw c (by grind)) h5,h6⟩
 grind [jJ]
theorem fK{w w':World}{H:FH}{γ:Gam}{m:Mm}{F:Nm->Fp}(hm:Mem w H γ m F)(hw:∀b,tot F m b≠0->w'.heap[b]? = w.heap[b]?):Keeps w γ m w' γ m:=by
 have a:∀q:Pl,cq m q->∀b,F q.root b≠0->w'.heap[b]? = w.heap[b]? := by
  intro q hq b hb;unfold cq at hq;cases hr:ah m q.root with
  |none=>grind
  |some r=>exact hw b (by have:=bV (F:=F) (al hr) b;grind)
 have c:∀q:Pl,iB m q->cq m q:=by grind (splits:=20) [iB,cq]
 exact⟨λq hq=>⟨hq,(wU hm hq (a q hq)).1⟩,λq hq=>⟨hq,(wU hm (c q hq) (a q (c q hq))).2⟩⟩
theorem fP{m:Mm}{q:Pl}(hq:iB m q):cq m q:=by grind (splits:=20) [iB,cq]
def bi(m:Mm)(p:Pl):Option T:=
 match ah m p.root with
 |none=>none
 |some r=>
  match p.path with
  |[]=>r.cells[p.off]?
  |st::q=>match r.cells[p.off]? with
   |some (.ow sub l)=>match bU sub l (st::q)with
    |some (.fr,x)=>some (.d x)
    |some (.ow s,.li l')=>some (.ow s l')
    |some (.ow _,_)=>some .any
    |none=>none
   |_=>none
theorem fD{m:Mm}:tot F (x::m) b=F x.1 b+tot F m b:=rfl
theorem vQ{m:Mm}{y:Nm×Root}(hx:x∈m)(hy:y∈m)(hn:x.1≠y.1)(b:Nat):F x.1 b+F y.1 b<=tot F m b:=by induction m<;>grind [fD,bV]
theorem A7{w:World}{H:FH}{γ:Gam}{m:Mm}{F:Nm->Fp}(hm:Mem w H γ m F){p:Pl}(c:cq m p){a:Addr}(j:plA w γ p=some a) :
  F p.root a.block≠0/\a.spot=none:=by
 obtain⟨n,off,path⟩:=p;unfold cq at c;cases hr:ah m n with
 |none=>grind
 |some r=>
  simp only[hr]at c;have d:=hm.roots _ (al hr)
  cases path with
  |nil=>grind [cz,plA]
  |cons st q=>
   dsimp only at c;cases e:r.cells[off]? with
   |none=>grind
   |some t=>
    rw[e]at c;cases t with
    |ow sub l=>
     obtain⟨v,g,h,⟨k,i⟩,c3⟩:=fe d e;dsimp only at h c3;have f:∀b,g b<=1:=λb=>by have:=c3 b;have:=hm.le1 b;have:=bV (F:=F) (al hr) b;grind
     grind [ox,plA]
    |_=>grind
theorem adU{w:World}{H:FH}{γ:Gam}{m:Mm}{F:Nm->Fp}(hm:Mem w H γ m F){p q:Pl}(hp:cq m p)(hq:cq m q){a:Addr}
  (I:plA w γ p=some a) (hb:plA w γ q=some a) :
  p.root=q.root/\p.off=q.off/\p.path.map (λs=>(s.idx,s.off))=q.path.map (λs=>(s.idx,s.off)):=by
 have B:=A7 hm hp I
 have J:=A7 hm hq hb
 obtain⟨n,off,path⟩:=p;obtain⟨n',d,h⟩:=q;by_cases hn:n=n'
 .subst hn;refine⟨rfl,?_⟩;unfold cq at hp hq;cases hr:ah m n with
  |none=>grind
  |some r=>
   simp only[hr]at hp hq;have c:=hm.roots _ (al hr)
   have z:∀b,F n b<=1:=λb=>by have:=hm.le1 b;have:=bV (F:=F) (al hr) b;grind
   have blk:∀(off:Nat)(sub:List Sh)(l:List (List D))(st:Step)(u:List Step),r.cells[off]? = some (.ow sub l)->okO sub l (st::u) ->
     ∀d,plA w γ ⟨n,off,st::u⟩≠plA w γ ⟨n,d,[]⟩\/plA w γ ⟨n,d,[]⟩=none:=by
    intro off sub l st u i G d;unfold cz at c;split at c
    .left
     obtain⟨b,cs,ty,fz,g,h1,h2,h3,h4,h5,h6⟩:=c;obtain⟨_,v,g',_,o,⟨k,a3⟩,a4⟩:=sP h5 i
     grind [ox,plA,aI,World.cell?]
    grind [plA]
   cases path with
   |nil=>
    cases h with
    |nil=>
     unfold cz at c
     grind [plA]
    |cons st u=>grind
   |cons st u=>
    dsimp only at hp;cases i:r.cells[off]? with
    |none=>grind
    |some t=>
     rw[i]at hp;cases t with
     |ow sub l=>
      cases h with
      |nil=>grind
      |cons C u'=>
       dsimp only at hq;cases f:r.cells[d]? with
       |none=>grind
       |some t'=>
        rw[f]at hq;cases t' with
        |ow A l'=>
         by_cases ho:off=d
         .subst ho;refine⟨rfl,?_⟩;rw[i]at f;simp only[akJ,T.ow.injEq]at f;obtain⟨rfl,rfl⟩:=f;obtain⟨v,g,M,⟨k,S⟩,c3⟩:=fe c i
          grind [plA,Ma]
         . -- two cells of one root
          exfalso
          unfold cz at c;split at c
          .obtain⟨b,cs,ty,fz,g,h1,h2,h3,h4,h5,h6⟩:=c;dsimp only at h1 h6;have x:off<r.cells.length:=by grind
           have j:d<r.cells.length:=by grind
           obtain⟨s1,L,R,O,fr,P,o,a3,a4,a5,_,E⟩:=dq _ _ _ _ _ h5 x;obtain⟨s2,Q,N,g2,b1,b2,b3,b4,b5⟩:=E d (λe=>ho e.symm) j;rw[i]at o;rw[f]at b2;simp only[akJ]at o b2;subst o;subst b2;obtain⟨k,a5⟩:=a5;obtain⟨k',b4⟩:=b4
           grind [ox,plA,aI,World.cell?]
          grind
        |_=>grind
     |_=>grind
 exfalso
 unfold cq at hp hq;cases hr:ah m n with
 |none=>grind
 |some r=>
  cases y:ah m n' with
  |none=>grind
  |some K=>
   have:=vQ (F:=F) (al hr) (al y) hn a.block
   grind [Mem.le1]
theorem Kr:∀(p q:List Step)(sub:List Sh)(l:List (List D)),p.map (λs=>(s.idx,s.off))=q.map (λs=>(s.idx,s.off))->bU sub l p=bU sub l q:=by
 intro p;induction p with
 |nil=>simp_all
 |cons st r ih=>
  intro q sub l h;cases q with
  |nil=>simp at h
  |cons a b=>
   simp only[akM,List.cons.injEq,Prod.mk.injEq]at h;obtain⟨⟨h1,h2⟩,h3⟩:=h;cases r with
   |nil=>simp_all[bU]
   |cons t u=>cases b<;>grind [bU]
theorem Jq{m:Mm}{p q:Pl}(h1:p.root=q.root)(h2:p.off=q.off)(h3:p.path.map (λs=>(s.idx,s.off))=q.path.map (λs=>(s.idx,s.off))):bi m p=bi m q:=by grind (splits:=20) [bi,Kr]
def T.owned:T->Bool
 |.mp _=>true
 |.it _ _=>true
 |.ow _ _=>true
 |_=>false
def T.toD:T->D
 |.d x=>x
 |.nil=>.li []
 |.ow _ l=>.li l
 |_=>.any
def bF(m:Mm)(p:Pl)(t:T):Mm:=
 match ah m p.root with
 |none=>m
 |some r=>cY m p.root { r with cells:=match p.path with
   |[]=>r.cells.set p.off t
   |st::q=>match r.cells[p.off]? with
    |some (.ow sub l)=>r.cells.set p.off (.ow sub (cC sub l t.toD (st::q)))
    |_=>r.cells }
theorem gj{m:Mm}{n':Nm}{r0:Root}(h:ah m n=some r0):ah (cY m n r) n'=if n=n' then some r else ah m n':=by induction m<;>grind [ah,cY]
def bf(cells:List T)(off:Nat)(path:List Step):Prop:=
 match path with
 |[]=>off<cells.length
 |st::q=>match cells[off]? with
  |some (.ow sub l)=>okO sub l (st::q)
  |_=>False
def bO(cells:List T)(off:Nat)(path:List Step):Prop:=
 match cells[off]?,path with
 |some (.ow _ _),[]=>True
 |some (.mp _),[]=>True
 |some (.it _ _),[]=>True
 |some (.ow sub l),st::q=>okO sub l (st::q)/\match bU sub l (st::q)with
  |some (.ow _,.li _)=>True
  |_=>False
 |_,_=>False
theorem ay{m:Mm}{p:Pl}:cq m p ↔ ∃r,ah m p.root=some r/\bf r.cells p.off p.path:=by grind [cq,bf]
theorem cr{m:Mm}{p:Pl}:iB m p ↔ ∃r,ah m p.root=some r/\bO r.cells p.off p.path:=by
 unfold iB bO
 grind
variable{sub:List Sh}
theorem Ci{l:List (List D)}{p:List Step}{P:Prop}(h:match bU sub l p with|some (.ow _,.li _)=>True|_=>False) :
  ∃s l',bU sub l p=some (.ow s,.li l'):=by
 grind
theorem xx{w w':World}{H:FH}{γ:Gam}{m:Mm}(hm:Mem w H γ m F){p:Pl}(hp:cq m p){t0 t:T}(h0:bi m p=some t0)(hno:t0.owned=false)
  {A:Addr} (hA:plA w γ p=some A) (hw:∀a,a≠A->w'.cell? a=w.cell? a):Keeps w γ m w' γ (bF m p t):=by
 have J:∀q:Pl,cq m q->(∃x,bi m q=some x/\x.owned=true)->plA w γ q≠some A:=by grind [adU,Jq]
 have L:∀q:Pl,cq m q->plA w' γ q=plA w γ q/\(q.path≠[]->aI w' (γ q.root) q.off=aI w (γ q.root) q.off):=by
  intro q hq;obtain⟨n,off,path⟩:=q;cases path with
  |nil=>exact⟨rfl,λh=>absurd rfl h⟩
  |cons st u=>
   obtain⟨r,hr,hc⟩:=ay.1 hq;dsimp only[bf]at hr hc;cases j:r.cells[off]? with
   |none=>grind
   |some tt=>
    rw[j]at hc;cases tt with
    |ow sub l=>
     have o:off<r.cells.length:=by grind
     have h1:cq m ⟨n,off,[]⟩:=ay.2 ⟨r,hr,o⟩
     have h2:=J ⟨n,off,[]⟩ h1 ⟨.ow sub l,by grind [bi],rfl⟩
     have C:aI w' (γ n) off=aI w (γ n) off:=by grind [plA,aI]
     refine⟨?_,λ_=>C⟩;simp only[plA,C];cases hv:aI w (γ n) off with
     |none=>rfl
     |some v=>
      simp only[Option.bind_some];refine LF hw (st::u) v (λa b e ha hb=>?_);rw[e]at hc;obtain⟨c1,s,l',c2⟩:=Ob a b sub l ha hb hc;cases a with
      |nil=>grind
      |cons X W=>
       have h3:cq m ⟨n,off,X::W⟩:=ay.2 ⟨r,hr,by grind [bf]⟩
       have h4:=J ⟨n,off,X::W⟩ h3 ⟨.ow s l',by grind [bi],rfl⟩
       grind [plA]
    |_=>grind
 obtain⟨i,I,aa⟩:=ay.1 hp;have K:∀(off:Nat)(sub:List Sh)(l:List (List D)),i.cells[off]? = some (T.ow sub l)->∀n,wfO n sub l:=by
  intro off sub l j n;obtain⟨v,g,_,⟨k,c2⟩,_⟩:=fe (hm.roots _ (al I)) j
  grind [EB]
 have G:∀q:Nm,ah (bF m p t) q=if p.root=q then some { i with cells:=match p.path with
   |[]=>i.cells.set p.off t
   |st::q=>match i.cells[p.off]? with
    |some (.ow sub l)=>i.cells.set p.off (.ow sub (cC sub l t.toD (st::q)))
    |_=>i.cells }else ah m q:=by
  grind [bF,gj]
 have E:∀st u,p.path=st::u->∀(sub:List Sh)(l:List (List D)),i.cells[p.off]? = some (T.ow sub l)->okO sub l (st::u)/\∀s l',bU sub l (st::u)≠some (.ow s,.li l'):=by grind [bf,bi,T.owned]
 have Y:p.path=[]->∀(sub:List Sh)(l:List (List D)),i.cells[p.off]? ≠ some (T.ow sub l):=by grind [bi,T.owned]
 have S:∀q:Pl,cq m q->cq (bF m p t) q:=by
  intro q hq;obtain⟨r,hr,hc⟩:=ay.1 hq;rw[ay,G];by_cases hn:p.root=q.root
  .rw[if_pos hn];rw[<- hn,I]at hr;obtain rfl:i=r:=by grind
   refine⟨_,rfl,?_⟩;obtain⟨n,off,path⟩:=q;dsimp only at hc|-;cases path with
   |nil=>grind [bf]
   |cons st u=>
    dsimp only[bf]at hc|-;cases d:p.path with
    |nil=>grind
    |cons z u'=>
     dsimp only;cases f:i.cells[p.off]? with
     |none=>exact hc
     |some U=>
      cases U with
      |ow sub l=>
       dsimp only;by_cases ho:p.off=off
       .subst ho;have o:p.off<i.cells.length:=by grind
        rw[ak7 o];rw[f]at hc;obtain⟨g1,g2⟩:=E z u' d sub l f;exact(KI (st::u) (z::u') _ sub l t.toD (akK _) (K _ sub l f _) hc g1 g2).1
       grind
      |_=>exact hc
  grind
 have Q:∀q:Pl,iB m q->iB (bF m p t) q:=by
  intro q hq;obtain⟨r,hr,hc⟩:=cr.1 hq;rw[cr,G];by_cases hn:p.root=q.root
  .rw[if_pos hn];rw[<- hn,I]at hr;obtain rfl:i=r:=by grind
   refine⟨_,rfl,?_⟩;obtain⟨n,off,path⟩:=q;dsimp only at hc|-;unfold bO at hc|-;cases j:i.cells[off]? with
   |none=>grind
   |some tt=>
    cases tt with
    |ow V l0=>
     rw[j]at hc;cases d:p.path with
     |nil=>grind
     |cons z u'=>
      dsimp only;cases f:i.cells[p.off]? with
      |none=>grind
      |some U=>
       cases U with
       |ow sub l=>
        dsimp only;by_cases ho:p.off=off
        .subst ho;have o:p.off<i.cells.length:=by grind
         rw[ak7 o];rw[f]at j;simp only[akJ,T.ow.injEq]at j;obtain⟨rfl,rfl⟩:=j;cases path with
         |nil=>trivial
         |cons st u=>
          dsimp only at hc|-;obtain⟨g1,g2⟩:=E z u' d _ _ f;obtain⟨k1,k2⟩:=KI (st::u) (z::u') _ _ _ t.toD (akK _) (K _ _ _ f _) hc.1 g1 g2
          grind
        grind
       |_=>grind
    |mp l0=>grind [bi,T.owned]
    |it c0 l0=>grind [bi,T.owned]
    |_=>grind
  grind
 refine⟨λq hq=>⟨S q hq,(L q hq).1⟩,λq hq=>⟨Q q hq,?_⟩⟩;have M:=fP hq
 obtain⟨Z,e2⟩:=L q M;have hg:∃x,bi m q=some x/\x.owned=true:=by
  obtain⟨r,hr,hc⟩:=cr.1 hq;unfold bO at hc;unfold bi;rw[hr];cases j:r.cells[q.off]? with
  |none=>grind
  |some tt=>
   cases N:q.path with
   |nil=>
    rw[j,N]at hc;cases tt with
    |ow sub l=>exact⟨_,by dsimp only;exact j,rfl⟩
    |mp l=>exact⟨_,by dsimp only;exact j,rfl⟩
    |it c l=>exact⟨_,by dsimp only;exact j,rfl⟩
    |_=>grind
   |cons st u=>
    rw[j,N]at hc;cases tt with
    |ow sub l=>obtain⟨s,l',e⟩:=Ci (P:=True) hc.2;exact⟨.ow s l',by grind,rfl⟩
    |_=>grind
 have B:=J q M hg
 obtain⟨n,off,path⟩:=q;cases path with
 |nil=>
  simp only[plV];cases R:γ n with
  |gh v=>rfl
  |blk b=>simp only[plA,R,ne_eq,akJ]at B;exact hw _ B
 |cons st u=>
  have O:=e2 (by simp)
  simp only[plA,O]at Z B;simp only[plV,O,Z];cases hz:(aI w (γ n) off).bind λy=>bM w y (st::u)with
  |none=>rfl
  |some a=>grind
def p9:Sh->T->Prop
 |.fr,.d _=>True
 |.fr,.nil=>True
 |.ow s,.ow s' _=>s=s'
 |.ow _,.nil=>True
 |_,_=>False
theorem oq{H:FH}:FDx H (.li []) (.slice none 0 0):=⟨1,none,0,rfl,akK _,alJ _,.inl rfl⟩
variable{y:Value}
theorem aiO{w:World}{H:FH}{γ:Gam}{m:Mm}{s:Sh}{t:T}(hs:p9 s t)(h:TR w H γ m t f y):∃k,OD w H k s t.toD f y:=by
 cases s with
 |fr=>
  cases t with
  |d x=>exact⟨0,gr.2 h⟩
  |nil=>obtain⟨h0,rfl⟩:=h;exact⟨0,gr.2 ⟨h0,oq⟩⟩
  |_=>exact hs.elim
 |ow s=>
  cases t with
  |ow s' l=>obtain rfl:s=s':=hs;exact h
  |nil=>obtain⟨h0,rfl⟩:=h;exact⟨1,im.2 (.inl ⟨rfl,rfl,h0⟩)⟩
  |_=>exact hs.elim
def aeF(m:Mm)(p:Pl):Option Sh:=
 match ah m p.root with
 |none=>none
 |some r=>match r.cells[p.off]? with
  |some (.ow sub l)=>(bU sub l p.path).map (·.1)
  |_=>none
theorem dT{m:Mm}:tot F (cY m n r) b=tot F m b:=by induction m<;>grind [cY,fD]
theorem nE{m:Mm}:(cY m n r).map (·.1)=m.map (·.1):=by induction m<;>grind [cY]
theorem qm{m:Mm}(hk:(m.map (·.1)).Nodup)(h:x∈cY m n r):(x.1≠n/\x∈m)\/x=(n,r):=by induction m<;>grind [cY]
theorem ZX{m:Mm}{ft:Fp}(h:n ∉ m.map (·.1)):tot (λk b=>F k b+if k=n then ft b else 0) m b=tot F m b:=by
 induction m with
 |nil=>rfl
 |cons x m ih=>grind [fD]
theorem Gb{m:Mm}{ft:Fp}(hk:(m.map (·.1)).Nodup)(h:ah m n=some r) :
  tot (λk b=>F k b+if k=n then ft b else 0) m b=tot F m b+ft b:=by
 induction m with
 |nil=>simp[ah]at h
 |cons x m ih=>
  simp only[akM,al2]at hk;simp only[ah]at h;rw[fD,fD];split at h
  .rename_i e;subst e;rw[ZX hk.1];grind
  grind
variable{cs:Array Value}
theorem oR{w:World}{ty:TypeId}{fz:Nat×Nat}(h:w.heap[b]? = some (.cells cs ty fz)) :
  (w.setCell ⟨b,k,none⟩ y).heap[b]? = some (.cells (cs.setIfInBounds k y) ty fz):=by
 grind [World.setCell]
theorem Dl{w:World}{ty:TypeId}{fz:Nat×Nat}(h:w.heap[b]? = some (.cells cs ty fz))(h2:KG fz cs.size)(_:k<cs.size) :
  w.frozen? ⟨b,k,none⟩=false:=by
 grind [KG,World.frozen?]
theorem j6{w:World}{b':Nat}(h:b'≠b):(w.setCell ⟨b,k,none⟩ y).heap[b']? = w.heap[b']? := by grind [World.setCell]
theorem Thawed.setCell{w:World}{c:Nat}(h:Thawed w c):Thawed (w.setCell ⟨b,k,none⟩ y) c:=by
 obtain⟨cs,ty,h⟩:=h;by_cases e:c=b
 .subst e;exact⟨_,_,oR h⟩
 exact⟨cs,ty,(j6 e).trans h⟩
theorem RD{w:World}{H:FH}{γ:Gam}{m:Mm}{F:Nm->Fp}(hm:Mem w H γ m F){p:Pl}(hp:cq m p){t0 t:T}(h0:bi m p=some t0)(hno:t0.owned=false)
  {b k:Nat} (Q:plA w γ p=some ⟨b,k,none⟩) {ft:Fp} {y:Value} (ht:TR w H γ m t ft y) (ad:pK y=true)
  (ae:p.path=[]\/∃s,aeF m p=some s/\p9 s t)
  (hd:∀c,tot F m c+ft c<=1) (hl:∀c,ft c≠0->c<w.heap.size/\∀o,H c o=none) :
  (∃z,w.cell? ⟨b,k,none⟩=some z)/\w.frozen? ⟨b,k,none⟩=false /\
   Mem (w.setCell ⟨b,k,none⟩ y) H γ (bF m p t) (λn c=>F n c+if n=p.root then ft c else 0):=by
 have U:=(A7 hm hp Q).1
 dsimp only at U;have ag:ft b=0:=by obtain⟨r,hr,_⟩:=ay.1 hp;have:=bV (F:=F) (al hr) b;grind
 have hw:∀a,a≠(⟨b,k,none⟩:Addr)->(w.setCell ⟨b,k,none⟩ y).cell? a=w.cell? a:=λa ha=>World.cell?_setCell_other _ _ _ _ (λe=>ha e.symm)
 have R:=xx hm hp h0 hno (t:=t) Q hw
 obtain⟨G,C,A⟩:=ay.1 hp;have af:∀c,F p.root c<=1:=λc=>by have:=bV (F:=F) (al C) c;grind
 have i:=hm.roots _ (al C)
 dsimp only at i;have E:∀c,c≠b->(w.setCell ⟨b,k,none⟩ y).heap[c]? = w.heap[c]? := λc hc=>j6 hc
 have K:TR (w.setCell ⟨b,k,none⟩ y) H γ (bF m p t) t ft y:=jJ R (λ_ _ _ h=>h) (λc hc=>E c (by grind)) ht
 have P:(∃z,w.cell? ⟨b,k,none⟩=some z)/\w.frozen? ⟨b,k,none⟩=false /\
   cz (w.setCell ⟨b,k,none⟩ y) H γ (bF m p t) p.root { G with cells:=match p.path with
    |[]=>G.cells.set p.off t
    |st::q=>match G.cells[p.off]? with
     |some (.ow sub l)=>G.cells.set p.off (.ow sub (cC sub l t.toD (st::q)))
     |_=>G.cells } (λc=>F p.root c+ft c):=by
  have O:∀(st:Step)(u:List Step)(sub:List Sh)(l:List (List D))(v:Value)(g:Fp),p.path=st::u->G.cells[p.off]? = some (.ow sub l)->okO sub l (st::u) ->
    TR w H γ m (.ow sub l) g v->(∀c,g c<=1)->bM w v (st::u)=some ⟨b,k,none⟩ ->
    (∃z,w.cell? ⟨b,k,none⟩=some z)/\w.frozen? ⟨b,k,none⟩=false/\g b≠0 /\
     TR (w.setCell ⟨b,k,none⟩ y) H γ (bF m p t) (.ow sub (cC sub l t.toD (st::u))) (λc=>g c+ft c) v:=by
   intro st u sub l v g f ab X ⟨n,ac⟩ V B;obtain⟨b',k',z,s,x,cs,ty,fz,f1,f2,W,c2,c3,c4,c5,c6,c7,c8,c9⟩:=ym (st::u) n sub l g v ac V X;rw[B]at W;simp only[akJ,Addr.mk.injEq,and_true]at W;obtain⟨rfl,rfl⟩:=W;have hk:k<cs.size:=by grind
   refine⟨⟨z,by grind [World.cell?]⟩,?_,by grind,?_⟩
   .grind [Dl]
   have ai:∀c,f1 c=0:=by
    have hg:bi m p=some (match s,x with|.fr,x=>.d x|.ow s,.li l'=>.ow s l'|.ow _,_=>.any):=by
     unfold bi;rw[C,f];simp only[ab,c5];cases s with
     |fr=>rfl
     |ow s=>cases x<;>rfl
    rw[h0]at hg;simp only[akJ]at hg;cases s with
    |fr=>grind [gr]
    |ow s=>cases x with
     |li l'=>grind [T.owned]
     |_=>grind [OD]
   have aa:p9 s t:=by grind [aeF]
   obtain⟨j,hj⟩:=aiO aa K;obtain⟨M,hM⟩:=c9 (w.setCell ⟨b,k,none⟩ y) H y t.toD ft j (λ_ _ _ h=>h) (oR c2) (λc h1 _=>E c h1) hj;exact⟨M,If (λc=>by grind) hM⟩
  unfold cz at i|-;dsimp only;split at i
  .rename_i hb;rw[if_pos hb];obtain⟨b0,cs,ty,fz,g,h1,h2,h3,h4,h5,h6⟩:=i;cases f:p.path with
   |nil=>
    dsimp only;simp only[plA,f,h1,akJ,Addr.mk.injEq,and_true]at Q;obtain⟨rfl,rfl⟩:=Q;rw[f]at A;dsimp only[bf]at A;obtain⟨s,x,v,N,fr,a1,a2,a3,a4,a5,Z,_⟩:=dq _ _ _ _ _ h5 A;have hv:cs[p.off]? = some v:=by grind
    have hk:p.off<cs.size:=by omega
    refine⟨⟨v,by grind [World.cell?]⟩,?_,b0,cs.setIfInBounds p.off y,ty,fz,λc=>ft c+fr c,h1,oR h2,by grind,by grind,?_,?_⟩
    .exact Dl h2 h3.1 hk
    .unfold Ts;have:=Z (λ_ t'=>TR (w.setCell ⟨b0,p.off,none⟩ y) H γ (bF m p t) t') t y ft (λ_ x g' v Y hx=>jJ R (λ_ _ _ h=>h) (λc hc=>E c (by grind)) hx) K
     grind
    intro c;have:N c=0:=by
     simp only[bi,f]at h0;cases x with
     |ow sub l=>grind [T.owned]
     |mp l=>grind [T.owned]
     |it c l=>grind [T.owned]
     |any=>exact a5 c
     |_=>exact a5.1 c
    grind
   |cons st u=>
    rw[f]at A;dsimp only[bf]at A;cases I:G.cells[p.off]? with
    |none=>grind
    |some tt=>
     rw[I]at A;cases tt with
     |ow sub l=>
      dsimp only at A|-;have S:p.off<G.cells.length:=by grind
      obtain⟨s,x,v,N,fr,a1,a2,a3,a4,a5,Z,_⟩:=dq _ _ _ _ _ h5 S;rw[I]at a2;obtain rfl:T.ow sub l=x:=by grind
      have hv:cs[p.off]? = some v:=by grind
      have B:bM w v (st::u)=some ⟨b,k,none⟩:=by grind [plA,aI,World.cell?]
      obtain⟨e1,e2,e3,e4⟩:=O st u sub l v N f I A a5 (λc=>by grind) B;have ah:b0≠b:=by grind
      refine⟨e1,e2,b0,cs,ty,fz,λc=>(N c+ft c)+fr c,h1,by grind,h3,by grind,?_,?_⟩
      .unfold Ts;rw[amL];have:=Z (λ_ t'=>TR (w.setCell ⟨b,k,none⟩ y) H γ (bF m p t) t') (.ow sub (cC sub l t.toD (st::u))) v (λc=>N c+ft c) (λ_ x g' v Y hx=>jJ R (λ_ _ _ h=>h) (λc hc=>E c (by grind)) hx) e4
       have hs:cs.toList.set p.off v=cs.toList:=by
        apply alP
        grind
       grind
      grind
     |_=>grind
  grind [plA,bf,aI]
 obtain⟨m1,m2,m3⟩:=P;refine⟨m1,m2,?_⟩;have J:bF m p t=cY m p.root { G with cells:=match p.path with
    |[]=>G.cells.set p.off t
    |st::q=>match G.cells[p.off]? with
     |some (.ow sub l)=>G.cells.set p.off (.ow sub (cC sub l t.toD (st::q)))
     |_=>G.cells }:=by
  grind [bF]
 have L:∀c,tot (λn c=>F n c+if n=p.root then ft c else 0) (bF m p t) c=tot F m c+ft c:=by intro c;rw[J,dT,Gb hm.keys C]
 constructor
 .intro b' o v hv;refine(hm.agree b' o v hv).frame (E b' λe=>?_);have:=hm.nofz b' (by have:=bV (F:=F) (al C) b';grind) o
  grind
 .intro x hx;rw[J]at hx;rcases qm hm.keys hx with⟨hn,hx⟩|rfl
  .have h:=bm (γ':=γ) R (λ_ _ _ h=>h) rfl (λc hc=>E c (by
    have:=vQ (F:=F) (al C) hx (λe=>hn e.symm) c
    grind)) (hm.roots x hx)
   simp_all
  grind
 .grind [nE,Mem.keys]
 .grind
 .grind [World.size_setCell,Mem.lt]
 intro c hc;rw[L]at hc;by_cases h:ft c=0
 .exact hm.nofz c kQ1
 grind
def Pl.offs(p:Pl):List Nat:=p.off::p.path.map (·.off)
def thr(q:Pl)(rf:Bool)(p:Pl):Bool:=decide (q.root=p.root)&&q.offs.isPrefixOf p.offs&&(rf||q.offs != p.offs)
def T.kill(bad:Bool->Pl->Bool):T->T
 |.pl p=>if bad false p then .any else .pl p
 |.rf p=>if bad true p then .any else .rf p
 |t=>t
def AV1.kill(bad:Bool->Pl->Bool):AV1->AV1
 |.c t=>.c (t.kill bad)
 |.agg ts=>.agg (ts.map (·.kill bad))
def AV.kill(bad:Bool->Pl->Bool):AV->AV
 |.one x=>.one (x.kill bad)
 |.tup xs=>.tup (xs.map (·.kill bad))
 |.any=>.any
def aP(bad:Bool->Pl->Bool)(m:Mm):Mm:=m.map λx=>(x.1,{ x.2 with cells:=x.2.cells.map (·.kill bad) })
def nH(bad:Bool->Pl->Bool)(t:List (Nat×AV)):List (Nat×AV):=t.map λx=>(x.1,x.2.kill bad)
structure KeepsB (bad:Bool->Pl->Bool) (w:World) (γ:Gam) (m:Mm) (w':World) (γ':Gam) (m':Mm):Prop where
 pl:∀q,bad false q=false->cq m q->cq m' q/\plA w' γ' q=plA w γ q
 rf:∀q,bad true q=false->iB m q->iB m' q/\plV w' γ' q=plV w γ q
section
variable {bad:Bool->Pl->Bool} {w w':World} {H H':FH} {γ γ':Gam} {m m':Mm}
theorem qZ(i:KeepsB bad w γ m w' γ' m')(e:∀b o y,H b o=some y->H' b o=some y)
  {t:T} {f:Fp} {y:Value} (hw:∀b,f b≠0->w'.heap[b]? = w.heap[b]?) (h:TR w H γ m t f y):TR w' H' γ' m' (t.kill bad) f y:=by
 cases t with
 |d x=>exact⟨h.1,fq e h.2⟩
 |nil=>exact h
 |ow sub l=>obtain⟨k,h⟩:=h;exact⟨k,cZ e k k _ _ _ _ (akK _) hw h⟩
 |mp l=>obtain⟨b,es,ck,g,h1,h2,h3,h4,h5⟩:=h;exact⟨b,es,ck,g,h1,by grind,h3,kJ e (λc hc=>hw c (by grind)) h4,h5⟩
 |it cur rest=>obtain⟨r,m,a,s,c,h1,h2,h3,h4⟩:=h;exact⟨r,m,a,s,c,h1,by grind,Ib e h3,h4⟩
 |el row off=>obtain⟨h0,b,o,k,h1,h2⟩:=h;exact⟨h0,b,o,k,h1,mW e h2⟩
 |pl p=>
  obtain⟨h0,h1,a,h2,h3⟩:=h;simp only[T.kill];split
  .exact h0
  rename_i hb;obtain⟨k1,k2⟩:=i.pl p (by grind) h1;exact⟨h0,k1,a,by grind,h3⟩
 |rf p=>
  obtain⟨h0,h1,h2⟩:=h;simp only[T.kill];split
  .exact h0
  rename_i hb;obtain⟨k1,k2⟩:=i.rf p (by grind) h1;exact⟨h0,k1,by grind⟩
 |any=>exact h
theorem LX{R c:α->β->Fp->Value->Prop}{g:β->β}:∀{a:List α}{xs:List β}{f:Fp}{vs:List Value},
  (∀s x h v,(∀b,h b<=f b)->R s x h v->c s (g x) h v)->Cs R a xs f vs->Cs c a (xs.map g) f vs
 |[],[],_,_,_,h=>h
 |s::a,x::xs,f,vs,d,h=>by obtain⟨v,r,f1,e,hv,hf,h1,h2⟩:=h;exact⟨v,r,f1,e,hv,hf,d _ _ _ _ (λb=>by grind) h1,LX (λs x h v i=>d s x h v (λb=>by grind)) h2⟩
 |[],_::_,_,_,_,h=>h.elim
 |_::_,[],_,_,_,h=>h.elim
theorem uu(c:KeepsB bad w γ m w' γ' m')(a:∀b o y,H b o=some y->H' b o=some y)
  {ts:List T} {f:Fp} {vs:List Value} (hw:∀b,f b≠0->w'.heap[b]? = w.heap[b]?) (h:Ts (TR w H γ m) ts f vs):Ts (TR w' H' γ' m') (ts.map (·.kill bad)) f vs:=by
 grind [Ts,LX,qZ]
theorem Gp(d:KeepsB bad w γ m w' γ' m')(a:∀b o y,H b o=some y->H' b o=some y){x:AV1}(h:AR1 w H γ m x y):AR1 w' H' γ' m' (x.kill bad) y:=by
 cases x with
 |c t=>exact qZ d a (λb hb=>absurd rfl hb) h
 |agg ts=>obtain⟨cs,h1,h2,h3⟩:=h;exact⟨cs,h1,by grind,uu d a (λb hb=>absurd rfl hb) h3⟩
theorem Gq(c:KeepsB bad w γ m w' γ' m')(a:∀b o y,H b o=some y->H' b o=some y) :
  ∀{xs:List AV1}{ys:List Value},ARs w H γ m xs ys->ARs w' H' γ' m' (xs.map (·.kill bad)) ys
 |[],[],_=>trivial
 |_::_,_::_,h=>⟨Gp c a h.1,Gq c a h.2⟩
 |[],_::_,h=>h.elim
 |_::_,[],h=>h.elim
theorem ua(c:KeepsB bad w γ m w' γ' m')(a:∀b o y,H b o=some y->H' b o=some y){x:AV}(h:AR w H γ m x y):AR w' H' γ' m' (x.kill bad) y:=by
 cases x with
 |one x=>exact Gp c a h
 |tup xs=>obtain⟨l,h1,h2⟩:=h;exact⟨l,h1,Gq c a h2⟩
 |any=>trivial
theorem sV(d:KeepsB bad w γ m w' γ' m')(a:∀b o y,H b o=some y->H' b o=some y)
  {n:Nm} {r:Root} {f:Fp} (e:γ' n=γ n) (hw:∀b,f b≠0->w'.heap[b]? = w.heap[b]?) (h:cz w H γ m n r f) :
  cz w' H' γ' m' n { r with cells:=r.cells.map (·.kill bad) } f:=by
 unfold cz at h|-;dsimp only;split at h
 .rename_i hb;rw[if_pos hb];obtain⟨b,cs,ty,fz,g,h1,h2,h3,h4,h5,h6⟩:=h;exact⟨b,cs,ty,fz,g,by grind,by grind,h3,by grind,
   uu d a (λc hc=>hw c (by grind)) h5,h6⟩
 grind [qZ]
end
theorem lr{bad:Bool->Pl->Bool}{m:Mm}:ah (aP bad m) n=(ah m n).map λr=>{ r with cells:=r.cells.map (·.kill bad) }:=by
 induction m with
 |nil=>rfl
 |cons x m ih=>
  obtain⟨k,y⟩:=x;simp only[aP,akM,ah];split
  .rfl
  exact ih
variable{cells:List T}{path:List Step}
theorem FI{bad:Bool->Pl->Bool}{off:Nat}(h:bf cells off path):bf (cells.map (·.kill bad)) off path:=by
 cases path with
 |nil=>grind [bf]
 |cons st u=>
  simp only[bf,akN]at h|-;cases a:cells[off]? with
  |none=>grind
  |some t=>
   rw[a]at h;cases t with
   |ow sub l=>exact h
   |_=>grind
theorem AZ{bad:Bool->Pl->Bool}{off:Nat}(h:bO cells off path):bO (cells.map (·.kill bad)) off path:=by
 unfold bO at h|-;simp only[akN];cases a:cells[off]? with
 |none=>grind
 |some t=>
  rw[a]at h;cases t with
  |ow sub l=>exact h
  |mp l=>exact h
  |it c l=>exact h
  |_=>grind
variable{q:Pl}
theorem tE{bad:Bool->Pl->Bool}{m:Mm}(h:cq m q):cq (aP bad m) q:=by grind [ay,lr,FI]
theorem tF{bad:Bool->Pl->Bool}{m:Mm}(h:iB m q):iB (aP bad m) q:=by grind [cr,lr,AZ]
theorem bC{bad:Bool->Pl->Bool}{m:Mm}:tot F (aP bad m) b=tot F m b:=by induction m<;>grind [aP,tot]
theorem oZ{bad:Bool->Pl->Bool}{m:Mm}:(aP bad m).map (·.1)=m.map (·.1):=by simp[aP,Function.comp_def]
theorem KH:∀(p q:List Step)(sub:List Sh)(l:List (List D))(x:D)(n:Nat),p.length+q.length<=n->wfO n sub l->okO sub l p->okO sub l q ->
  ((q.map (·.off)).isPrefixOf (p.map (·.off))=false\/q.map (·.off)=p.map (·.off)->okO sub (cC sub l x q) p) /\
  ((q.map (·.off)).isPrefixOf (p.map (·.off))=false->∀s l',bU sub l p=some (.ow s,.li l')->∃C,bU sub (cC sub l x q) p=some (.ow s,.li C)):=by
 intro p;induction p with
 |nil=>intro q sub l x n _ _ h;exact h.elim
 |cons st r ih=>
  intro q sub l x n hn m hp hq;cases q with
  |nil=>grind
  |cons a f=>
  cases n with
  |zero=>grind
  |succ n=>
  obtain⟨F,c⟩:=m;have o:st.idx<l.length/\st.esz=sub.length/\st.off<sub.length:=by
   cases r with
   |nil=>exact hp
   |cons _ _=>exact hp.1
  have k:a.idx<l.length/\a.esz=sub.length/\a.off<sub.length:=by
   cases f with
   |nil=>exact hq
   |cons _ _=>exact hq.1
  obtain⟨hi,K,ho⟩:=o;obtain⟨A,I,J⟩:=k;have w:a.off < (l.getD a.idx []).length:=by grind
  have key:∃y,cC sub l x (a::f)=l.set a.idx ((l.getD a.idx []).set a.off y) /\
    (∀t u,f=t::u->∃s2 l2,sub[a.off]? = some (.ow s2)/\(l.getD a.idx []).getD a.off default=.li l2/\y=.li (cC s2 l2 x (t::u))/\okO s2 l2 (t::u)):=by
   cases f with
   |nil=>exact⟨x,rfl,λt u h=>by simp at h⟩
   |cons t u=>
    obtain⟨_,hq⟩:=hq;cases hs:sub[a.off]? with
    |none=>grind
    |some s0=>
     rw[hs]at hq;cases s0 with
     |fr=>grind
     |ow s2=>
      cases hd:(l.getD a.idx []).getD a.off default with
      |li l2=>
       rw[hd]at hq;refine⟨.li (cC s2 l2 x (t::u)),by grind [cC],λt' u' h=>?_⟩
       grind
      |_=>grind
  obtain⟨y,g,d⟩:=key;rw[g];have b:=λi' j'=>Do (l:=l) (i:=a.idx) (j:=a.off) (i':=i') (j':=j') (y:=y) A w
  cases r with
  |nil=>
   refine⟨λ_=>⟨by grind,K,ho⟩,λE s l' h=>?_⟩;simp only[bU]at h|-;rw[b];by_cases e:a.idx=st.idx/\a.off=st.off
   .rw[if_pos e];obtain⟨G,v⟩:=e;cases f<;>grind
   grind
  |cons t u=>
   obtain⟨_,hp⟩:=hp;cases hs:sub[st.off]? with
   |none=>grind
   |some s0=>
    rw[hs]at hp;cases s0 with
    |fr=>grind
    |ow s2=>
     cases hd:(l.getD st.idx []).getD st.off default with
     |li l2=>
      rw[hd]at hp;have H:=b st.idx st.off
      by_cases e:a.idx=st.idx/\a.off=st.off
      .rw[if_pos e]at H;obtain⟨G,v⟩:=e;cases f with
       |nil=>grind
       |cons t' u'=>
        obtain⟨L,M,B,z,rfl,a4⟩:=d t' u' rfl;rw[v,hs]at B;rw[G,v,hd]at z;simp only[akJ,Sh.ow.injEq]at B;simp only[D.li.injEq]at z;subst B;subst z;obtain⟨g1,g2⟩:=ih (t'::u') s2 l2 x n (by grind) (c st.idx st.off s2 l2 hs hd) hp a4
        grind [okO,bU]
      grind [okO,bU]
     |_=>grind
theorem Al{m:Mm}{p:Pl}{t:T}{a:Root}(b:ah m p.root=some a)(q:Nm):ah (bF m p t) q=if p.root=q then some { a with cells:=match p.path with
   |[]=>a.cells.set p.off t
   |st::q=>match a.cells[p.off]? with
    |some (.ow sub l)=>a.cells.set p.off (.ow sub (cC sub l t.toD (st::q)))
    |_=>a.cells }else ah m q:=by
 grind [bF,gj]
theorem di{l:List α}{x:α}(h:l[i]? = some x):i<l.length:=by grind
theorem pO{w:World}{H:FH}{γ:Gam}{m:Mm}(hm:Mem w H γ m F)(hq:cq m q) :
  KeepsB (thr q) w γ m w γ (aP (thr q) (bF m q .any)):=by
 obtain⟨h,e,b⟩:=ay.1 hq;have d:=Al (t:=T.any) e
 have i:∀(off:Nat)(sub:List Sh)(l:List (List D)),h.cells[off]? = some (T.ow sub l)->∀n,wfO n sub l:=by
  intro off sub l j n;obtain⟨v,g,_,⟨k,y⟩,_⟩:=fe (hm.roots _ (al e)) j
  grind [EB]
 constructor
 .intro p hb hp;refine⟨tE ?_,rfl⟩;obtain⟨r,hr,hc⟩:=ay.1 hp;rw[ay,d];by_cases hn:q.root=p.root
  .rw[if_pos hn];obtain rfl:h=r:=by grind
   refine⟨_,rfl,?_⟩;simp only[thr,Pl.offs]at hb;obtain⟨n,off,path⟩:=p;cases path with
   |nil=>grind [bf]
   |cons st u=>
    dsimp only[bf]at hc|-;cases c:q.path with
    |nil=>grind
    |cons f u'=>
     rw[c]at b;dsimp only[bf]at b;cases a:h.cells[q.off]? with
     |none=>exact hc
     |some o=>
      rw[a]at b;cases o with
      |ow sub l=>
       by_cases ho:q.off=off
       .subst ho;rw[ak7 (di a)];rw[a]at hc;refine(KH (st::u) (f::u') sub l _ _ (akK _) (i _ sub l a _) hc b).1 ?_
        grind
       grind
      |_=>exact hc
  grind
 intro p hb hp;refine⟨tF ?_,rfl⟩;obtain⟨r,hr,hc⟩:=cr.1 hp;rw[cr,d];by_cases hn:q.root=p.root
 .rw[if_pos hn];rw[<- hn,e]at hr;obtain rfl:h=r:=by grind
  refine⟨_,rfl,?_⟩;simp only[thr,hn,decide_true,alH,Bool.true_or,amO,Pl.offs]at hb;obtain⟨n,off,path⟩:=p;dsimp only at hc hb|-;unfold bO at hc|-;cases j:h.cells[off]? with
  |none=>grind
  |some tt=>
   cases tt with
   |ow s x=>
    rw[j]at hc;cases c:q.path with
    |nil=>grind
    |cons f u'=>
     rw[c]at b;dsimp only[bf]at b;cases a:h.cells[q.off]? with
     |none=>grind
     |some o=>
      rw[a]at b;cases o with
      |ow sub l=>
       by_cases ho:q.off=off
       .subst ho;rw[ak7 (di a)];rw[a]at j;obtain⟨rfl,rfl⟩:=j;cases path with
        |nil=>trivial
        |cons st u=>
         obtain⟨k1,k2⟩:=KH (st::u) (f::u') _ _ T.any.toD _ (akK _) (i _ _ _ a _) hc.1 b
         grind
       grind
      |_=>grind
   |mp x=>grind
   |it z x=>grind
   |_=>grind
 grind
theorem aeL{F:Nm->Fp}{m:Mm}{g:Fp}{b:Nat}(hk:(m.map (·.1)).Nodup)(h:ah m n=some r)(a:∀b,g b<=F n b) :
  tot (λk b=>F k b-if k=n then g b else 0) m b+g b=tot F m b:=by
 have e:=Gb (F:=λk b=>F k b-if k=n then g b else 0) (ft:=g) (b:=b) hk h
 rw[<- e];have:(λk b=>(F k b-if k=n then g b else 0)+if k=n then g b else 0)=F:=by grind
 rw[this]
theorem qJ{l:List α}{x:α}(h:l[i]? = some x):l.set i x=l:=by
 apply alP
 grind
theorem oB{z:Value}(h:cs[k]? = some z):cs.setIfInBounds k z=cs:=by grind
theorem zi{w:World}{H:FH}{γ:Gam}{m:Mm}{F:Nm->Fp}(hm:Mem w H γ m F)(hq:cq m q){l:List (List D)}(A:bi m q=some (.ow sub l)) :
  ∃g v,plV w γ q=some v/\TR w H γ m (.ow sub l) g v/\(∀b,g b<=F q.root b)/\(∀b,tot (λn b=>F n b-if n=q.root then g b else 0) m b+g b=tot F m b) /\
   ∀H':FH,(∀b o y,H b o=some y->H' b o=some y)->(∀b o y,H' b o=some y->RdV w b o y) ->
    (∀b,tot (λn b=>F n b-if n=q.root then g b else 0) m b≠0->∀o,H' b o=none) ->
    Mem w H' γ (aP (thr q) (bF m q .any)) (λn b=>F n b-if n=q.root then g b else 0):=by
 have hK:=pO hm hq
 obtain⟨j,r,f⟩:=ay.1 hq;have e:=hm.roots _ (al r)
 dsimp only at e;have L:∀c,F q.root c<=1:=λc=>by have:=hm.le1 c;have:=bV (F:=F) (al r) c;grind
 have O:∃g v,plV w γ q=some v/\TR w H γ m (.ow sub l) g v/\(∀b,g b<=F q.root b) /\
   ∀H':FH,(∀b o y,H b o=some y->H' b o=some y) ->
    cz w H' γ (aP (thr q) (bF m q .any)) q.root { j with cells:=List.map (λt=>T.kill (thr q) t) (match q.path with
     |[]=>j.cells.set q.off .any
     |st::u=>match j.cells[q.off]? with
      |some (.ow sub l)=>j.cells.set q.off (.ow sub (cC sub l .any (st::u)))
      |_=>j.cells) } (λb=>F q.root b-g b):=by
  have C:∀(st:Step)(u:List Step)(a:List Sh)(p:List (List D))(v0:Value)(I:Fp),q.path=st::u->j.cells[q.off]? = some (.ow a p)->okO a p (st::u) ->
    TR w H γ m (.ow a p) I v0->(∀c,I c<=1)->∃g v,(bM w v0 (st::u)).bind w.cell? = some v/\TR w H γ m (.ow sub l) g v/\(∀b,g b<=I b) /\
     ∀H':FH,(∀b o y,H b o=some y->H' b o=some y)->∀m',TR w H' γ m' (.ow a (cC a p .any (st::u))) (λc=>I c-g c) v0:=by
   intro st u a p v0 I d ht S ⟨n,U⟩ R;obtain⟨b,k,z,s,x,cs,ty,fz,f1,f2,c1,c2,c3,c4,c5,c6,c7,c8,c9⟩:=ym (st::u) n a p I v0 U R S;unfold bi at A;rw[r,d]at A;simp only[ht,c5]at A;refine⟨f1,z,by grind [World.cell?],?_,λb=>by grind,λH' B m'=>?_⟩
   .cases s with
    |fr=>grind
    |ow s=>cases x with
     |li l'=>obtain⟨rfl,rfl⟩:=A;exact⟨n,c8⟩
     |_=>grind
   cases s with
   |fr=>grind
   |ow s=>obtain⟨M,hM⟩:=c9 w H' z .any (λ_=>0) 1 B (by grind [oB]) (λ_ _ _=>rfl) (by simp[OD]);exact⟨M,If (λc=>by grind) hM⟩
  unfold cz at e|-;dsimp only;split at e
  .rename_i hb;obtain⟨b0,cs,ty,fz,g,h1,h2,h3,h4,h5,h6⟩:=e;cases d:q.path with
   |nil=>
    unfold bi at A;rw[r,d]at A;dsimp only at A;obtain⟨s,x,v,J,fr,a1,V,a3,a4,a5,X,_⟩:=dq _ _ _ _ _ h5 (di A);rw[A]at V;obtain rfl:T.ow sub l=x:=by grind
    have hv:cs[q.off]? = some v:=by grind
    refine⟨J,v,?_,a5,λb=>by grind,λH' B=>?_⟩
    .grind [plV,aI,World.cell?]
    rw[if_pos hb];refine⟨b0,cs,ty,fz,fr,h1,h2,h3,by grind,?_,λc=>by grind⟩;have E:=X (λ_ t=>TR w H γ m t) T.any v (λ_=>0) (λ_ x g' N W hx=>hx) (λ_=>rfl)
    rw[qJ a3]at E;have G:Ts (TR w H γ m) (j.cells.set q.off .any) fr cs.toList:=by grind [Ts]
    exact uu hK B (λ_ _=>rfl) G
   |cons st u=>
    rw[d]at f;dsimp only[bf]at f;cases i:j.cells[q.off]? with
    |none=>grind
    |some tt=>
     rw[i]at f;cases tt with
     |ow a p=>
      dsimp only at f|-;obtain⟨s,x,v,J,fr,a1,V,a3,a4,a5,X,_⟩:=dq _ _ _ _ _ h5 (di i);rw[i]at V;obtain rfl:T.ow a p=x:=by grind
      have hv:cs[q.off]? = some v:=by grind
      obtain⟨g',N,e1,Q,e3,e4⟩:=C st u a p v J d i f a5 (λc=>by grind);refine⟨g',N,?_,Q,λb=>by grind,λH' B=>?_⟩
      .grind [plV,aI,World.cell?]
      rw[if_pos hb];refine⟨b0,cs,ty,fz,λc=>(J c-g' c)+fr c,h1,h2,h3,by grind,?_,λc=>by grind⟩;have E:=X (λ_ t=>TR w H γ m t) (.ow a (cC a p .any (st::u))) v (λc=>J c-g' c) (λ_ x g' N W hx=>hx) (e4 H (λ_ _ _ h=>h) m)
      rw[qJ a3]at E;have G:Ts (TR w H γ m) (j.cells.set q.off (.ow a (cC a p .any (st::u)))) (λc=>(J c-g' c)+fr c) cs.toList:=by grind [Ts]
      exact uu hK B (λ_ _=>rfl) G
     |_=>grind
  rename_i hb;obtain⟨v,t',h1,h2,h3⟩:=e;cases d:q.path with
  |nil=>
   unfold bi at A;have ho:q.off=0:=by grind
   obtain rfl:t'=T.ow sub l:=by grind
   refine⟨F q.root,v,?_,h3,λ_=>akK _,λH' B=>?_⟩
   .grind [plV,aI]
   rw[if_neg hb];refine⟨v,.any,h1,?_,λc=>Nat.sub_self _⟩;rw[h2,ho];rfl
  |cons st u=>
   rw[d]at f;dsimp only[bf]at f;cases i:j.cells[q.off]? with
   |none=>grind
   |some tt=>
    rw[i]at f;cases tt with
    |ow a p=>
     have ho:q.off=0:=by grind
     obtain rfl:t'=T.ow a p:=by grind
     obtain⟨g',N,e1,Q,e3,e4⟩:=C st u a p v (F q.root) d i f h3 L;refine⟨g',N,?_,Q,e3,λH' B=>?_⟩
     .grind [plV,aI]
     rw[if_neg hb];refine⟨v,_,h1,?_,e4 H' B _⟩;rw[h2,ho];rfl
    |_=>grind
 obtain⟨g,v,m1,m2,m3,m4⟩:=O;have Z:∀b,tot (λn b=>F n b-if n=q.root then g b else 0) m b+g b=tot F m b:=λb=>aeL hm.keys r m3
 refine⟨g,v,m1,m2,m3,Z,λH' B Y ab=>?_⟩;have P:bF m q .any=cY m q.root { j with cells:=match q.path with
    |[]=>j.cells.set q.off .any
    |st::u=>match j.cells[q.off]? with
     |some (.ow sub l)=>j.cells.set q.off (.ow sub (cC sub l .any (st::u)))
     |_=>j.cells }:=by
  unfold bF;rw[r];rfl
 have aa:∀c,tot (λn c=>F n c-if n=q.root then g c else 0) (aP (thr q) (bF m q .any)) c=tot (λn c=>F n c-if n=q.root then g c else 0) m c:=by grind [bC,dT]
 constructor
 .exact Y
 .intro x hx;simp only[aP,ak5]at hx;obtain⟨x0,K,rfl⟩:=hx;rw[P]at K;rcases qm hm.keys K with⟨hn,hx1⟩|rfl
  .have h:=sV (γ':=γ) hK B rfl (λc _=>rfl) (hm.roots x0 hx1)
   simp_all
  grind
 .grind [oZ,nE,Mem.keys]
 .grind [Mem.le1]
 .intro c hc;exact hm.lt c (by grind)
 grind
theorem Wi{w:World}{H H':FH}(f:∀b o v,H b o=some v->H' b o=some v):∀(k:Nat)(s:Sh)(x:D)(g:Fp)(y:Value),OD w H k s x g y ->
  (∀b,g b≠0->∀o v,w.cell? ⟨b,o,none⟩=some v->H' b o=some v)->FDx H' x y:=by
 intro k;induction k with
 |zero=>
  intro s x g y h hw;cases s with
  |fr=>grind [fq,gr]
  |ow sub=>cases x with
   |any=>exact⟨0,trivial⟩
   |_=>simp[OD]at h
 |succ k ih=>
  intro s x g y h hw;cases s with
  |fr=>grind [fq,gr]
  |ow sub=>
   cases x with
   |any=>exact⟨0,trivial⟩
   |li l=>
    rw[im]at h;rcases h with⟨rfl,rfl,_⟩|⟨b,c,cs,ty,frz,g',h1,h2,h3,h4,h5,h6,h7,h8,h9⟩
    .exact oq
    subst h1;have hb:∀o v,w.cell? ⟨b,o,none⟩=some v->H' b o=some v:=hw b (by grind)
    obtain⟨n,hn⟩:=VD (H:=H') (l:=l) (b:=b) (o:=0) (e:=sub.length) (λi hi=>by
     have a:l.getD i []=l[i]:=by grind
     refine⟨by grind,λj hj=>?_⟩;have hk:i*sub.length+j<l.flatten.length:=by
      rw[db _ _ h7];have:(i+1)*sub.length<=l.length*sub.length:=alS _ hi
      grind
     obtain⟨x,hx⟩:∃x,l.flatten[i*sub.length+j]? = some x:=⟨_,akL hk⟩
     obtain⟨s,v,g2,d,m,a3,a4⟩:=sP h8 hx
     grind [World.cell?,eY])
    exact⟨n+1,pC.2 ⟨some ⟨b,0,none⟩,c,rfl,h5,h6,.inr ⟨b,0,sub.length,rfl,hn⟩⟩⟩
   |int _ _=>simp[OD]at h
   |bool _=>simp[OD]at h
   |str _=>simp[OD]at h
   |mp _=>simp[OD]at h
   |fn _ _=>simp[OD]at h
   |v _=>simp[OD]at h
def upd(f:Nm->α)(n:Nm)(x:α):Nm->α:=λk=>if k=n then x else f k
theorem eQ{f:Nm->α}{x:α}:upd f n x n=x:=by simp[upd]
theorem mR{f:Nm->α}{k:Nm}{x:α}(h:k≠n):upd f n x k=f k:=by simp[upd,h]
theorem wD{m:Mm}:ah m n=none ↔ n ∉ m.map (·.1):=by induction m<;>grind [ah]
theorem Un{m:Mm}(h:cq m q):ah m q.root≠none:=by grind [ay]
theorem mX{w:World}{γ:Gam}{m:Mm}{rc:RC}(hn:ah m n=none):Keeps w γ m w (upd γ n rc) ((n,r)::m):=by
 have a:∀q:Pl,cq m q->q.root≠n:=λq hq e=>Un hq (by grind)
 have b:∀k,k≠n->ah ((n,r)::m) k=ah m k:=λk hk=>by grind [ah]
 constructor
 all_goals grind [ay,plA,mR,fP,cr,plV]
theorem U2{F':Nm->Fp}{m:Mm}(h:∀x∈m,F' x.1 b=F x.1 b):tot F' m b=tot F m b:=by
 induction m with
 |nil=>rfl
 |cons x m ih=>grind [fD]
theorem yl{w:World}{H:FH}{γ:Gam}{m:Mm}(hm:Mem w H γ m F){rc:RC}{r:Root}(hn:ah m n=none)
  (hr:cz w H (upd γ n rc) ((n,r)::m) n r f) (hd:∀b,tot F m b+f b<=1) (hl:∀b,f b≠0->b<w.heap.size/\∀o,H b o=none) :
  Mem w H (upd γ n rc) ((n,r)::m) (upd F n f)/\∀b,tot (upd F n f) ((n,r)::m) b=f b+tot F m b:=by
 have g:=mX (w:=w) (γ:=γ) (rc:=rc) (r:=r) hn
 have c:∀x∈m,x.1≠n:=λx hx e=>by grind [wD]
 have a:∀b,tot (upd F n f) ((n,r)::m) b=f b+tot F m b:=λb=>by rw[fD,eQ,U2 (λx hx=>by rw[mR (c x hx)])]
 refine⟨⟨hm.agree,?_,?_,?_,?_,?_⟩,a⟩
 .intro x hx;rcases akU.1 hx with rfl|d
  .grind [eQ]
  rw[mR (c x d)];exact bm g (λ_ _ _ h=>h) (mR (c x d)) (λ_ _=>rfl) (hm.roots x d)
 .grind [Mem.keys]
 .grind
 .grind [Mem.lt]
 intro b hb;rw[a]at hb;by_cases h:f b=0
 .exact hm.nofz b kQ1
 grind
def bJ(n:Nm)(_:Bool)(p:Pl):Bool:=decide (p.root=n)
theorem nu{m:Mm}{k:Nm}(h:k≠n):ah (ci m n) k=ah m k:=by induction m<;>grind [ci,ah]
theorem AP{m:Mm}(h:x∈ci m n):x∈m:=by
 induction m with
 |nil=>exact h
 |cons y m ih=>grind [ci]
theorem AT{m:Mm}(h:(m.map (·.1)).Nodup):((ci m n).map (·.1)).Nodup:=by
 induction m with
 |nil=>exact h
 |cons y m ih=>
  obtain⟨j,z⟩:=y;simp only[akM,al2]at h;simp only[ci];split
  .exact h.2
  simp only[akM,al2];refine⟨λhj=>h.1 ?_,ih h.2⟩;obtain⟨x,hx,e⟩:=ak5.1 hj
  grind [AP]
theorem gL{m:Mm}:tot F (ci m n) b<=tot F m b:=by
 induction m with
 |nil=>exact akK _
 |cons y m ih=>grind [ci,fD]
theorem fb{w:World}{γ:Gam}{m:Mm}:KeepsB (bJ n) w γ m w γ (aP (bJ n) (ci m n)):=by
 constructor
 all_goals grind [bJ,tE,ay,nu,tF,cr]
theorem Ez{w:World}{H:FH}{γ:Gam}{m:Mm}(hm:Mem w H γ m F)(n:Nm):Mem w H γ (aP (bJ n) (ci m n)) F:=by
 constructor
 .exact hm.agree
 .intro x hx;simp only[aP,ak5]at hx;obtain⟨c,a,rfl⟩:=hx;exact sV fb (λ_ _ _ h=>h) rfl (λ_ _=>rfl) (hm.roots c (AP a))
 .rw[oZ];exact AT hm.keys
 .grind [bC,gL,Mem.le1]
 .intro b hb;rw[bC]at hb;exact hm.lt b (by grind [gL])
 intro b hb;rw[bC]at hb;exact hm.nofz b (by grind [gL])
theorem K8(sub:List Sh)(n m:Nat):(List.replicate (n+m) sub).flatten=(List.replicate n sub).flatten++(List.replicate m sub).flatten:=by grind [List.replicate_append_replicate]
theorem zk{w:World}{H:FH}{c:Nat}{l:List (List D)}{g:Fp}{ty:TypeId}{fz:Nat×Nat}
  (h1:w.heap[b]? = some (.cells cs ty fz)) (h2:KG fz cs.size) (h3:cs.size=c*sub.length) (h4:l.length<=c) (h5:l.length<=BIG) (h6:∀x∈l,x.length=sub.length)
  (h7:Cs (OD w H k) (List.replicate l.length sub).flatten l.flatten g cs.toList) :
  OD w H (k+1) (.ow sub) (.li l) (λd=>g d+if d=b then 1 else 0) (.slice (some ⟨b,0,none⟩) l.length c):=
 im.2 (.inr ⟨b,c,cs,ty,fz,g,rfl,h1,h2,h3,h4,h5,h6,h7,λ_=>rfl⟩)
theorem mY{w:World}{H:FH}{l:List (List D)}(h:OD w H (k+1) (.ow sub) (.li l) f y) :
  ∃a c,∃g:Fp,∃vs:List Value,y=.slice a l.length c/\l.length<=c/\l.length<=BIG/\(∀x∈l,x.length=sub.length)/\vs.length=l.length*sub.length/\Cs (OD w H k) (List.replicate l.length sub).flatten l.flatten g vs /\
   ((l=[]/\a=none/\c=0/\∀b,f b=0)\/∃b cs ty fz,a=some ⟨b,0,none⟩/\w.heap[b]? = some (.cells cs ty fz)/\KG fz cs.size/\cs.size=c*sub.length/\vs=cs.toList.take (l.length*sub.length)/\∀d,f d=g d+if d=b then 1 else 0):=by
 rw[im]at h;rcases h with⟨rfl,rfl,h0⟩|⟨b,c,cs,ty,fz,g,h1,h2,h3,h4,h5,h6,h7,h8,h9⟩
 .exact⟨none,0,λ_=>0,[],rfl,akK _,alJ _,by simp,by simp,by intro b;rfl,.inl ⟨rfl,rfl,rfl,h0⟩⟩
 have e:l.flatten.length=l.length*sub.length:=db _ _ h7
 have i:l.length*sub.length<=cs.toList.length:=by simp_all[alS]
 exact⟨some ⟨b,0,none⟩,c,g,cs.toList.take (l.length*sub.length),h1,h5,h6,h7,by grind,
  Pj _ _ _ _ _ kQ1 h8,.inr ⟨b,cs,ty,fz,rfl,h2,h3,h4,rfl,h9⟩⟩
theorem yh{n:Nat}{l xs:List (List D)}(h1:∀x∈l,x.length=n)(h2:∀x∈xs,x.length=n):∀x∈l++xs,x.length=n:=by grind
theorem Vy{w:World}{H:FH}{l xs:List (List D)}{g gx:Fp}{ws rest:List Value}(h1:∀x∈l,x.length=sub.length)(hv:vs.length=l.length*sub.length)
  (h3:Cs (OD w H k) (List.replicate l.length sub).flatten l.flatten g vs) (h4:Cs (OD w H k) (List.replicate xs.length sub).flatten xs.flatten gx ws) :
  Cs (OD w H k) (List.replicate (l++xs).length sub).flatten (l++xs).flatten (λb=>g b+gx b) (vs++ws++rest):=by
 grind [K8,Pi,Cu,db]
def xc:List (Nat×AV)->Nat->AV->List (Nat×AV)
 |[],i,v=>[(i,v)]
 |(k,x)::t,i,v=>if k=i then(k,v)::t else(k,x)::xc t i v
def S.put(s:S):Option Tmp->AV->S
 |none,_=>s
 |some d,v=>{ s with t:=xc s.t d v }
def okD(nt:Nat):Option Tmp->Bool
 |none=>true
 |some d=>decide (d<nt)
theorem jq(t:List (Nat×AV))(d i:Nat)(v:AV):bB (xc t d v) i=if d=i then v else bB t i:=by induction t<;>grind [xc,bB]
theorem oQ(bad:Bool->Pl->Bool)(t:List (Nat×AV))(i:Nat):bB (nH bad t) i=(bB t i).kill bad:=by
 induction t with
 |nil=>rfl
 |cons x t ih=>
  simp only[nH,akM,bB];split
  .rfl
  exact ih
theorem Zq(a:Act)(d i:Nat)(y:Value)(hd:d<a.tmps.size):(a.put (some d) y).tmps.getD i undef=if d=i then y else a.tmps.getD i undef:=by
 simp only[Act.put,alU]
 grind
theorem RX.put{g:G}{s:S}{w:World}{H:FH}{γ:Gam}(h:RX g s a w H γ F){d:Option Tmp}(hd:okD g.nt d=true){v:AV}(hv:AR w H γ s.m v y) :
  RX g (s.put d v) (a.put d y) w H γ F:=by
 cases d with
 |none=>exact h
 |some d=>
  have hd':d<g.nt:=by grind [okD]
  refine⟨h.mem,h.fr,?_,h.df,λi=>?_⟩
  .grind [Act.put,nt]
  have hs:d<a.tmps.size:=by grind [nt]
  have e:g.tv (a.put (some d) y) i=if d=i then y else g.tv a i:=by grind [Act.put,Zq,G.tv]
  grind [S.put,jq,t]
def lift(g:G)(Q:Exit->S->Prop):Exit->Act->World->Prop:=λe a w=>∃s,Q e s/\R g s a w
def AW(P:Program)(g:G)(c:Code)(Q:Exit->S->Prop)(s:S):Prop:=∀a w,R g s a w->c.wp P (lift g Q) a w
def AL(P:Program)(g:G)(ops rest:List Oper)(Q:Exit->S->Prop)(s:S):Prop:=∀a w,R g s a w->wpList P ops.toArray (lift g Q) rest a w
def AO(P:Program)(g:G)(o:Oper)(K:S->Prop)(Q:Exit->S->Prop)(s:S):Prop:=∀a w,R g s a w->o.wp P a w (λa' w'=>∃s',K s'/\R g s' a' w') (lift g Q)
def ZW(K:S->Prop)(Q:Exit->S->Prop):Exit->S->Prop
 |.normal,s=>K s
 |e,s=>Q e s
def Mt(id:Nat)(Q:Exit->S->Prop):Exit->S->Prop
 |.exit a,s=>if a=id then Q .normal s else Q (.exit a) s
 |e,s=>Q e s
variable{Q':Exit->S->Prop}
theorem Ue{g:G}{Q:Exit->S->Prop}(h:∀e s,Q e s->Q' e s){e:Exit}{w:World}(hl:lift g Q e a w):lift g Q' e a w:=by obtain⟨s,h1,h2⟩:=hl;exact⟨s,h _ _ h1,h2⟩
variable{c:Code}{id:Nat}{o:Oper}{ops rest:List Oper}{want:Bool}
section
variable {P:Program} {g:G} {Q:Exit->S->Prop} {s:S}
theorem AW.mono(h:AW P g c Q s)(hq:∀e s,Q e s->Q' e s):AW P g c Q' s:=λa w hR=>Code.wp_mono (λ_ _ _=>Ue hq) (h a w hR)
theorem Pg(h:Q .normal s):AW P g .skip Q s:=λa w b=>wp_skip ⟨s,h,b⟩
theorem afS(h:Q .ret s):AW P g .ret Q s:=λa w b=>wp_ret ⟨s,h,b⟩
theorem aaC(h:Q (.exit id) s):AW P g (.exit id) Q s:=λa w b=>wp_exit ⟨s,h,b⟩
theorem vU{x y:Code}(h:AW P g x (ZW (AW P g y Q) Q) s):AW P g (.seq x y) Q s:=λa w b=>
 wp_seq (Code.wp_mono (λe a w hl=>by
  obtain⟨s',h1,h2⟩:=hl;cases e with
  |normal=>exact h1 a w h2
  |exit _=>exact⟨s',h1,h2⟩
  |goto _=>exact⟨s',h1,h2⟩
  |ret=>exact⟨s',h1,h2⟩
  |panic _=>exact⟨s',h1,h2⟩
  |outgrown=>exact⟨s',h1,h2⟩) (h a w b))
theorem Vl(h:AW P g c (Mt id Q) s):AW P g (.block id c) Q s:=λa w b=>
 wp_block (Code.wp_mono (λe a w hl=>by
  obtain⟨s',h1,h2⟩:=hl;cases e with
  |exit d=>
   simp only[Mt]at h1;simp only[Exit.inBlock];split
   .rename_i e;rw[if_pos e]at h1;exact⟨s',h1,h2⟩
   rename_i e;rw[if_neg e]at h1;exact⟨s',h1,h2⟩
  |normal=>exact⟨s',h1,h2⟩
  |goto _=>exact⟨s',h1,h2⟩
  |ret=>exact⟨s',h1,h2⟩
  |panic _=>exact⟨s',h1,h2⟩
  |outgrown=>exact⟨s',h1,h2⟩) (h a w b))
theorem Eu{t:Tmp}{x y:Code}{b:Bool}(hc:bB s.t t=.one (.c (.d (.bool b))))(i:b=true->AW P g x Q s)(hf:b=false->AW P g y Q s)(e:t<TB:=by decide) :
  AW P g (.cond (.tmp t) x y) Q s:=by
 intro a w j;obtain⟨H,γ,F,f⟩:=j;have h:=f.t t
 rw[hc,G.tv_lo e]at h;obtain⟨_,m,h⟩:=h;have h':a.tmps.getD t undef=.bool b:=by cases m<;>exact h
 cases b with
 |true=>exact wp_cond_true (by grind [Act.eval]) (i rfl a w ⟨H,γ,F,f⟩)
 |false=>exact wp_cond_false (by grind [Act.eval]) (hf rfl a w ⟨H,γ,F,f⟩)
theorem least{p:Nat->Prop}(h:∃n,p n):∃n,p n/\∀m,m<n->¬ p m:=by obtain⟨n,hn⟩:=h;induction n using Nat.strongRecOn<;>grind
theorem Pf(I:Nat->S->Prop)(k:Nat)(h0:I k s)(d:∀n s,I n s->AW P g c (ZW (λs'=>∃n',n'<n/\I n' s') Q) s):AW P g (.loop c) Q s:=by
 intro a w l
 let p:Act->World->Nat->Prop:=λa w n=>∃s,I n s/\R g s a w
 have b:∀a w,(∃n,p a w n)->∃n,p a w n/\∀m,m<n->¬ p a w m:=λa w h=>least h
 let f:Act->World->Nat:=λa w=>by
  classical
  exact if h:∃n,p a w n then Classical.choose (b a w h)else 0
 have i:∀a w(h:∃n,p a w n),p a w (f a w)/\∀m,m<f a w->¬ p a w m:=by
  intro a w h;have:f a w=Classical.choose (b a w h):=by simp only[f];rw[dif_pos h]
  rw[this];exact Classical.choose_spec (b a w h)
 refine wp_loop (λa w=>∃n,p a w n) f ⟨k,s,h0,l⟩ (λa w hI=>?_);obtain⟨⟨s1,h1,h2⟩,_⟩:=i a w hI;refine Code.wp_mono (λe a' w' hl=>?_) (d _ s1 h1 a w h2);obtain⟨s',k1,k2⟩:=hl;cases e with
 |normal=>
  obtain⟨n',k3,k4⟩:=k1;have j:∃n,p a' w' n:=⟨n',s',k4,k2⟩
  refine⟨j,?_⟩;rcases alY (f a' w') (f a w)with h|h
  .exact h
  exact absurd ⟨s',k4,k2⟩ ((i a' w' j).2 n' kQ1)
 |_=>exact⟨s',k1,k2⟩
theorem qP{l:List Oper}(h:AL P g l l Q s):AW P g (.region id l.toArray false) Q s:=λa w b=>wp_region_lit (h a w b)
theorem Va(h:Q .normal s):AL P g ops [] Q s:=λa w b=>wpList_nil ⟨s,h,b⟩
theorem cD{w:World}{N c:Act->World->Prop}{Q Q':Exit->Act->World->Prop}(hN:∀a w,N a w->c a w)(b:∀e a w,Q e a w->Q' e a w)
  (h:o.wp P a w N Q):o.wp P a w c Q':=by
 unfold Oper.wp at h|-;cases hr:(execOp a.eval o).run P w with
 |halt x w'=>
  rw[hr]at h;cases x with
  |panic v=>exact b _ _ _ h
  |_=>exact h.elim
 |ok x w'=>
  rw[hr]at h;cases x with
  |value v=>exact hN _ _ h
  |skip=>exact hN _ _ h
  |defer d=>exact hN _ _ h
  |enter f args=>
   refine Calls.mono h (λe i g=>?_);cases e with
   |outgrown=>obtain⟨a0,w0,h0⟩:=g;exact⟨a0,w0,b _ _ _ h0⟩
   |_=>grind
  |row r args=>grind [Oper.upon,Rows.mono]
  |_=>exact h.elim
theorem O8(c:o.guard=none)(h:AO P g o (AL P g ops rest Q) Q s):AL P g ops (o::rest) Q s:=λa w b=>wpList_plain c (λK d=>cD (λa' w'⟨s',h1,h2⟩=>d _ _ (h1 a' w' h2)) (λ_ _ _ h=>h) (h a w b))
theorem ub{w:World}{H:FH}{γ:Gam}{m:Mm}:AR w H γ m (.tup []) undef:=⟨#[],rfl,trivial⟩
theorem unyielded{s:S}{w:World}{H:FH}{γ:Gam}{ops:Array Oper}{d:Nat}(f:RX g s a w H γ F)(hj:((ops[j]?).bind (·.dst))=some d)(hd:bB s.t d=.tup []):yielded ops a.tmps j=none:=by
 have hv:=f.t d
 rw[hd]at hv;rcases alY d a.tmps.size with b|b
 rotate_left
 .grind [yielded]
 rw[G.tv_lt b]at hv;obtain⟨l,e,hl⟩:=hv;simp only[yielded,hj,Option.bind_some];cases c:a.tmps[d]? with
 |none=>rfl
 |some x=>
  rw[alU,c]at e
  grind
theorem LK{ops:List Oper}{d:Nat}(e:o.guard=some (j,want))(hj:((ops[j]?).bind (·.dst))=some d)
  (hd:bB s.t d=.tup []) (ho:okD g.nt o.dst=true) (h:AL P g ops rest Q (s.put o.dst (.tup []))):AL P g ops (o::rest) Q s:=by
 intro a w c;obtain⟨H,γ,F,b⟩:=c;have hy:=unyielded (ops:=ops.toArray) b (by simpa using hj) hd
 refine wpList_step (λK f=>?_);simp only[Region.wanted,e,hy];exact f _ _ (h (a.put o.dst undef) w ⟨H,γ,F,b.put ho ub⟩)
theorem Gm{d:Nat}{c:Bool}(u:o.guard=some (j,want))(hj:((ops[j]?).bind (·.dst))=some d)
  (hd:bB s.t d=.one (.c (.d (.bool c)))) (i:okD g.nt (some d)=true) (ho:okD g.nt o.dst=true)
  (h1:c=want->AO P g o (AL P g ops rest Q) Q (s.put (some d) (.one (.c (.d (.bool want))))))
  (h2:c=!want->AL P g ops rest Q ((s.put (some d) (.one (.c (.d (.bool (!want)))))).put o.dst (.tup []))):AL P g ops (o::rest) Q s:=by
 intro a w q;obtain⟨H,γ,F,p⟩:=q;have hv:=p.t d
 have k:d<a.tmps.size:=by grind [RX.nt,okD]
 rw[hd,G.tv_lt k]at hv;obtain⟨hz,m,hv⟩:=hv;have r:a.tmps.getD d undef=.bool c:=by cases m<;>exact hv
 have n:a.tmps[d]? = some (.bool c):=by simp_all
 have hy:yielded ops.toArray a.tmps j=some c:=by grind [yielded]
 have same:a.put (some d) (.bool c)=a:=by simp_all[Act.put,oB]
 have b:RX g (s.put (some d) (.one (.c (.d (.bool c))))) a w H γ F:=by
  have:=p.put (d:=some d) i (v:=.one (.c (.d (.bool c)))) (y:=.bool c) ⟨λ_=>rfl,0,rfl⟩
  grind
 refine wpList_step (λK l=>?_);simp only[Region.wanted,u,hy];by_cases hc:c=want
 .subst hc;simp only[beq_self_eq_true];exact cD (λa' w'⟨s',k1,k2⟩=>l _ _ (k1 a' w' k2)) (λ_ _ _ h=>h) (h1 rfl a w ⟨H,γ,F,b⟩)
 have f:c=!want:=by cases c<;>cases want<;>simp_all
 subst f;have e:(some (!want)==some want)=false:=by grind
 rw[e];exact l _ _ (h2 rfl (a.put o.dst undef) w ⟨H,γ,F,b.put ho ub⟩)
end
abbrev sc(x:D):AV:=.one (.c (.d x))
def sr:Value->T
 |.bool b=>.d (.bool b)
 |.int k n=>.d (.int k n)
 |.string s=>.d (.str s.data.toList)
 |.slice none 0 0=>.nil
 |.pointer none=>.d (.v (.pointer none))
 |.map none=>.d (.mp none)
 |.nilFunc=>.d (.v .nilFunc)
 |.nilIface=>.d (.v .nilIface)
 |.func f a b=>.d (.v (.func f a b))
 |_=>.any
def cst:Value->AV
 |.agg cs=>.one (.agg (cs.toList.map sr))
 |v=>.one (.c (sr v))
def okT:Value->Bool
 |.int k n=>(Lit.int k n).wf
 |.string s=>decide (s.size<=2 ^ 62)
 |_=>true
def okC:Value->Bool
 |.agg cs=>cs.all okT
 |v=>okT v
def aH:Operand->Bool
 |.const v=>okC v
 |.tmp t=>Nat.blt t 100000
 |.global g=>(sC g).isSome
 |_=>true
def ev(s:S):Operand->AV
 |.tmp t=>bB s.t t
 |.const v=>cst v
 |.func f=>sc (.fn f [])
 |.global g=>match sC g with
  |some row=>.one (.c (.el row 0))
  |none=>.any
theorem Qn{w:World}{H:FH}{γ:Gam}{m:Mm}{v:Value}(h:okT v=true):TR w H γ m (sr v) (λ_=>0) v:=by
 cases v with
 |bool b=>exact⟨λ_=>rfl,0,rfl⟩
 |int k n=>exact⟨λ_=>rfl,0,rfl,h⟩
 |string s=>
  refine⟨λ_=>rfl,0,?_,?_⟩
  all_goals simp_all[okT,BIG]
 |slice a n c=>
  cases a with
  |none=>cases n with
   |zero=>cases c with
    |zero=>exact⟨λ_=>rfl,rfl⟩
    |succ c=>intro b;rfl
   |succ n=>intro b;rfl
  |some a=>intro b;rfl
 |pointer a=>cases a with
  |none=>exact⟨λ_=>rfl,0,rfl,rfl⟩
  |some a=>intro b;rfl
 |map a=>cases a with
  |none=>exact⟨λ_=>rfl,0,rfl⟩
  |some a=>intro b;rfl
 |nilFunc=>exact⟨λ_=>rfl,0,rfl,rfl⟩
 |nilIface=>exact⟨λ_=>rfl,0,rfl,rfl⟩
 |func f a b=>exact⟨λ_=>rfl,0,rfl,rfl⟩
 |_=>intro b;rfl
theorem zu{w:World}{H:FH}{γ:Gam}{m:Mm}:∀{l:List Value},l.all okT=true->Ts (TR w H γ m) (l.map sr) (λ_=>0) l
 |[],_=>λ_=>rfl
 |v::l,h=>by simp only[akW,akI]at h;exact⟨v,l,λ_=>0,λ_=>0,rfl,λ_=>rfl,Qn h.1,zu h.2⟩
theorem ag0{w:World}{H:FH}{γ:Gam}{m:Mm}{v:Value}(h:okC v=true):AR w H γ m (cst v) v:=by
 by_cases hv:∃cs,v=.agg cs
 .obtain⟨cs,rfl⟩:=hv;exact⟨cs,rfl,by simp,zu (by grind [okC])⟩
 have e:cst v=.one (.c (sr v))/\okC v=okT v:=by
  cases v with
  |agg cs=>grind
  |_=>exact⟨rfl,rfl⟩
 rw[e.1];exact Qn (by grind)
theorem aJ{g:G}{s:S}{w:World}{H:FH}{γ:Gam}(h:RX g s a w H γ F){x:Operand}(hx:aH x=true):AR w H γ s.m (ev s x) (a.eval x):=by
 cases x with
 |tmp t=>
  have:=h.t t
  rw[G.tv_lo (show t<TB from Nat.lt_of_lt_of_le (akR hx) (akK _))]at this;exact this
 |const v=>exact ag0 hx
 |global n=>
  cases b:sC n with
  |none=>grind [aH]
  |some row=>obtain⟨m,hm⟩:=(jI h).1 n row b;simp only[ev,b];exact⟨λ_=>rfl,n,0,m,rfl,hm⟩
 |func f=>exact⟨λ_=>rfl,1,[],rfl,rfl,λi row y h=>by simp at h⟩
def D.val:D->Option Value
 |.int k n=>some (.int k n)
 |.bool b=>some (.bool b)
 |.str l=>some (.string ⟨l.toArray⟩)
 |.v x=>some x
 |_=>none
theorem fX{H:FH}{k:IntKind}{n:Int}(h:FDx H (.int k n) y):y=.int k n/\(Lit.int k n).wf=true:=by obtain⟨m,h⟩:=h;cases m<;>exact h
theorem jH{H:FH}{b:Bool}(h:FDx H (.bool b) y):y=.bool b:=by obtain⟨m,h⟩:=h;cases m<;>exact h
variable{l:List UInt8}
theorem iH{H:FH}(h:FDx H (.str l) y):y=.string ⟨l.toArray⟩/\l.length<=BIG:=by obtain⟨m,h⟩:=h;cases m<;>exact h
theorem oh{w:World}{H:FH}{γ:Gam}{m:Mm}{k:IntKind}{n:Int}(h:AR w H γ m (sc (.int k n)) y):y=.int k n/\(Lit.int k n).wf=true:=fX h.2
theorem yk{w:World}{H:FH}{γ:Gam}{m:Mm}{b:Bool}(h:AR w H γ m (sc (.bool b)) y):y=.bool b:=jH h.2
theorem Et{w:World}{H:FH}{γ:Gam}{m:Mm}(h:AR w H γ m (sc (.str l)) y):y=.string ⟨l.toArray⟩/\l.length<=BIG:=iH h.2
theorem mS{w:World}{H:FH}{γ:Gam}{m:Mm}{k:IntKind}{n:Int}(h:(Lit.int k n).wf=true):AR w H γ m (sc (.int k n)) (.int k n):=⟨λ_=>rfl,0,rfl,h⟩
theorem gR{w:World}{H:FH}{γ:Gam}{m:Mm}{b:Bool}:AR w H γ m (sc (.bool b)) (.bool b):=⟨λ_=>rfl,0,rfl⟩
theorem mT{w:World}{H:FH}{γ:Gam}{m:Mm}(h:l.length<=BIG):AR w H γ m (sc (.str l)) (.string ⟨l.toArray⟩):=⟨λ_=>rfl,0,rfl,h⟩
theorem Vd{P:Program}{g:G}{K:S->Prop}{Q:Exit->S->Prop}{s:S}(hd:okD g.nt o.dst=true)
  (h:∀a w H γ F,RX g s a w H γ F->∃y v,(execOp a.eval o).run P w=.ok (.value y) w/\AR w H γ s.m v y/\K (s.put o.dst v)):AO P g o K Q s:=by
 intro a w ⟨H,γ,F,b⟩;obtain⟨y,v,h1,h2,h3⟩:=h a w H γ F b;unfold Oper.wp;rw[h1];exact⟨_,h3,H,γ,F,b.put hd h2⟩
def wi(op:BinOp):D->D->(D->Prop)->Prop
 |.int k a,.int k' b,K=>
  match op with
  |.add=>k=k'/\K (.int k (k.wrap (a+b)))
  |.sub=>k=k'/\K (.int k (k.wrap (a-b)))
  |.mul=>k=k'/\K (.int k (k.wrap (a*b)))
  |.quo=>k=k'/\b≠0/\K (.int k (k.wrap (a.tdiv b)))
  |.rem=>k=k'/\b≠0/\K (.int k (a.tmod b))
  |.and=>k=k'/\K (.int k (k.wrap (BitVec.ofInt k.bits a &&& BitVec.ofInt k.bits b).toNat))
  |.or=>k=k'/\K (.int k (k.wrap (BitVec.ofInt k.bits a ||| BitVec.ofInt k.bits b).toNat))
  |.xor=>k=k'/\K (.int k (k.wrap (BitVec.ofInt k.bits a ^^^ BitVec.ofInt k.bits b).toNat))
  |.andNot=>k=k'/\K (.int k (k.wrap (BitVec.ofInt k.bits a &&& ~~~BitVec.ofInt k.bits b).toNat))
  |.shl=>0<=b/\K (.int k (k.wrap (a*2 ^ (min b.toNat k.bits))))
  |.shr=>0<=b/\K (.int k (a.fdiv (2 ^ (min b.toNat k.bits))))
  |.eql=>k=k'/\K (.bool (decide (a=b)))
  |.neq=>k=k'/\K (.bool (!decide (a=b)))
  |.lss=>k=k'/\K (.bool (decide (a<b)))
  |.leq=>k=k'/\K (.bool (decide (a<=b)))
  |.gtr=>k=k'/\K (.bool (decide (b<a)))
  |.geq=>k=k'/\K (.bool (decide (b<=a)))
 |.str a,.str b,K=>
  match op with
  |.add=>a.length+b.length<=4611686018427387904/\K (.str (a++b))
  |.eql=>K (.bool (decide (a=b)))
  |.neq=>K (.bool (!decide (a=b)))
  |.lss=>K (.bool (Op.bytesLess a b))
  |.leq=>K (.bool (Op.bytesLess a b||decide (a=b)))
  |.gtr=>K (.bool (!(Op.bytesLess a b||decide (a=b))))
  |.geq=>K (.bool (!Op.bytesLess a b))
  |_=>False
 |_,_,_=>False
theorem vO{a b:Int}(c:0<=a):a.tmod b<=a:=by
 obtain⟨m,rfl⟩:=alG c;cases b with
 |ofNat n=>
  have:(m:Int).tmod (Int.ofNat n)=((m % n:Nat):Int):=rfl
  rw[this];exact Int.ofNat_le.2 (Nat.mod_le _ _)
 |negSucc n=>
  have:(m:Int).tmod (Int.negSucc n)=((m % (n+1):Nat):Int):=rfl
  rw[this];exact Int.ofNat_le.2 (Nat.mod_le _ _)
theorem aeN{k:IntKind}{a b:Int}(h:(Lit.int k a).wf=true):(Lit.int k (a.tmod b)).wf=true:=by
 simp only[Lit.wf,akI,decide_eq_true_eq]at h|-;obtain⟨h1,h2⟩:=h;have e:k.min<=0:=by cases k<;>decide
 have d:0<=k.max:=by cases k<;>decide
 rcases Int.le_total 0 a with c|c
 .have h3:0<=a.tmod b:=Int.tmod_nonneg b c
  have h4:a.tmod b<=a:=vO c
  omega
 have h0:0 <= -a:=by omega
 have h3:0<=(-a).tmod b:=Int.tmod_nonneg b h0
 have h4:(-a).tmod b <= -a:=vO h0
 rw[Int.neg_tmod]at h3 h4;omega
theorem aeM{k:IntKind}{a:Int}{n:Nat}(h:(Lit.int k a).wf=true):(Lit.int k (a.fdiv (2 ^ n))).wf=true:=by
 simp only[Lit.wf,akI,decide_eq_true_eq]at h|-;obtain⟨h1,h2⟩:=h;have d:k.min<=0:=by cases k<;>decide
 have c:0<=k.max:=by cases k<;>decide
 have hp:(0:Int) < 2 ^ n:=Int.pow_pos (by decide)
 have e:a.fdiv (2 ^ n)=a / 2 ^ n:=Int.fdiv_eq_ediv_of_nonneg a kQ1
 rw[e];generalize(2:Int) ^ n=p at *;rcases Int.le_total 0 a with b|b
 .have h3:0<=a / p:=Int.ediv_nonneg b kQ1
  have h4:a / p<=a:=Int.ediv_le_self _ b
  omega
 have h3:a / p<=0:=by have:=Int.ediv_le_ediv hp b;simp_all
 have h4:a<=a / p:=by
  refine Int.le_ediv_of_mul_le hp ?_;have h5:(-a)*1<=(-a)*p:=Int.mul_le_mul_of_nonneg_left kQ1 kQ1
  grind
 omega
end Go.Am
end
