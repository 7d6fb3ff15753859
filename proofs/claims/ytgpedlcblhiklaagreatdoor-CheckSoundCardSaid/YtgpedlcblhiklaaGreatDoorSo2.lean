/-
  Part 2: AmState · AmStore · AmPut · AmPutTwo · AmPutThree · AmTake · AmTakeTwo · AmRoots · AmCode · AmOps.
-/
import Derived.Test.YtgpedlcblhiklaaGreatDoorSo1
import Derived.MapKept
set_option linter.unusedSimpArgs false
set_option linter.unusedVariables false
set_option linter.unusedSectionVars false
set_option linter.unnecessarySimpa false
section
namespace Go.Am
inductive RC where
 |blk (b:Nat)
 |gh (v:Value)
 deriving Inhabited
abbrev Gam:=Nm->RC
abbrev Mm:=List (Nm×Root)
def aH(w:World):RC->Nat->Option Value
 |.blk b,k=>w.cell? ⟨b,k,none⟩
 |.gh v,k=>if k=0 then some v else none
def plA(w:World)(γ:Gam)(p:Pl):Option Addr:=
 match p.path with
 |[]=>match γ p.root with|.blk b=>some ⟨b,p.off,none⟩|.gh _=>none
 |st::r=>(aH w (γ p.root) p.off).bind fun y=>bm w y (st::r)
def plV(w:World)(γ:Gam)(p:Pl):Option Value:=
 match p.path with
 |[]=>aH w (γ p.root) p.off
 |st::r=>((aH w (γ p.root) p.off).bind fun y=>bm w y (st::r)).bind w.cell?
def ae:Mm->Nm->Option Root
 |[],_=>none
 |(k,r)::m,n=>if k=n then some r else ae m n
def cE:Mm->Nm->Root->Mm
 |[],_,_=>[]
 |(k,x)::m,n,r=>if k=n then(k,r)::m else(k,x)::cE m n r
def cm:Mm->Nm->Mm
 |[],_=>[]
 |(k,x)::m,n=>if k=n then m else(k,x)::cm m n
def bZ(m:Mm)(p:Pl):Prop:=
 match ae m p.root with
 |none=>False
 |some r=>
  match p.path with
  |[]=>p.off<r.cells.length
  |st::q=>match r.cells[p.off]? with
   |some (.ow sub l)=>okO sub l (st::q)
   |_=>False
def ip(m:Mm)(p:Pl):Prop:=
 match ae m p.root with
 |none=>False
 |some r=>
  match r.cells[p.off]?,p.path with
  |some (.ow _ _),[]=>True
  |some (.mp _),[]=>True
  |some (.it _ _),[]=>True
  |some (.ow sub l),st::q=>okO sub l (st::q)/\match bD sub l (st::q)with
   |some (.ow _,.li _)=>True
   |_=>False
  |_,_=>False
def D.isKey:D->Bool
 |.int _ _=>true
 |.bool _=>true
 |.str _=>true
 |_=>false
def MpO(w:World)(H:FH):List (D×Sh×D)->List MapEntry->Fp->Prop
 |[],[],f=>∀b,f b=0
 |x::l,e::es,f=>(x.1.isKey=true/\FDx H x.1 e.key)/\∃f1 a:Fp,∃k,(∀b,f b=f1 b+a b)/\OD w H k x.2.1 x.2.2 f1 e.val/\MpO w H l es a
 |_,_,_=>False
theorem jR{w w':World}{H H':FH}(a:∀b o y,H b o=some y->H' b o=some y):∀{l:List (D×Sh×D)}{es:List MapEntry}{f:Fp},(∀b,f b≠0->w'.heap[b]? = w.heap[b]?)->MpO w H l es f->MpO w' H' l es f
 |[],[],_,_,h=>h
 |_::_,_::_,f,hw,h=>by
  obtain⟨⟨h1,h2⟩,f1,c,k,h3,h4,h5⟩:=h;exact⟨⟨h1,eB a h2⟩,f1,c,k,h3,cH a k k _ _ _ _ (af2 _) (fun b hb=>hw b (by grind)) h4,jR a (fun b hb=>hw b (by grind)) h5⟩
 |[],_::_,_,_,h=>h.elim
 |_::_,[],_,_,h=>h.elim
def ItL(H:FH):List (D×D)->List MapEntry->Prop
 |[],[]=>True
 |x::l,e::es=>(x.1.isKey=true/\FDx H x.1 e.key/\FDx H x.2 e.val)/\ItL H l es
 |_,_=>False
theorem Gt{H H':FH}(a:∀b o y,H b o=some y->H' b o=some y):∀{l:List (D×D)}{es:List MapEntry},ItL H l es->ItL H' l es
 |[],[],h=>h
 |_::_,_::_,h=>⟨⟨h.1.1,eB a h.1.2.1,eB a h.1.2.2⟩,Gt a h.2⟩
 |[],_::_,h=>h.elim
 |_::_,[],h=>h.elim
def ItR(H:FH)(cur:Option (D×D))(rest:List (D×D)):Option Nat->Nat->Array Nat->Nat->Prop
 |none,_,_,_=>cur=none/\rest=[]
 |some m,b,a,last=>∃es ck,H m 0=some (.m es ck)/\b=ck/\last=ck/\ItL H rest (es.toList.filter fun e=>!a.contains e.born) /\
   match cur with
   |none=>True
   |some x=>∃(c:Array Nat)(e:MapEntry),a=c.push e.born/\e∈es.toList/\x.1.isKey=true/\FDx H x.1 e.key/\FDx H x.2 e.val
theorem Gu{H H':FH}(d:∀b o y,H b o=some y->H' b o=some y){cur:Option (D×D)}{rest:List (D×D)}:∀{m:Option Nat}{a:Nat}{s:Array Nat}{c:Nat},ItR H cur rest m a s c->ItR H' cur rest m a s c
 |none,_,_,_,h=>by obtain⟨h1,h2⟩:=h;exact⟨h1,h2⟩
 |some m,_,_,_,⟨es,ck,h1,h2,h3,h4,h5⟩=>⟨es,ck,d _ _ _ h1,h2,h3,Gt d h4,by
  grind [eB]⟩
def TR(w:World)(H:FH)(γ:Gam)(m:Mm):T->Fp->Value->Prop
 |.d x,f,y=>(∀b,f b=0)/\FDx H x y
 |.nil,f,y=>(∀b,f b=0)/\y=.slice none 0 0
 |.ow sub l,f,y=>∃k,OD w H k (.ow sub) (.li l) f y
 |.mp l,f,y=>∃b es ck,∃g:Fp,y=.map (some b)/\w.heap[b]? = some (.map es ck)/\MapKept.Stamped es ck/\MpO w H l es.toList g/\∀c,f c=g c+if c=b then 1 else 0
 |.it cur rest,f,y=>∃r m a s c,y=.pointer (some ⟨r,0,none⟩)/\w.heap[r]? = some (.mapIter m a s c)/\ItR H cur rest m a s c/\∀k,f k=if k=r then 1 else 0
 |.el row off,f,y=>(∀b,f b=0)/\∃b o k,y=.pointer (some ⟨b,o+off,none⟩)/\Bx H k row b o
 |.pl p,f,y=>(∀b,f b=0)/\bZ m p/\∃a,plA w γ p=some a/\y=.pointer (some a)
 |.rf p,f,y=>(∀b,f b=0)/\ip m p/\plV w γ p=some y
 |.any,f,_=>∀b,f b=0
def Ts(R:T->Fp->Value->Prop)(ts:List T)(f:Fp)(vs:List Value):Prop:=
 Cs (fun(_:Unit) t=>R t) (List.replicate ts.length ()) ts f vs
def Nm.tyd:Nm->Option TypeId
 |.loc i=>if i < 1000000 then none else some (i / 1000000)
 |.out i=>if i < 1000000 then none else some (i / 1000000)
 |.gh _=>none
def okR(n:Nm)(ty:TypeId)(fz:Nat×Nat)(sz:Nat):Prop:=JI fz sz/\∀t,n.tyd=some t->ty=t
def bU(w:World)(H:FH)(γ:Gam)(m:Mm)(n:Nm)(r:Root)(f:Fp):Prop:=
 if r.blk then ∃b cs ty fz,∃g:Fp,γ n=.blk b/\w.heap[b]? = some (.cells cs ty fz)/\okR n ty fz cs.size/\cs.size=r.cells.length /\
  Ts (TR w H γ m) r.cells g cs.toList/\∀k,f k=g k+if k=b then 1 else 0
 else ∃v t,γ n=.gh v/\r.cells=[t]/\TR w H γ m t f v
def tot(F:Nm->Fp):Mm->Fp
 |[],_=>0
 |x::m,b=>F x.1 b+tot F m b
def RdV(w:World)(b o:Nat):HV->Prop
 |.c y=>w.cell? ⟨b,o,none⟩=some y
 |.m es ck=>w.heap[b]? = some (.map es ck)/\MapKept.Stamped es ck
variable{b:Nat}
theorem RdV.lt{w:World}{o:Nat}:∀{y:HV},RdV w b o y->b<w.heap.size
 |.c _,h=>World.block_lt_of_cell? _ _ h
 |.m _ _,h=>(Array.getElem?_eq_some_iff.1 h.1).1
theorem RdV.frame{w w':World}{o:Nat}:∀{y:HV},RdV w b o y->w'.heap[b]? = w.heap[b]? -> RdV w' b o y
 |.c y,h,e=>by
  have h:w.cell? ⟨b,o,none⟩=some y:=h
  show w'.cell? ⟨b,o,none⟩=some y
  grind [World.cell?]
 |.m _ _,h,e=>⟨e.trans h.1,h.2⟩
structure Mem (w:World) (H:FH) (γ:Gam) (m:Mm) (F:Nm->Fp):Prop where
 agree:∀b o y,H b o=some y->RdV w b o y
 roots:∀x∈m,bU w H γ m x.1 x.2 (F x.1)
 keys:(m.map (·.1)).Nodup
 le1:∀b,tot F m b<=1
 lt:∀b,tot F m b≠0->b<w.heap.size
 nofz:∀b,tot F m b≠0->∀o,H b o=none
def AR1(w:World)(H:FH)(γ:Gam)(m:Mm):AV1->Value->Prop
 |.c t,y=>TR w H γ m t (fun _=>0) y
 |.agg ts,y=>∃cs,y=.agg cs/\cs.size=ts.length/\Ts (TR w H γ m) ts (fun _=>0) cs.toList
def ARs(w:World)(H:FH)(γ:Gam)(m:Mm):List AV1->List Value->Prop
 |[],[]=>True
 |x::xs,y::ys=>AR1 w H γ m x y/\ARs w H γ m xs ys
 |_,_=>False
def AR(w:World)(H:FH)(γ:Gam)(m:Mm):AV->Value->Prop
 |.one x,y=>AR1 w H γ m x y
 |.tup xs,y=>∃l,y=.tuple l/\ARs w H γ m xs l.toList
 |.any,_=>True
structure S where
 t:List (Nat×AV)
 m:Mm
structure G where
 nt:Nat
 w0:World
 H0:FH
 own0:Fp
 out:Nat->Option Nat
 ex:Option (Nat->Value)
 dfs:List Deferred
def TB:Nat:=100000
def Thawed(w:World)(b:Nat):Prop:=∃cs ty,w.heap[b]? = some (.cells cs ty (0,0))
theorem Thawed.of_block{w w':World}(h:Thawed w b)(e:w'.heap[b]? = w.heap[b]?):Thawed w' b:=by
 obtain⟨cs,ty,h⟩:=h;exact⟨cs,ty,e.trans h⟩
theorem Thawed.lt{w:World}(h:Thawed w b):b<w.heap.size:=by
 obtain⟨cs,ty,h⟩:=h;grind
theorem qH{w:World}{H:FH}:(∀b,Thawed w b->Thawed w b)/\∀b o x l c,H b o=some (.c (.slice x l c))->H b o=none->Thawed w b:=
 ⟨fun _ h=>h,fun b o x l c h1 h2=>by grind⟩
variable{α β:Type}
theorem N2{R:α->β->Fp->Value->Prop}:∀(a:List α)(xs:List β)(f:Fp)(vs:List Value),Cs R a xs f vs->∀b,f b≠0->∃s x g v,R s x g v/\g b≠0
 |[],[],_,_,h,b,hb=>absurd (h b) hb
 |s::a,x::xs,f,vs,h,b,hb=>by
  obtain⟨v,r,f1,c,_,hf,h1,h2⟩:=h;by_cases h0:f1 b=0
  ·exact N2 a xs c r h2 b (by grind)
  grind
 |[],_::_,_,_,h,_,_=>h.elim
 |_::_,[],_,_,h,_,_=>h.elim
theorem OA{w:World}{H:FH}:∀(k:Nat)(s:Sh)(x:D)(f:Fp)(y:Value),OD w H k s x f y->∀b,f b≠0->Thawed w b:=by
 intro k;induction k with
 |zero=>
  intro s x f y h b hb;cases s with
  |fr=>grind [fK]
  |ow sub=>
   cases x with
   |any=>exact absurd (h b) hb
   |_=>simp[OD]at h
 |succ k ih=>
  intro s x f y h b hb;cases s with
  |fr=>grind [fK]
  |ow sub=>
   cases x with
   |li l=>
    rw[e9]at h;rcases h with h|⟨b',c,cs,ty,fr,g,_,h2,h3,_,_,_,_,h8,h9⟩
    ·grind
    ·by_cases e:b=b'
     ·subst e;have h3:fr=(0,0):=h3
      subst h3;exact⟨cs,ty,h2⟩
     ·obtain⟨s,x,g',v,r1,r2⟩:=N2 _ _ _ _ h8 b (by grind)
      grind
   |any=>exact absurd (h b) hb
   |_=>simp[OD]at h
structure Fr (w0:World) (H0:FH) (own0:Fp) (w:World) (H:FH) (tt:Fp):Prop where
 size:w0.heap.size<=w.heap.size
 os:w.os=w0.os
 tape:w.tape=w0.tape
 output:w.output=w0.output
 block:∀k,k<w0.heap.size->own0 k=0->w.heap[k]? = w0.heap[k]?
 hold:∀b o y,H0 b o=some y->H b o=some y
 hnew:∀b o,H b o≠none->H0 b o=none->own0 b≠0\/w0.heap.size<=b
 tt:∀b,tt b≠0->own0 b≠0\/w0.heap.size<=b
 /-- blocks that may be written stay so; new frozen slices lie in such -/
 nz:(∀b,Thawed w0 b->Thawed w b)/\∀b o x l c,H b o=some (.c (.slice x l c))->H0 b o=none->Thawed w b
def G.tv(g:G)(a:Act)(i:Nat):Value:=match g.ex with
 |none=>a.tmps.getD i undef
 |some f=>if i<TB\/i<a.tmps.size then a.tmps.getD i undef else f (i-TB)
variable{a:Act}{i:Nat}
theorem G.tv_lo{g:G}(h:i<TB):g.tv a i=a.tmps.getD i undef:=by
 grind [G.tv]
theorem G.tv_lt{g:G}(h:i<a.tmps.size):g.tv a i=a.tmps.getD i undef:=by
 grind [G.tv]
theorem G.tv_none{g:G}(h:g.ex=none)(a:Act)(i:Nat):g.tv a i=a.tmps.getD i undef:=by
 grind [G.tv]
def aY:List (Nat×AV)->Nat->AV
 |[],_=>.any
 |(k,v)::t,i=>if k=i then v else aY t i
def Globs(H:FH):Prop:=(∀k row,ru k=some row->∃m,Bx H m row k 0)/\∀k,Zh=some k->∃n m,Bx H m [.int .i64 n] k 0
theorem yP{H H':FH}(c:∀b o y,H b o=some y->H' b o=some y)(h:Globs H):Globs H':=
 ⟨fun k row e=>(fun⟨m,a⟩=>⟨m,lX c a⟩) (h.1 k row e),fun k e=>(fun⟨n,m,a⟩=>⟨n,m,lX c a⟩) (h.2 k e)⟩
structure RX (g:G) (s:S) (a:Act) (w:World) (H:FH) (γ:Gam) (F:Nm->Fp):Prop where
 mem:Mem w H γ s.m F
 fr:Fr g.w0 g.H0 g.own0 w H (tot F s.m)
 nt:a.tmps.size=g.nt
 df:a.defers=g.dfs/\(∀j b,g.out j=some b->γ (.out j)=.blk b)/\Globs g.H0
 t:∀i,AR w H γ s.m (aY s.t i) (g.tv a i)
variable{F:Nm->Fp}
theorem j9{g:G}{s:S}{w:World}{H:FH}{γ:Gam}(h:RX g s a w H γ F):Globs H:=yP h.fr.hold h.df.2.2
def R(g:G)(s:S)(a:Act)(w:World):Prop:=∃H γ F,RX g s a w H γ F
variable{n:Nm}{r:Root}
theorem aj{m:Mm}(h:ae m n=some r):(n,r)∈m:=by
 induction m<;>grind [ae]
variable{x:Nm×Root}
theorem bR{m:Mm}(h:x∈m)(b:Nat):F x.1 b<=tot F m b:=by
 induction m<;>grind [tot]
theorem dF{w w':World}{o:Nat}(h:w'.heap[b]? = w.heap[b]?):w'.cell? ⟨b,o,none⟩=w.cell? ⟨b,o,none⟩:=by
 grind [World.cell?]
theorem KQ{w w':World}{H:FH}:∀(p:List Step)(k:Nat)(sub:List Sh)(l:List (List D))(f:Fp)(y:Value),
  OD w H k (.ow sub) (.li l) f y->okO sub l p->(∀b,f b≠0->w'.heap[b]? = w.heap[b]?)->bm w' y p=bm w y p:=by
 intro p;induction p with
 |nil=>intro k sub l f y _ h;exact h.elim
 |cons st r ih=>
  intro k sub l f y h d hw;cases r with
  |nil=>
   cases y with
   |slice a _ _=>
    cases a with
    |none=>rfl
    |some a=>obtain⟨b,o,sp⟩:=a;cases sp<;>rfl
   |_=>rfl
  |cons t u=>
   cases k with
   |zero=>simp[OD]at h
   |succ k=>
   rw[e9]at h;rcases h with⟨_,rfl,_⟩|⟨b,c,cs,ty,frz,g,h1,h2,h3,h4,h5,h6,h7,h8,h9⟩
   ·rfl
   subst h1;obtain⟨⟨hi,he,ho⟩,d⟩:=d;have hb:w'.heap[b]? = w.heap[b]? := hw b (by grind)
   have hk:st.idx*sub.length+st.off<l.flatten.length:=by
    rw[cM _ _ h7];have:(st.idx+1)*sub.length<=l.length*sub.length:=ag8 _ hi
    grind
   obtain⟨s,x,v,i,fr,j,e,a3,a4,a5,_,_⟩:=cQ _ _ _ _ _ h8 hk
   grind [dW,World.cell?,bm]
variable{f:Fp}{k:Nat}{vs:List Value}
theorem rK{R:α->β->Fp->Value->Prop}{a:List α}{xs:List β}(h:Cs R a xs f vs){x:β}(hx:xs[k]? = some x) :
  ∃s v,∃g:Fp,a[k]? = some s/\vs[k]? = some v/\R s x g v/\∀b,g b<=f b:=by
 have hk:k<xs.length:=by
  grind
 obtain⟨s,x',v,c,fr,d,e,a3,a4,a5,_,_⟩:=cQ _ _ _ _ _ h hk
 grind
theorem dX{w:World}{H:FH}{γ:Gam}{m:Mm}(h:bU w H γ m n r f){t:T}(hk:r.cells[k]? = some t) :
  ∃v,∃g:Fp,aH w (γ n) k=some v/\TR w H γ m t g v/\∀b,g b<=f b:=by
 unfold bU at h;split at h
 ·obtain⟨b,cs,ty,fz,g,h1,h2,h3,h4,h5,h6⟩:=h;obtain⟨s,v,g',a,c,a3,a4⟩:=rK h5 hk
  grind [aH,World.cell?]
 ·obtain⟨v,t',h1,h2,h3⟩:=h;rw[h2]at hk;cases k with
  |zero=>
   obtain rfl:t'=t:=by grind
   exact⟨v,f,by rw[h1];rfl,h3,fun _=>af2 _⟩
  |succ k=>grind
theorem we{w w':World}{H:FH}{γ:Gam}{m:Mm}{F:Nm->Fp}(i:Mem w H γ m F){p:Pl}(a:bZ m p)
  (hw:∀b,F p.root b≠0->w'.heap[b]? = w.heap[b]?):plA w' γ p=plA w γ p/\plV w' γ p=plV w γ p:=by
 obtain⟨n,off,path⟩:=p;unfold bZ at a;cases hr:ae m n with
 |none=>grind
 |some r=>
  simp only[hr]at a;have c:=i.roots _ (aj hr)
  have e:aH w' (γ n) off=aH w (γ n) off:=by
   grind [aH,dF,bU]
  cases path with
  |nil=>exact⟨rfl,by grind [plV]⟩
  |cons st q=>
   dsimp only at a;cases h:r.cells[off]? with
   |none=>grind
   |some t=>
    rw[h]at a;cases t with
    |ow sub l=>
     obtain⟨v,g,f,c2,c3⟩:=dX c h;dsimp only at f c3;obtain⟨k,c2⟩:=c2;have d:bm w' v (st::q)=bm w v (st::q):=KQ (st::q) k sub l g v c2 a (fun b hb=>hw b (by grind))
     refine⟨by grind [plA],?_⟩;simp only[plV,e,f,Option.bind_some,d];have j:∀b,g b<=1:=fun b=>by have:=c3 b;have:=i.le1 b;have:=bR (F:=F) (aj hr) b;grind
     grind [m7,dF]
    |_=>grind
variable{j:Nat}
theorem C7{l:List (List D)}{i' j':Nat}{y:D}(hi:i<l.length)(hj:j < (l.getD i []).length) :
  ((l.set i ((l.getD i []).set j y)).getD i' []).getD j' default=if i=i'/\j=j' then y else(l.getD i' []).getD j' default:=by
 grind
def wfO:Nat->List Sh->List (List D)->Prop
 |0,_,_=>True
 |n+1,sub,l=>(∀x∈l,x.length=sub.length)/\∀i j s l',sub[j]? = some (.ow s)->(l.getD i []).getD j default=.li l'->wfO n s l'
theorem D2{w:World}{H:FH}:∀(n m:Nat)(sub:List Sh)(l:List (List D))(f:Fp)(y:Value),OD w H m (.ow sub) (.li l) f y->wfO n sub l:=by
 intro n;induction n with
 |zero=>intros;trivial
 |succ n ih=>
  intro m sub l f y h;cases m with
  |zero=>simp[OD]at h
  |succ m=>
  rw[e9]at h;rcases h with⟨rfl,_,_⟩|⟨b,c,cs,ty,frz,g,h1,h2,h3,h4,h5,h6,h7,h8,h9⟩
  ·exact⟨by simp,fun i j s l' _ h=>by simp[List.getD]at h;cases h⟩
  refine⟨h7,fun i j s l' hs hx=>?_⟩;by_cases hi:i<l.length
  ·have ho:j<sub.length:=by
    grind
   have hk:i*sub.length+j<l.flatten.length:=by
    rw[cM _ _ h7];have:(i+1)*sub.length<=l.length*sub.length:=ag8 _ hi
    grind
   obtain⟨s',x,v,a,fr,d,k,a3,a4,a5,_,_⟩:=cQ _ _ _ _ _ h8 hk
   grind [dW]
  have e:l.getD i []=[]:=by grind
  rw[e]at hx;simp[List.getD]at hx;cases hx
theorem JK:∀(q p:List Step)(n:Nat)(sub:List Sh)(l:List (List D))(x:D),q.length+p.length<=n->wfO n sub l->okO sub l q->okO sub l p ->
  (∀s l',bD sub l p≠some (.ow s,.li l')) ->
  okO sub (cr sub l x p) q/\∀s l',bD sub l q=some (.ow s,.li l')->∃f,bD sub (cr sub l x p) q=some (.ow s,.li f):=by
 intro q;induction q with
 |nil=>intro p n sub l x _ _ h;exact h.elim
 |cons st r ih=>
  intro p n sub l x hn g hq hp hno;cases p with
  |nil=>exact hp.elim
  |cons a d=>
  cases n with
  |zero=>grind
  |succ n=>
  obtain⟨w,o⟩:=g;have v:st.idx<l.length/\st.esz=sub.length/\st.off<sub.length:=by
   cases r with
   |nil=>exact hq
   |cons _ _=>exact hq.1
  have b:a.idx<l.length/\a.esz=sub.length/\a.off<sub.length:=by
   cases d with
   |nil=>exact hp
   |cons _ _=>exact hp.1
  obtain⟨hi,he,ho⟩:=v;obtain⟨e,A,C⟩:=b;have m:a.off < (l.getD a.idx []).length:=by
   grind
  have key:∃y,cr sub l x (a::d)=l.set a.idx ((l.getD a.idx []).set a.off y) /\
    (a.idx=st.idx->a.off=st.off->∀s2 l2,sub[st.off]? = some (.ow s2)->(l.getD st.idx []).getD st.off default=.li l2 ->
     ∃t u,d=t::u/\y=.li (cr s2 l2 x (t::u))/\okO s2 l2 (t::u)/\∀s l',bD s2 l2 (t::u)≠some (.ow s,.li l')):=by
   cases d with
   |nil=>
    refine⟨x,rfl,fun z B s2 l2 h1 h2=>?_⟩
    grind [bD]
   |cons t u=>
    obtain⟨_,hp⟩:=hp;cases hs:sub[a.off]? with
    |none=>grind
    |some s0=>
     rw[hs]at hp;cases s0 with
     |fr=>grind
     |ow s2=>
      cases hd:(l.getD a.idx []).getD a.off default with
      |li l2=>
       rw[hd]at hp;refine⟨.li (cr s2 l2 x (t::u)),by grind [cr],fun z B E F h1 h2=>?_⟩
       grind [bD]
      |_=>grind
  obtain⟨y,c,k⟩:=key;rw[c];have hget:=fun i' j'=>C7 (l:=l) (i:=a.idx) (j:=a.off) (i':=i') (j':=j') (y:=y) e m
  cases r with
  |nil=>
   refine⟨⟨by grind,he,ho⟩,fun s l' h=>?_⟩
   grind [bD]
  |cons t u=>
   grind [okO,bD]
theorem MZ:∀(r a:List Step)(sub:List Sh)(l:List (List D)),r≠[]->a≠[]->okO sub l (r++a) ->
  okO sub l r/\∃s l',bD sub l r=some (.ow s,.li l'):=by
 intro r;induction r with
 |nil=>grind
 |cons st u ih=>
  intro a sub l _ b h;cases u with
  |nil=>
   cases a with
   |nil=>grind
   |cons t v=>
    obtain⟨h1,h2⟩:=h;refine⟨h1,?_⟩;cases hs:sub[st.off]? with
    |none=>grind
    |some s0=>
     simp only[hs]at h2;cases s0 with
     |fr=>grind
     |ow s2=>
      cases hd:(l.getD st.idx []).getD st.off default with
      |li l2=>simp_all[bD]
      |_=>grind
  |cons t v=>
   obtain⟨h1,h2⟩:=h;cases hs:sub[st.off]? with
   |none=>grind
   |some s0=>
    simp only[hs]at h2;cases s0 with
    |fr=>grind
    |ow s2=>
     cases hd:(l.getD st.idx []).getD st.off default with
     |li l2=>
      rw[hd]at h2;obtain⟨g1,s,l',g2⟩:=ih a s2 l2 (by simp) b h2;refine⟨⟨h1,?_⟩,s,l',?_⟩
      all_goals grind [bD]
     |_=>grind
theorem KR{w w':World}{A:Addr}(hw:∀a,a≠A->w'.cell? a=w.cell? a):∀(p:List Step)(y:Value),
  (∀r d,p=r++d->r≠[]->d≠[]->bm w y r≠some A)->bm w' y p=bm w y p:=by
 intro p;induction p with
 |nil=>
  intro y _;cases y with
  |slice a _ _=>
   cases a with
   |none=>rfl
   |some a=>obtain⟨b,o,sp⟩:=a;cases sp<;>rfl
  |_=>rfl
 |cons st r ih=>
  intro y h;cases r with
  |nil=>
   cases y with
   |slice a _ _=>
    cases a with
    |none=>rfl
    |some a=>obtain⟨b,o,sp⟩:=a;cases sp<;>rfl
   |_=>rfl
  |cons t u=>
   cases y with
   |slice a n c=>
    cases a with
    |none=>rfl
    |some a=>
     obtain⟨b,o,sp⟩:=a;cases sp with
     |some k=>rfl
     |none=>
      have h1:bm w (.slice (some ⟨b,o,none⟩) n c) [st]≠some A:=h [st] (t::u) rfl (by simp) (by simp)
      simp only[bm]at h1⊢;rw[hw _ (fun e=>h1 (by rw[e]))]
      grind [bm]
   |_=>rfl
structure Keeps (w:World) (γ:Gam) (m:Mm) (w':World) (γ':Gam) (m':Mm):Prop where
 pl:∀q,bZ m q->bZ m' q/\plA w' γ' q=plA w γ q
 rf:∀q,ip m q->ip m' q/\plV w' γ' q=plV w γ q
theorem i7{w w':World}{H H':FH}{γ γ':Gam}{m m':Mm}(i:Keeps w γ m w' γ' m')(e:∀b o y,H b o=some y->H' b o=some y)
  {t:T} {f:Fp} {y:Value} (hw:∀b,f b≠0->w'.heap[b]? = w.heap[b]?) (h:TR w H γ m t f y):TR w' H' γ' m' t f y:=by
 cases t with
 |d x=>exact⟨h.1,eB e h.2⟩
 |nil=>exact h
 |ow sub l=>obtain⟨k,h⟩:=h;exact⟨k,cH e k k _ _ _ _ (af2 _) hw h⟩
 |mp l=>obtain⟨b,es,ck,g,h1,h2,h3,h4,h5⟩:=h;exact⟨b,es,ck,g,h1,by grind,h3,jR e (fun c hc=>hw c (by grind)) h4,h5⟩
 |it cur rest=>obtain⟨r,m,a,s,c,h1,h2,h3,h4⟩:=h;exact⟨r,m,a,s,c,h1,by grind,Gu e h3,h4⟩
 |el row off=>obtain⟨h0,b,o,k,h1,h2⟩:=h;exact⟨h0,b,o,k,h1,lX e h2⟩
 |pl p=>obtain⟨h0,h1,a,h2,h3⟩:=h;obtain⟨k1,k2⟩:=i.pl p h1;exact⟨h0,k1,a,by grind,h3⟩
 |rf p=>obtain⟨h0,h1,h2⟩:=h;obtain⟨k1,k2⟩:=i.rf p h1;exact⟨h0,k1,by grind⟩
 |any=>exact h
theorem oQ{w w':World}{H H':FH}{γ γ':Gam}{m m':Mm}(c:Keeps w γ m w' γ' m')(a:∀b o y,H b o=some y->H' b o=some y)
  {ts:List T} {f:Fp} {vs:List Value} (hw:∀b,f b≠0->w'.heap[b]? = w.heap[b]?) (h:Ts (TR w H γ m) ts f vs):Ts (TR w' H' γ' m') ts f vs:=
 kW _ _ _ _ (fun _ _ g _ e d=>i7 c a (fun b hb=>hw b (by grind)) d) h
theorem B9{w w':World}{H H':FH}{γ γ':Gam}{m m':Mm}(d:Keeps w γ m w' γ' m')(a:∀b o y,H b o=some y->H' b o=some y)
  {x:AV1} {y:Value} (h:AR1 w H γ m x y):AR1 w' H' γ' m' x y:=by
 cases x with
 |c t=>exact i7 d a (fun b hb=>absurd rfl hb) h
 |agg ts=>obtain⟨cs,h1,h2,h3⟩:=h;exact⟨cs,h1,h2,oQ d a (fun b hb=>absurd rfl hb) h3⟩
theorem Ca{w w':World}{H H':FH}{γ γ':Gam}{m m':Mm}(c:Keeps w γ m w' γ' m')(a:∀b o y,H b o=some y->H' b o=some y) :
  ∀{xs:List AV1}{ys:List Value},ARs w H γ m xs ys->ARs w' H' γ' m' xs ys
 |[],[],_=>trivial
 |_::_,_::_,h=>⟨B9 c a h.1,Ca c a h.2⟩
 |[],_::_,h=>h.elim
 |_::_,[],h=>h.elim
theorem dv{w w':World}{H H':FH}{γ γ':Gam}{m m':Mm}(c:Keeps w γ m w' γ' m')(a:∀b o y,H b o=some y->H' b o=some y)
  {x:AV} {y:Value} (h:AR w H γ m x y):AR w' H' γ' m' x y:=by
 cases x with
 |one x=>exact B9 c a h
 |tup xs=>obtain⟨l,h1,h2⟩:=h;exact⟨l,h1,Ca c a h2⟩
 |any=>trivial
theorem be{w w':World}{H H':FH}{γ γ':Gam}{m m':Mm}(d:Keeps w γ m w' γ' m')(a:∀b o y,H b o=some y->H' b o=some y)
  {n:Nm} {r:Root} {f:Fp} (e:γ' n=γ n) (hw:∀b,f b≠0->w'.heap[b]? = w.heap[b]?) (h:bU w H γ m n r f):bU w' H' γ' m' n r f:=by
 unfold bU at h⊢;split at h
 ·rename_i hb;rw[if_pos hb];obtain⟨b,cs,ty,fz,g,h1,h2,h3,h4,h5,h6⟩:=h;exact⟨b,cs,ty,fz,g,by grind,by grind,h3,h4,
   oQ d a (fun c hc=>hw c (by grind)) h5,h6⟩
 grind [i7]
theorem gl{w w':World}{H:FH}{γ:Gam}{m:Mm}{F:Nm->Fp}(d:Mem w H γ m F)(hw:∀b,tot F m b≠0->w'.heap[b]? = w.heap[b]?):Keeps w γ m w' γ m:=by
 have a:∀q:Pl,bZ m q->∀b,F q.root b≠0->w'.heap[b]? = w.heap[b]? := by
  intro q hq b hb;unfold bZ at hq;cases hr:ae m q.root with
  |none=>grind
  |some r=>exact hw b (by have:=bR (F:=F) (aj hr) b;grind)
 have c:∀q:Pl,ip m q->bZ m q:=by
  grind (splits:=20) [ip,bZ]
 exact⟨fun q hq=>⟨hq,(we d hq (a q hq)).1⟩,fun q hq=>⟨hq,(we d (c q hq) (a q (c q hq))).2⟩⟩
theorem fh{m:Mm}{q:Pl}(hq:ip m q):bZ m q:=by
 grind (splits:=20) [ip,bZ]
def aW(m:Mm)(p:Pl):Option T:=
 match ae m p.root with
 |none=>none
 |some r=>
  match p.path with
  |[]=>r.cells[p.off]?
  |st::q=>match r.cells[p.off]? with
   |some (.ow sub l)=>match bD sub l (st::q)with
    |some (.fr,x)=>some (.d x)
    |some (.ow s,.li l')=>some (.ow s l')
    |some (.ow _,_)=>some .any
    |none=>none
   |_=>none
theorem eG{m:Mm}:tot F (x::m) b=F x.1 b+tot F m b:=rfl
theorem uR{m:Mm}{y:Nm×Root}(hx:x∈m)(hy:y∈m)(hn:x.1≠y.1)(b:Nat):F x.1 b+F y.1 b<=tot F m b:=by
 induction m<;>grind [eG,bR]
theorem AN{w:World}{H:FH}{γ:Gam}{m:Mm}{F:Nm->Fp}(f:Mem w H γ m F){p:Pl}(c:bZ m p){a:Addr}(j:plA w γ p=some a) :
  F p.root a.block≠0/\a.spot=none:=by
 obtain⟨n,off,path⟩:=p;unfold bZ at c;cases hr:ae m n with
 |none=>grind
 |some r=>
  simp only[hr]at c;have d:=f.roots _ (aj hr)
  cases path with
  |nil=>
   grind [bU,plA]
  |cons st q=>
   dsimp only at c;cases e:r.cells[off]? with
   |none=>grind
   |some t=>
    rw[e]at c;cases t with
    |ow sub l=>
     obtain⟨v,g,h,⟨k,c2⟩,c3⟩:=dX d e;dsimp only at h c3;have i:∀b,g b<=1:=fun b=>by have:=c3 b;have:=f.le1 b;have:=bR (F:=F) (aj hr) b;grind
     grind [m7,plA]
    |_=>grind
theorem Zt{w:World}{H:FH}{γ:Gam}{m:Mm}{F:Nm->Fp}(x:Mem w H γ m F){p q:Pl}(hp:bZ m p)(hq:bZ m q){a:Addr}
  (C:plA w γ p=some a) (hb:plA w γ q=some a) :
  p.root=q.root/\p.off=q.off/\p.path.map (fun s=>(s.idx,s.off))=q.path.map (fun s=>(s.idx,s.off)):=by
 have G:=AN x hp C
 have K:=AN x hq hb
 obtain⟨n,off,path⟩:=p;obtain⟨n',d,f⟩:=q;by_cases hn:n=n'
 ·subst hn;refine⟨rfl,?_⟩;unfold bZ at hp hq;cases hr:ae m n with
  |none=>grind
  |some r=>
   simp only[hr]at hp hq;have c:=x.roots _ (aj hr)
   have A:∀b,F n b<=1:=fun b=>by have:=x.le1 b;have:=bR (F:=F) (aj hr) b;grind
   have blk:∀(off:Nat)(sub:List Sh)(l:List (List D))(st:Step)(u:List Step),r.cells[off]? = some (.ow sub l)->okO sub l (st::u) ->
     ∀d,plA w γ ⟨n,off,st::u⟩≠plA w γ ⟨n,d,[]⟩\/plA w γ ⟨n,d,[]⟩=none:=by
    intro off sub l st u i E d;unfold bU at c;split at c
    ·left
     obtain⟨b,cs,ty,fz,g,h1,h2,h3,h4,h5,h6⟩:=c;obtain⟨_,v,g',_,o,⟨k,a3⟩,a4⟩:=rK h5 i
     grind [m7,plA,aH,World.cell?]
    grind [plA]
   cases path with
   |nil=>
    cases f with
    |nil=>
     unfold bU at c
     grind [plA]
    |cons st u=>
     grind
   |cons st u=>
    dsimp only at hp;cases i:r.cells[off]? with
    |none=>grind
    |some t=>
     rw[i]at hp;cases t with
     |ow sub l=>
      cases f with
      |nil=>
       grind
      |cons I u'=>
       dsimp only at hq;cases h:r.cells[d]? with
       |none=>grind
       |some t'=>
        rw[h]at hq;cases t' with
        |ow B l'=>
         by_cases ho:off=d
         ·subst ho;refine⟨rfl,?_⟩;rw[i]at h;simp only[af0,T.ow.injEq]at h;obtain⟨rfl,rfl⟩:=h;obtain⟨v,g,M,⟨k,c2⟩,c3⟩:=dX c i
          grind [plA,Le]
         · -- two cells of one root
          exfalso
          unfold bU at c;split at c
          ·obtain⟨b,cs,ty,fz,g,h1,h2,h3,h4,h5,h6⟩:=c;dsimp only at h1 h6;have z:off<r.cells.length:=by
            grind
           have j:d<r.cells.length:=by
            grind
           obtain⟨s1,L,Q,O,fr,U,o,a3,a4,a5,_,J⟩:=cQ _ _ _ _ _ h5 z;obtain⟨s2,N,S,g2,b1,b2,P,b4,b5⟩:=J d (fun e=>ho e.symm) j;rw[i]at o;rw[h]at b2;simp only[af0]at o b2;subst o;subst b2;obtain⟨k,a5⟩:=a5;obtain⟨k',b4⟩:=b4
           grind [m7,plA,aH,World.cell?]
          grind
        |_=>grind
     |_=>grind
 ·exfalso
  unfold bZ at hp hq;cases hr:ae m n with
  |none=>grind
  |some r=>
   cases y:ae m n' with
   |none=>grind
   |some R=>
    have:=uR (F:=F) (aj hr) (aj y) hn a.block
    grind [Mem.le1]
theorem Ju:∀(p q:List Step)(sub:List Sh)(l:List (List D)),p.map (fun s=>(s.idx,s.off))=q.map (fun s=>(s.idx,s.off))->bD sub l p=bD sub l q:=by
 intro p;induction p with
 |nil=>simp_all
 |cons st r ih=>
  intro q sub l h;cases q with
  |nil=>simp at h
  |cons b a=>
   simp only[af3,List.cons.injEq,Prod.mk.injEq]at h;obtain⟨⟨h1,h2⟩,h3⟩:=h;cases r with
   |nil=>simp_all[bD]
   |cons t u=>cases a<;>grind [bD]
theorem IQ{m:Mm}{p q:Pl}(h1:p.root=q.root)(h2:p.off=q.off)(h3:p.path.map (fun s=>(s.idx,s.off))=q.path.map (fun s=>(s.idx,s.off))):aW m p=aW m q:=by
 grind (splits:=20) [aW,Ju]
def T.owned:T->Bool
 |.mp _=>true
 |.it _ _=>true
 |.ow _ _=>true
 |_=>false
def T.toD:T->D
 |.d x=>x
 |.nil=>.li []
 |.ow _ l=>.li l
 |_=>.any
def bh(m:Mm)(p:Pl)(t:T):Mm:=
 match ae m p.root with
 |none=>m
 |some r=>cE m p.root { r with cells:=match p.path with
   |[]=>r.cells.set p.off t
   |st::q=>match r.cells[p.off]? with
    |some (.ow sub l)=>r.cells.set p.off (.ow sub (cr sub l t.toD (st::q)))
    |_=>r.cells }
theorem fC{m:Mm}{n':Nm}{r0:Root}(h:ae m n=some r0):ae (cE m n r) n'=if n=n' then some r else ae m n':=by
 induction m<;>grind [ae,cE]
def aR(cells:List T)(off:Nat)(path:List Step):Prop:=
 match path with
 |[]=>off<cells.length
 |st::q=>match cells[off]? with
  |some (.ow sub l)=>okO sub l (st::q)
  |_=>False
def bx(cells:List T)(off:Nat)(path:List Step):Prop:=
 match cells[off]?,path with
 |some (.ow _ _),[]=>True
 |some (.mp _),[]=>True
 |some (.it _ _),[]=>True
 |some (.ow sub l),st::q=>okO sub l (st::q)/\match bD sub l (st::q)with
  |some (.ow _,.li _)=>True
  |_=>False
 |_,_=>False
theorem ax{m:Mm}{p:Pl}:bZ m p ↔ ∃r,ae m p.root=some r/\aR r.cells p.off p.path:=by
 grind [bZ,aR]
theorem b9{m:Mm}{p:Pl}:ip m p ↔ ∃r,ae m p.root=some r/\bx r.cells p.off p.path:=by
 unfold ip bx
 grind
variable{sub:List Sh}
theorem B0{l:List (List D)}{p:List Step}{P:Prop}(h:match bD sub l p with|some (.ow _,.li _)=>True|_=>False) :
  ∃s l',bD sub l p=some (.ow s,.li l'):=by
 grind
theorem wW{w w':World}{H:FH}{γ:Gam}{m:Mm}(hm:Mem w H γ m F){p:Pl}(hp:bZ m p){t0 t:T}(h0:aW m p=some t0)(hno:t0.owned=false)
  {A:Addr} (hA:plA w γ p=some A) (hw:∀a,a≠A->w'.cell? a=w.cell? a):Keeps w γ m w' γ (bh m p t):=by
 have I:∀q:Pl,bZ m q->(∃x,aW m q=some x/\x.owned=true)->plA w γ q≠some A:=by
  grind [Zt,IQ]
 have L:∀q:Pl,bZ m q->plA w' γ q=plA w γ q/\(q.path≠[]->aH w' (γ q.root) q.off=aH w (γ q.root) q.off):=by
  intro q hq;obtain⟨n,off,path⟩:=q;cases path with
  |nil=>exact⟨rfl,fun h=>absurd rfl h⟩
  |cons st u=>
   obtain⟨r,hr,hc⟩:=ax.1 hq;dsimp only[aR]at hr hc;cases j:r.cells[off]? with
   |none=>grind
   |some tt=>
    rw[j]at hc;cases tt with
    |ow sub l=>
     have C:off<r.cells.length:=by
      grind
     have h1:bZ m ⟨n,off,[]⟩:=ax.2 ⟨r,hr,C⟩
     have h2:=I ⟨n,off,[]⟩ h1 ⟨.ow sub l,by grind [aW],rfl⟩
     have o:aH w' (γ n) off=aH w (γ n) off:=by
      grind [plA,aH]
     refine⟨?_,fun _=>o⟩;simp only[plA,o];cases hv:aH w (γ n) off with
     |none=>rfl
     |some v=>
      simp only[Option.bind_some];refine KR hw (st::u) v (fun a b e ha hb=>?_);rw[e]at hc;obtain⟨c1,s,l',c2⟩:=MZ a b sub l ha hb hc;cases a with
      |nil=>grind
      |cons a1 X=>
       have h3:bZ m ⟨n,off,a1::X⟩:=ax.2 ⟨r,hr,by grind [aR]⟩
       have h4:=I ⟨n,off,a1::X⟩ h3 ⟨.ow s l',by grind [aW],rfl⟩
       grind [plA]
    |_=>grind
 obtain⟨f,J,aa⟩:=ax.1 hp;have O:∀(off:Nat)(sub:List Sh)(l:List (List D)),f.cells[off]? = some (T.ow sub l)->∀n,wfO n sub l:=by
  intro off sub l j n;obtain⟨v,g,_,⟨k,c2⟩,_⟩:=dX (hm.roots _ (aj J)) j
  grind [D2]
 have G:∀q:Nm,ae (bh m p t) q=if p.root=q then some { f with cells:=match p.path with
   |[]=>f.cells.set p.off t
   |st::q=>match f.cells[p.off]? with
    |some (.ow sub l)=>f.cells.set p.off (.ow sub (cr sub l t.toD (st::q)))
    |_=>f.cells }else ae m q:=by
  grind [bh,fC]
 have E:∀st u,p.path=st::u->∀(sub:List Sh)(l:List (List D)),f.cells[p.off]? = some (T.ow sub l)->okO sub l (st::u)/\∀s l',bD sub l (st::u)≠some (.ow s,.li l'):=by
  grind [aR,aW,T.owned]
 have W:p.path=[]->∀(sub:List Sh)(l:List (List D)),f.cells[p.off]? ≠ some (T.ow sub l):=by
  grind [aW,T.owned]
 have S:∀q:Pl,bZ m q->bZ (bh m p t) q:=by
  intro q hq;obtain⟨r,hr,hc⟩:=ax.1 hq;rw[ax,G];by_cases hn:p.root=q.root
  ·rw[if_pos hn];rw[<- hn,J]at hr;obtain rfl:f=r:=by grind
   refine⟨_,rfl,?_⟩;obtain⟨n,off,path⟩:=q;dsimp only at hc⊢;cases path with
   |nil=>
    grind [aR]
   |cons st u=>
    dsimp only[aR]at hc⊢;cases d:p.path with
    |nil=>
     grind
    |cons z u'=>
     dsimp only;cases i:f.cells[p.off]? with
     |none=>exact hc
     |some R=>
      cases R with
      |ow sub l=>
       dsimp only;by_cases ho:p.off=off
       ·subst ho;have C:p.off<f.cells.length:=by
         grind
        rw[agQ C];rw[i]at hc;obtain⟨g1,g2⟩:=E z u' d sub l i;exact(JK (st::u) (z::u') _ sub l t.toD (af2 _) (O _ sub l i _) hc g1 g2).1
       grind
      |_=>exact hc
  grind
 have U:∀q:Pl,ip m q->ip (bh m p t) q:=by
  intro q hq;obtain⟨r,hr,hc⟩:=b9.1 hq;rw[b9,G];by_cases hn:p.root=q.root
  ·rw[if_pos hn];rw[<- hn,J]at hr;obtain rfl:f=r:=by grind
   refine⟨_,rfl,?_⟩;obtain⟨n,off,path⟩:=q;dsimp only at hc⊢;unfold bx at hc⊢;cases j:f.cells[off]? with
   |none=>grind
   |some tt=>
    cases tt with
    |ow V Y=>
     rw[j]at hc;cases d:p.path with
     |nil=>
      grind
     |cons z u'=>
      dsimp only;cases i:f.cells[p.off]? with
      |none=>grind
      |some R=>
       cases R with
       |ow sub l=>
        dsimp only;by_cases ho:p.off=off
        ·subst ho;have C:p.off<f.cells.length:=by
          grind
         rw[agQ C];rw[i]at j;simp only[af0,T.ow.injEq]at j;obtain⟨rfl,rfl⟩:=j;cases path with
         |nil=>trivial
         |cons st u=>
          dsimp only at hc⊢;obtain⟨g1,g2⟩:=E z u' d _ _ i;obtain⟨k1,k2⟩:=JK (st::u) (z::u') _ _ _ t.toD (af2 _) (O _ _ _ i _) hc.1 g1 g2
          grind
        grind
       |_=>grind
    |mp Y=>
     grind [aW,T.owned]
    |it c0 Y=>
     grind [aW,T.owned]
    |_=>grind
  grind
 refine⟨fun q hq=>⟨S q hq,(L q hq).1⟩,fun q hq=>⟨U q hq,?_⟩⟩;have N:=fh hq
 obtain⟨Z,e2⟩:=L q N;have hg:∃x,aW m q=some x/\x.owned=true:=by
  obtain⟨r,hr,hc⟩:=b9.1 hq;unfold bx at hc;unfold aW;rw[hr];cases j:r.cells[q.off]? with
  |none=>grind
  |some tt=>
   cases M:q.path with
   |nil=>
    rw[j,M]at hc;cases tt with
    |ow sub l=>exact⟨_,by dsimp only;exact j,rfl⟩
    |mp l=>exact⟨_,by dsimp only;exact j,rfl⟩
    |it c l=>exact⟨_,by dsimp only;exact j,rfl⟩
    |_=>grind
   |cons st u=>
    rw[j,M]at hc;cases tt with
    |ow sub l=>
     obtain⟨s,l',e⟩:=B0 (P:=True) hc.2;exact⟨.ow s l',by grind,rfl⟩
    |_=>grind
 have B:=I q N hg
 obtain⟨n,off,path⟩:=q;cases path with
 |nil=>
  simp only[plV];cases Q:γ n with
  |gh v=>rfl
  |blk b=>
   simp only[plA,Q,ne_eq,af0]at B;exact hw _ B
 |cons st u=>
  have K:=e2 (by simp)
  simp only[plA,K]at Z B;simp only[plV,K,Z];cases hz:(aH w (γ n) off).bind fun y=>bm w y (st::u)with
  |none=>rfl
  |some a=>
   grind
def o6:Sh->T->Prop
 |.fr,.d _=>True
 |.fr,.nil=>True
 |.ow s,.ow s' _=>s=s'
 |.ow _,.nil=>True
 |_,_=>False
theorem kX{H:FH}:FDx H (.li []) (.slice none 0 0):=⟨1,none,0,rfl,af2 _,agW _,.inl rfl⟩
variable{y:Value}
theorem ad2{w:World}{H:FH}{γ:Gam}{m:Mm}{s:Sh}{t:T}(hs:o6 s t)(h:TR w H γ m t f y):∃k,OD w H k s t.toD f y:=by
 cases s with
 |fr=>
  cases t with
  |d x=>exact⟨0,fK.2 h⟩
  |nil=>obtain⟨h0,rfl⟩:=h;exact⟨0,fK.2 ⟨h0,kX⟩⟩
  |_=>exact hs.elim
 |ow s=>
  cases t with
  |ow s' l=>obtain rfl:s=s':=hs;exact h
  |nil=>obtain⟨h0,rfl⟩:=h;exact⟨1,e9.2 (.inl ⟨rfl,rfl,h0⟩)⟩
  |_=>exact hs.elim
def ZQ(m:Mm)(p:Pl):Option Sh:=
 match ae m p.root with
 |none=>none
 |some r=>match r.cells[p.off]? with
  |some (.ow sub l)=>(bD sub l p.path).map (·.1)
  |_=>none
theorem dD{m:Mm}:tot F (cE m n r) b=tot F m b:=by
 induction m<;>grind [cE,eG]
theorem mA{m:Mm}:(cE m n r).map (·.1)=m.map (·.1):=by
 induction m<;>grind [cE]
theorem px{m:Mm}(hk:(m.map (·.1)).Nodup)(h:x∈cE m n r):(x.1≠n/\x∈m)\/x=(n,r):=by
 induction m<;>grind [cE]
theorem Xl{m:Mm}{ft:Fp}(h:n ∉ m.map (·.1)):tot (fun k b=>F k b+if k=n then ft b else 0) m b=tot F m b:=by
 induction m with
 |nil=>rfl
 |cons x m ih=>
  grind [eG]
theorem Fz{m:Mm}{ft:Fp}(hk:(m.map (·.1)).Nodup)(h:ae m n=some r) :
  tot (fun k b=>F k b+if k=n then ft b else 0) m b=tot F m b+ft b:=by
 induction m with
 |nil=>simp[ae]at h
 |cons x m ih=>
  obtain⟨k,y⟩:=x;simp only[af3,ahP]at hk;simp only[ae]at h;rw[eG,eG];split at h
  ·rename_i e;subst e;rw[Xl hk.1];grind
  grind
theorem nF{w:World}{cs:Array Value}{ty:TypeId}{fz:Nat×Nat}(h:w.heap[b]? = some (.cells cs ty fz)) :
  (w.setCell ⟨b,k,none⟩ y).heap[b]? = some (.cells (cs.setIfInBounds k y) ty fz):=by
 grind [World.setCell]
theorem C3{w:World}{cs:Array Value}{ty:TypeId}{fz:Nat×Nat}(h:w.heap[b]? = some (.cells cs ty fz))(h2:JI fz cs.size)(_:k<cs.size) :
  w.frozen? ⟨b,k,none⟩=false:=by
 grind [JI,World.frozen?]
theorem jt{w:World}{b':Nat}(h:b'≠b):(w.setCell ⟨b,k,none⟩ y).heap[b']? = w.heap[b']? := by
 grind [World.setCell]
theorem Thawed.setCell{w:World}{c:Nat}(h:Thawed w c):Thawed (w.setCell ⟨b,k,none⟩ y) c:=by
 obtain⟨cs,ty,h⟩:=h;by_cases e:c=b
 ·subst e;exact⟨_,_,nF h⟩
 ·exact⟨cs,ty,(jt e).trans h⟩
theorem PY{w:World}{H:FH}{γ:Gam}{m:Mm}{F:Nm->Fp}(I:Mem w H γ m F){p:Pl}(hp:bZ m p){t0 t:T}(h0:aW m p=some t0)(hno:t0.owned=false)
  {b k:Nat} (S:plA w γ p=some ⟨b,k,none⟩) {ft:Fp} {y:Value} (ht:TR w H γ m t ft y) (ah:oF y=true)
  (af:p.path=[]\/∃s,ZQ m p=some s/\o6 s t)
  (hd:∀c,tot F m c+ft c<=1) (hl:∀c,ft c≠0->c<w.heap.size/\∀o,H c o=none) :
  (∃z,w.cell? ⟨b,k,none⟩=some z)/\w.frozen? ⟨b,k,none⟩=false /\
   Mem (w.setCell ⟨b,k,none⟩ y) H γ (bh m p t) (fun n c=>F n c+if n=p.root then ft c else 0):=by
 have ab:=(AN I hp S).1
 dsimp only at ab;have ae:ft b=0:=by
  obtain⟨r,hr,_⟩:=ax.1 hp;have:=bR (F:=F) (aj hr) b;grind
 have hw:∀a,a≠(⟨b,k,none⟩:Addr)->(w.setCell ⟨b,k,none⟩ y).cell? a=w.cell? a:=fun a ha=>World.cell?_setCell_other _ _ _ _ (fun e=>ha e.symm)
 have R:=wW I hp h0 hno (t:=t) S hw
 obtain⟨G,B,A⟩:=ax.1 hp;have ag:∀c,F p.root c<=1:=fun c=>by have:=I.le1 c;have:=bR (F:=F) (aj B) c;grind
 have i:=I.roots _ (aj B)
 dsimp only at i;have E:∀c,c≠b->(w.setCell ⟨b,k,none⟩ y).heap[c]? = w.heap[c]? := fun c hc=>jt hc
 have P:TR (w.setCell ⟨b,k,none⟩ y) H γ (bh m p t) t ft y:=i7 R (fun _ _ _ h=>h) (fun c hc=>E c (by grind)) ht
 have K:(∃z,w.cell? ⟨b,k,none⟩=some z)/\w.frozen? ⟨b,k,none⟩=false /\
   bU (w.setCell ⟨b,k,none⟩ y) H γ (bh m p t) p.root { G with cells:=match p.path with
    |[]=>G.cells.set p.off t
    |st::q=>match G.cells[p.off]? with
     |some (.ow sub l)=>G.cells.set p.off (.ow sub (cr sub l t.toD (st::q)))
     |_=>G.cells } (fun c=>F p.root c+ft c):=by
  have N:∀(st:Step)(u:List Step)(sub:List Sh)(l:List (List D))(v:Value)(g:Fp),p.path=st::u->G.cells[p.off]? = some (.ow sub l)->okO sub l (st::u) ->
    TR w H γ m (.ow sub l) g v->(∀c,g c<=1)->bm w v (st::u)=some ⟨b,k,none⟩ ->
    (∃z,w.cell? ⟨b,k,none⟩=some z)/\w.frozen? ⟨b,k,none⟩=false/\g b≠0 /\
     TR (w.setCell ⟨b,k,none⟩ y) H γ (bh m p t) (.ow sub (cr sub l t.toD (st::u))) (fun c=>g c+ft c) v:=by
   intro st u sub l v g f Z V ⟨n,U⟩ ad C;obtain⟨b',k',z,s,x,cs,ty,fz,f1,f2,W,c2,c3,c4,c5,c6,c7,c8,c9⟩:=xT (st::u) n sub l g v U ad V;rw[C]at W;simp only[af0,Addr.mk.injEq,and_true]at W;obtain⟨rfl,rfl⟩:=W;have hk:k<cs.size:=by
    grind
   refine⟨⟨z,by grind [World.cell?]⟩,?_,by grind,?_⟩
   ·grind [C3]
   · -- its cell was not owned
    have ak:∀c,f1 c=0:=by
     have hg:aW m p=some (match s,x with|.fr,x=>.d x|.ow s,.li l'=>.ow s l'|.ow _,_=>.any):=by
      unfold aW;rw[B,f];simp only[Z,c5];cases s with
      |fr=>rfl
      |ow s=>cases x<;>rfl
     rw[h0]at hg;simp only[af0]at hg;cases s with
     |fr=>grind [fK]
     |ow s=>cases x with
      |li l'=>grind [T.owned]
      |any=>grind [OD]
      |_=>grind [OD]
    have Y:o6 s t:=by
     grind [ZQ]
    obtain⟨j,hj⟩:=ad2 Y P;obtain⟨M,hM⟩:=c9 (w.setCell ⟨b,k,none⟩ y) H y t.toD ft j (fun _ _ _ h=>h) (nF c2) (fun c h1 _=>E c h1) hj;exact⟨M,Gy (fun c=>by grind) hM⟩
  unfold bU at i⊢;dsimp only;split at i
  ·rename_i hb;rw[if_pos hb];obtain⟨b0,cs,ty,fz,g,h1,h2,h3,h4,h5,h6⟩:=i;cases f:p.path with
   |nil=>
    dsimp only;simp only[plA,f,h1,af0,Addr.mk.injEq,and_true]at S;obtain⟨rfl,rfl⟩:=S;rw[f]at A;dsimp only[aR]at A;obtain⟨s,x,v,L,fr,a1,a2,a3,a4,a5,X,_⟩:=cQ _ _ _ _ _ h5 A;have hv:cs[p.off]? = some v:=by grind
    have hk:p.off<cs.size:=by omega
    refine⟨⟨v,by grind [World.cell?]⟩,?_,b0,cs.setIfInBounds p.off y,ty,fz,fun c=>ft c+fr c,h1,nF h2,by grind,by grind,?_,?_⟩
    ·exact C3 h2 h3.1 hk
    ·unfold Ts;rw[ahO];have:=X (fun _ t'=>TR (w.setCell ⟨b0,p.off,none⟩ y) H γ (bh m p t) t') t y ft (fun _ x g' v aa hx=>i7 R (fun _ _ _ h=>h) (fun c hc=>E c (by
       grind)) hx) P
     grind
    ·intro c;have:L c=0:=by
      simp only[aW,B,f,a2,af0]at h0;subst h0;cases x with
      |ow sub l=>grind [T.owned]
      |mp l=>grind [T.owned]
      |it c l=>grind [T.owned]
      |d x=>exact a5.1 c
      |nil=>exact a5.1 c
      |el row off=>exact a5.1 c
      |pl q=>exact a5.1 c
      |rf q=>exact a5.1 c
      |any=>exact a5 c
     grind
   |cons st u=>
    rw[f]at A;dsimp only[aR]at A;cases J:G.cells[p.off]? with
    |none=>grind
    |some tt=>
     rw[J]at A;cases tt with
     |ow sub l=>
      dsimp only at A⊢;have ac:p.off<G.cells.length:=by
       grind
      obtain⟨s,x,v,L,fr,a1,a2,a3,a4,a5,X,_⟩:=cQ _ _ _ _ _ h5 ac;rw[J]at a2;obtain rfl:T.ow sub l=x:=by grind
      have hv:cs[p.off]? = some v:=by grind
      have C:bm w v (st::u)=some ⟨b,k,none⟩:=by
       grind [plA,aH,World.cell?]
      obtain⟨e1,e2,e3,e4⟩:=N st u sub l v L f J A a5 (fun c=>by grind) C;have ai:b0≠b:=by
       grind
      refine⟨e1,e2,b0,cs,ty,fz,fun c=>(L c+ft c)+fr c,h1,by grind,h3,by grind,?_,?_⟩
      ·unfold Ts;rw[ahO];have:=X (fun _ t'=>TR (w.setCell ⟨b,k,none⟩ y) H γ (bh m p t) t') (.ow sub (cr sub l t.toD (st::u))) v (fun c=>L c+ft c) (fun _ x g' v aa hx=>i7 R (fun _ _ _ h=>h) (fun c hc=>E c (by
         grind)) hx) e4
       have hs:cs.toList.set p.off v=cs.toList:=by
        apply ag7
        grind
       grind
      grind
     |_=>grind
  grind [plA,aR,aH]
 obtain⟨m1,m2,m3⟩:=K;refine⟨m1,m2,?_⟩;have Q:bh m p t=cE m p.root { G with cells:=match p.path with
    |[]=>G.cells.set p.off t
    |st::q=>match G.cells[p.off]? with
     |some (.ow sub l)=>G.cells.set p.off (.ow sub (cr sub l t.toD (st::q)))
     |_=>G.cells }:=by
  grind [bh]
 have O:∀c,tot (fun n c=>F n c+if n=p.root then ft c else 0) (bh m p t) c=tot F m c+ft c:=by
  intro c;rw[Q,dD,Fz I.keys B]
 constructor
 ·intro b' o v hv;refine(I.agree b' o v hv).frame (E b' fun e=>?_);subst e;have:=I.nofz b' (by have:=bR (F:=F) (aj B) b';grind) o
  grind
 ·intro x hx;rw[Q]at hx;rcases px I.keys hx with⟨hn,hx⟩|rfl
  ·have h:=be (γ':=γ) R (fun _ _ _ h=>h) rfl (fun c hc=>E c (by
    intro e;subst e;have:=uR (F:=F) (aj B) hx (fun e=>hn e.symm) c
    grind)) (I.roots x hx)
   simp_all
  grind
 ·grind [mA,Mem.keys]
 ·grind
 ·grind [World.size_setCell,Mem.lt]
 ·intro c hc;rw[O]at hc;by_cases h:ft c=0
  ·exact I.nofz c kQ1
  grind
def Pl.offs(p:Pl):List Nat:=p.off::p.path.map (·.off)
def thr(q:Pl)(rf:Bool)(p:Pl):Bool:=decide (q.root=p.root)&&q.offs.isPrefixOf p.offs&&(rf||q.offs != p.offs)
def T.kill(bad:Bool->Pl->Bool):T->T
 |.pl p=>if bad false p then .any else .pl p
 |.rf p=>if bad true p then .any else .rf p
 |t=>t
def AV1.kill(bad:Bool->Pl->Bool):AV1->AV1
 |.c t=>.c (t.kill bad)
 |.agg ts=>.agg (ts.map (·.kill bad))
def AV.kill(bad:Bool->Pl->Bool):AV->AV
 |.one x=>.one (x.kill bad)
 |.tup xs=>.tup (xs.map (·.kill bad))
 |.any=>.any
def aM(bad:Bool->Pl->Bool)(m:Mm):Mm:=m.map fun x=>(x.1,{ x.2 with cells:=x.2.cells.map (·.kill bad) })
def oz(bad:Bool->Pl->Bool)(t:List (Nat×AV)):List (Nat×AV):=t.map fun x=>(x.1,x.2.kill bad)
structure KeepsB (bad:Bool->Pl->Bool) (w:World) (γ:Gam) (m:Mm) (w':World) (γ':Gam) (m':Mm):Prop where
 pl:∀q,bad false q=false->bZ m q->bZ m' q/\plA w' γ' q=plA w γ q
 rf:∀q,bad true q=false->ip m q->ip m' q/\plV w' γ' q=plV w γ q
section
variable {bad:Bool->Pl->Bool} {w w':World} {H H':FH} {γ γ':Gam} {m m':Mm}
theorem qa(i:KeepsB bad w γ m w' γ' m')(e:∀b o y,H b o=some y->H' b o=some y)
  {t:T} {f:Fp} {y:Value} (hw:∀b,f b≠0->w'.heap[b]? = w.heap[b]?) (h:TR w H γ m t f y):TR w' H' γ' m' (t.kill bad) f y:=by
 cases t with
 |d x=>exact⟨h.1,eB e h.2⟩
 |nil=>exact h
 |ow sub l=>obtain⟨k,h⟩:=h;exact⟨k,cH e k k _ _ _ _ (af2 _) hw h⟩
 |mp l=>obtain⟨b,es,ck,g,h1,h2,h3,h4,h5⟩:=h;exact⟨b,es,ck,g,h1,by grind,h3,jR e (fun c hc=>hw c (by grind)) h4,h5⟩
 |it cur rest=>obtain⟨r,m,a,s,c,h1,h2,h3,h4⟩:=h;exact⟨r,m,a,s,c,h1,by grind,Gu e h3,h4⟩
 |el row off=>obtain⟨h0,b,o,k,h1,h2⟩:=h;exact⟨h0,b,o,k,h1,lX e h2⟩
 |pl p=>
  obtain⟨h0,h1,a,h2,h3⟩:=h;simp only[T.kill];split
  ·exact h0
  ·rename_i hb;obtain⟨k1,k2⟩:=i.pl p (by grind) h1;exact⟨h0,k1,a,by grind,h3⟩
 |rf p=>
  obtain⟨h0,h1,h2⟩:=h;simp only[T.kill];split
  ·exact h0
  ·rename_i hb;obtain⟨k1,k2⟩:=i.rf p (by grind) h1;exact⟨h0,k1,by grind⟩
 |any=>exact h
theorem K9{R d:α->β->Fp->Value->Prop}{g:β->β}:∀{a:List α}{xs:List β}{f:Fp}{vs:List Value},
  (∀s x h v,(∀b,h b<=f b)->R s x h v->d s (g x) h v)->Cs R a xs f vs->Cs d a (xs.map g) f vs
 |[],[],_,_,_,h=>h
 |s::a,x::xs,f,vs,c,h=>by
  obtain⟨v,r,f1,e,hv,hf,h1,h2⟩:=h;exact⟨v,r,f1,e,hv,hf,c _ _ _ _ (fun b=>by grind) h1,K9 (fun s x h v i=>c s x h v (fun b=>by grind)) h2⟩
 |[],_::_,_,_,_,h=>h.elim
 |_::_,[],_,_,_,h=>h.elim
theorem th(c:KeepsB bad w γ m w' γ' m')(a:∀b o y,H b o=some y->H' b o=some y)
  {ts:List T} {f:Fp} {vs:List Value} (hw:∀b,f b≠0->w'.heap[b]? = w.heap[b]?) (h:Ts (TR w H γ m) ts f vs):Ts (TR w' H' γ' m') (ts.map (·.kill bad)) f vs:=by
 grind [Ts,K9,qa]
theorem FO(d:KeepsB bad w γ m w' γ' m')(a:∀b o y,H b o=some y->H' b o=some y){x:AV1}(h:AR1 w H γ m x y):AR1 w' H' γ' m' (x.kill bad) y:=by
 cases x with
 |c t=>exact qa d a (fun b hb=>absurd rfl hb) h
 |agg ts=>obtain⟨cs,h1,h2,h3⟩:=h;exact⟨cs,h1,by grind,th d a (fun b hb=>absurd rfl hb) h3⟩
theorem FQ(c:KeepsB bad w γ m w' γ' m')(a:∀b o y,H b o=some y->H' b o=some y) :
  ∀{xs:List AV1}{ys:List Value},ARs w H γ m xs ys->ARs w' H' γ' m' (xs.map (·.kill bad)) ys
 |[],[],_=>trivial
 |_::_,_::_,h=>⟨FO c a h.1,FQ c a h.2⟩
 |[],_::_,h=>h.elim
 |_::_,[],h=>h.elim
theorem xS(c:KeepsB bad w γ m w' γ' m')(a:∀b o y,H b o=some y->H' b o=some y){x:AV}(h:AR w H γ m x y):AR w' H' γ' m' (x.kill bad) y:=by
 cases x with
 |one x=>exact FO c a h
 |tup xs=>obtain⟨l,h1,h2⟩:=h;exact⟨l,h1,FQ c a h2⟩
 |any=>trivial
theorem rP(d:KeepsB bad w γ m w' γ' m')(a:∀b o y,H b o=some y->H' b o=some y)
  {n:Nm} {r:Root} {f:Fp} (e:γ' n=γ n) (hw:∀b,f b≠0->w'.heap[b]? = w.heap[b]?) (h:bU w H γ m n r f) :
  bU w' H' γ' m' n { r with cells:=r.cells.map (·.kill bad) } f:=by
 unfold bU at h⊢;dsimp only;split at h
 ·rename_i hb;rw[if_pos hb];obtain⟨b,cs,ty,fz,g,h1,h2,h3,h4,h5,h6⟩:=h;exact⟨b,cs,ty,fz,g,by grind,by grind,h3,by grind,
   th d a (fun c hc=>hw c (by grind)) h5,h6⟩
 grind [qa]
end
theorem km{bad:Bool->Pl->Bool}{m:Mm}:ae (aM bad m) n=(ae m n).map fun r=>{ r with cells:=r.cells.map (·.kill bad) }:=by
 induction m with
 |nil=>rfl
 |cons x m ih=>
  obtain⟨k,y⟩:=x;simp only[aM,af3,ae];split
  ·rfl
  ·exact ih
variable{cells:List T}{path:List Step}
theorem E4{bad:Bool->Pl->Bool}{off:Nat}(h:aR cells off path):aR (cells.map (·.kill bad)) off path:=by
 cases path with
 |nil=>grind [aR]
 |cons st u=>
  simp only[aR,af5]at h⊢;cases a:cells[off]? with
  |none=>grind
  |some t=>
   rw[a]at h;cases t with
   |ow sub l=>exact h
   |_=>grind
theorem AF{bad:Bool->Pl->Bool}{off:Nat}(h:bx cells off path):bx (cells.map (·.kill bad)) off path:=by
 unfold bx at h⊢;simp only[af5];cases a:cells[off]? with
 |none=>grind
 |some t=>
  rw[a]at h;cases t with
  |ow sub l=>exact h
  |mp l=>exact h
  |it c l=>exact h
  |_=>grind
variable{q:Pl}
theorem sA{bad:Bool->Pl->Bool}{m:Mm}(h:bZ m q):bZ (aM bad m) q:=by
 grind [ax,km,E4]
theorem sB{bad:Bool->Pl->Bool}{m:Mm}(h:ip m q):ip (aM bad m) q:=by
 grind [b9,km,AF]
theorem bk{bad:Bool->Pl->Bool}{m:Mm}:tot F (aM bad m) b=tot F m b:=by
 induction m<;>grind [aM,tot]
theorem nN{bad:Bool->Pl->Bool}{m:Mm}:(aM bad m).map (·.1)=m.map (·.1):=by
 simp[aM,Function.comp_def]
theorem JJ:∀(p q:List Step)(sub:List Sh)(l:List (List D))(x:D)(n:Nat),p.length+q.length<=n->wfO n sub l->okO sub l p->okO sub l q ->
  ((q.map (·.off)).isPrefixOf (p.map (·.off))=false\/q.map (·.off)=p.map (·.off)->okO sub (cr sub l x q) p) /\
  ((q.map (·.off)).isPrefixOf (p.map (·.off))=false->∀s l',bD sub l p=some (.ow s,.li l')->∃k,bD sub (cr sub l x q) p=some (.ow s,.li k)):=by
 intro p;induction p with
 |nil=>intro q sub l x n _ _ h;exact h.elim
 |cons st r ih=>
  intro q sub l x n hn z hp hq;cases q with
  |nil=>grind
  |cons a d=>
  cases n with
  |zero=>grind
  |succ n=>
  obtain⟨F,c⟩:=z;have v:st.idx<l.length/\st.esz=sub.length/\st.off<sub.length:=by
   cases r with
   |nil=>exact hp
   |cons _ _=>exact hp.1
  have f:a.idx<l.length/\a.esz=sub.length/\a.off<sub.length:=by
   cases d with
   |nil=>exact hq
   |cons _ _=>exact hq.1
  obtain⟨hi,he,ho⟩:=v;obtain⟨w,I,H⟩:=f;have B:a.off < (l.getD a.idx []).length:=by
   grind
  have key:∃y,cr sub l x (a::d)=l.set a.idx ((l.getD a.idx []).set a.off y) /\
    (∀t u,d=t::u->∃s2 l2,sub[a.off]? = some (.ow s2)/\(l.getD a.idx []).getD a.off default=.li l2/\y=.li (cr s2 l2 x (t::u))/\okO s2 l2 (t::u)):=by
   cases d with
   |nil=>exact⟨x,rfl,fun t u h=>by simp at h⟩
   |cons t u=>
    obtain⟨_,hq⟩:=hq;cases hs:sub[a.off]? with
    |none=>grind
    |some s0=>
     rw[hs]at hq;cases s0 with
     |fr=>grind
     |ow s2=>
      cases hd:(l.getD a.idx []).getD a.off default with
      |li l2=>
       rw[hd]at hq;refine⟨.li (cr s2 l2 x (t::u)),by grind [cr],fun t' u' h=>?_⟩
       grind
      |_=>grind
  obtain⟨y,g,b⟩:=key;rw[g];have hget:=fun i' j'=>C7 (l:=l) (i:=a.idx) (j:=a.off) (i':=i') (j':=j') (y:=y) w B
  cases r with
  |nil=>
   refine⟨fun _=>⟨by grind,he,ho⟩,fun C s l' h=>?_⟩;simp only[bD]at h⊢;rw[hget];by_cases e:a.idx=st.idx/\a.off=st.off
   ·rw[if_pos e];obtain⟨E,o⟩:=e;cases d<;>grind
   grind
  |cons t u=>
   obtain⟨_,hp⟩:=hp;cases hs:sub[st.off]? with
   |none=>grind
   |some s0=>
    rw[hs]at hp;cases s0 with
    |fr=>grind
    |ow s2=>
     cases hd:(l.getD st.idx []).getD st.off default with
     |li l2=>
      rw[hd]at hp;have G:=hget st.idx st.off
      by_cases e:a.idx=st.idx/\a.off=st.off
      ·rw[if_pos e]at G;obtain⟨E,o⟩:=e;cases d with
       |nil=>
        grind
       |cons t' u'=>
        obtain⟨K,J,A,m,rfl,a4⟩:=b t' u' rfl;rw[o,hs]at A;rw[E,o,hd]at m;simp only[af0,Sh.ow.injEq]at A;simp only[D.li.injEq]at m;subst A;subst m;obtain⟨g1,g2⟩:=ih (t'::u') s2 l2 x n (by grind) (c st.idx st.off s2 l2 hs hd) hp a4
        grind [okO,bD]
      grind [okO,bD]
     |_=>grind
theorem zS{m:Mm}{p:Pl}{t:T}{a:Root}(b:ae m p.root=some a)(q:Nm):ae (bh m p t) q=if p.root=q then some { a with cells:=match p.path with
   |[]=>a.cells.set p.off t
   |st::q=>match a.cells[p.off]? with
    |some (.ow sub l)=>a.cells.set p.off (.ow sub (cr sub l t.toD (st::q)))
    |_=>a.cells }else ae m q:=by
 grind [bh,fC]
theorem bY{l:List α}{x:α}(h:l[i]? = some x):i<l.length:=by
 grind
theorem oL{w:World}{H:FH}{γ:Gam}{m:Mm}(y:Mem w H γ m F)(hq:bZ m q) :
  KeepsB (thr q) w γ m w γ (aM (thr q) (bh m q .any)):=by
 obtain⟨h,d,a⟩:=ax.1 hq;have e:=zS (t:=T.any) d
 have j:∀(off:Nat)(sub:List Sh)(l:List (List D)),h.cells[off]? = some (T.ow sub l)->∀n,wfO n sub l:=by
  intro off sub l i n;obtain⟨v,g,_,⟨k,c2⟩,_⟩:=dX (y.roots _ (aj d)) i
  grind [D2]
 constructor
 ·intro p hb hp;refine⟨sA ?_,rfl⟩;obtain⟨r,hr,hc⟩:=ax.1 hp;rw[ax,e];by_cases hn:q.root=p.root
  ·rw[if_pos hn];rw[<- hn,d]at hr;obtain rfl:h=r:=by grind
   refine⟨_,rfl,?_⟩;simp only[thr,hn,decide_true,ag1,Bool.false_or,Pl.offs]at hb;obtain⟨n,off,path⟩:=p;dsimp only at hc hb⊢;cases path with
   |nil=>
    grind [aR]
   |cons st u=>
    dsimp only[aR]at hc⊢;cases b:q.path with
    |nil=>
     grind
    |cons f u'=>
     dsimp only;rw[b]at a;dsimp only[aR]at a;cases c:h.cells[q.off]? with
     |none=>exact hc
     |some o=>
      rw[c]at a;cases o with
      |ow sub l=>
       dsimp only at a⊢;by_cases ho:q.off=off
       ·subst ho;rw[agQ (bY c)];rw[c]at hc;refine(JJ (st::u) (f::u') sub l _ _ (af2 _) (j _ sub l c _) hc a).1 ?_
        grind
       grind
      |_=>exact hc
  grind
 ·intro p hb hp;refine⟨sB ?_,rfl⟩;obtain⟨r,hr,hc⟩:=b9.1 hp;rw[b9,e];by_cases hn:q.root=p.root
  ·rw[if_pos hn];rw[<- hn,d]at hr;obtain rfl:h=r:=by grind
   refine⟨_,rfl,?_⟩;simp only[thr,hn,decide_true,ag1,Bool.true_or,ahU,Pl.offs]at hb;obtain⟨n,off,path⟩:=p;dsimp only at hc hb⊢;unfold bx at hc⊢;cases i:h.cells[off]? with
   |none=>grind
   |some tt=>
    cases tt with
    |ow x s=>
     rw[i]at hc;cases b:q.path with
     |nil=>
      grind
     |cons f u'=>
      dsimp only;rw[b]at a;dsimp only[aR]at a;cases c:h.cells[q.off]? with
      |none=>grind
      |some o=>
       rw[c]at a;cases o with
       |ow sub l=>
        dsimp only at a⊢;by_cases ho:q.off=off
        ·subst ho;rw[agQ (bY c)];rw[c]at i;simp only[af0,T.ow.injEq]at i;obtain⟨rfl,rfl⟩:=i;cases path with
         |nil=>trivial
         |cons st u=>
          dsimp only at hc⊢;rw[b]at hb;simp only[List.isPrefixOf_cons_cons,beq_self_eq_true,ag1]at hb;obtain⟨k1,k2⟩:=JJ (st::u) (f::u') _ _ T.any.toD _ (af2 _) (j _ _ _ c _) hc.1 a
          grind
        grind
       |_=>grind
    |mp s=>
     grind
    |it z s=>
     grind
    |_=>grind
  grind
theorem ZY{F:Nm->Fp}{m:Mm}{g:Fp}{b:Nat}(hk:(m.map (·.1)).Nodup)(h:ae m n=some r)(a:∀b,g b<=F n b) :
  tot (fun k b=>F k b-if k=n then g b else 0) m b+g b=tot F m b:=by
 have e:=Fz (F:=fun k b=>F k b-if k=n then g b else 0) (ft:=g) (b:=b) hk h
 rw[<- e];have:(fun k b=>(F k b-if k=n then g b else 0)+if k=n then g b else 0)=F:=by
  grind
 rw[this]
theorem pL{l:List α}{x:α}(h:l[i]? = some x):l.set i x=l:=by
 apply ag7
 grind
theorem nb{cs:Array Value}{z:Value}(h:cs[k]? = some z):cs.setIfInBounds k z=cs:=by
 grind
theorem yS{w:World}{H:FH}{γ:Gam}{m:Mm}{F:Nm->Fp}(G:Mem w H γ m F)(hq:bZ m q){l:List (List D)}(r:aW m q=some (.ow sub l)) :
  ∃g v,plV w γ q=some v/\TR w H γ m (.ow sub l) g v/\(∀b,g b<=F q.root b)/\(∀b,tot (fun n b=>F n b-if n=q.root then g b else 0) m b+g b=tot F m b) /\
   ∀H':FH,(∀b o y,H b o=some y->H' b o=some y)->(∀b o y,H' b o=some y->RdV w b o y) ->
    (∀b,tot (fun n b=>F n b-if n=q.root then g b else 0) m b≠0->∀o,H' b o=none) ->
    Mem w H' γ (aM (thr q) (bh m q .any)) (fun n b=>F n b-if n=q.root then g b else 0):=by
 have R:=oL G hq
 obtain⟨j,p,f⟩:=ax.1 hq;have e:=G.roots _ (aj p)
 dsimp only at e;have O:∀c,F q.root c<=1:=fun c=>by have:=G.le1 c;have:=bR (F:=F) (aj p) c;grind
 have L:∃g v,plV w γ q=some v/\TR w H γ m (.ow sub l) g v/\(∀b,g b<=F q.root b) /\
   ∀H':FH,(∀b o y,H b o=some y->H' b o=some y) ->
    bU w H' γ (aM (thr q) (bh m q .any)) q.root { j with cells:=List.map (fun t=>T.kill (thr q) t) (match q.path with
     |[]=>j.cells.set q.off .any
     |st::u=>match j.cells[q.off]? with
      |some (.ow sub l)=>j.cells.set q.off (.ow sub (cr sub l .any (st::u)))
      |_=>j.cells) } (fun b=>F q.root b-g b):=by
  have C:∀(st:Step)(u:List Step)(a:List Sh)(A:List (List D))(v0:Value)(K:Fp),q.path=st::u->j.cells[q.off]? = some (.ow a A)->okO a A (st::u) ->
    TR w H γ m (.ow a A) K v0->(∀c,K c<=1)->∃g v,(bm w v0 (st::u)).bind w.cell? = some v/\TR w H γ m (.ow sub l) g v/\(∀b,g b<=K b) /\
     ∀H':FH,(∀b o y,H b o=some y->H' b o=some y)->∀m',TR w H' γ m' (.ow a (cr a A .any (st::u))) (fun c=>K c-g c) v0:=by
   intro st u a A v0 K d ht V ⟨n,U⟩ ac;obtain⟨b,k,z,s,x,cs,ty,fz,f1,f2,c1,c2,c3,c4,c5,c6,c7,c8,c9⟩:=xT (st::u) n a A K v0 U ac V;unfold aW at r;rw[p,d]at r;simp only[ht,c5]at r;refine⟨f1,z,by grind [World.cell?],?_,fun b=>by grind,fun H' B m'=>?_⟩
   ·cases s with
    |fr=>grind
    |ow s=>cases x with
     |li l'=>
      simp only[af0,T.ow.injEq]at r;obtain⟨rfl,rfl⟩:=r;exact⟨n,c8⟩
     |_=>grind
   ·cases s with
    |fr=>grind
    |ow s=>
     obtain⟨M,hM⟩:=c9 w H' z .any (fun _=>0) 1 B (by grind [nb]) (fun _ _ _=>rfl) (by simp[OD]);exact⟨M,Gy (fun c=>by grind) hM⟩
  unfold bU at e⊢;dsimp only;split at e
  ·rename_i hb;obtain⟨b0,cs,ty,fz,g,h1,h2,h3,h4,h5,h6⟩:=e;cases d:q.path with
   |nil=>
    unfold aW at r;rw[p,d]at r;dsimp only at r;obtain⟨s,x,v,J,fr,a1,Y,a3,a4,a5,W,_⟩:=cQ _ _ _ _ _ h5 (bY r);rw[r]at Y;obtain rfl:T.ow sub l=x:=by grind
    have hv:cs[q.off]? = some v:=by grind
    refine⟨J,v,?_,a5,fun b=>by grind,fun H' B=>?_⟩
    ·grind [plV,aH,World.cell?]
    ·rw[if_pos hb];refine⟨b0,cs,ty,fz,fr,h1,h2,h3,by grind,?_,fun c=>by grind⟩;have E:=W (fun _ t=>TR w H γ m t) T.any v (fun _=>0) (fun _ x g' N X hx=>hx) (fun _=>rfl)
     rw[pL a3]at E;have I:Ts (TR w H γ m) (j.cells.set q.off .any) fr cs.toList:=by
      grind [Ts]
     exact th R B (fun _ _=>rfl) I
   |cons st u=>
    rw[d]at f;dsimp only[aR]at f;cases i:j.cells[q.off]? with
    |none=>grind
    |some tt=>
     rw[i]at f;cases tt with
     |ow a A=>
      dsimp only at f⊢;obtain⟨s,x,v,J,fr,a1,Y,a3,a4,a5,W,_⟩:=cQ _ _ _ _ _ h5 (bY i);rw[i]at Y;obtain rfl:T.ow a A=x:=by grind
      have hv:cs[q.off]? = some v:=by grind
      obtain⟨g',N,e1,Z,e3,e4⟩:=C st u a A v J d i f a5 (fun c=>by grind);refine⟨g',N,?_,Z,fun b=>by grind,fun H' B=>?_⟩
      ·grind [plV,aH,World.cell?]
      ·rw[if_pos hb];refine⟨b0,cs,ty,fz,fun c=>(J c-g' c)+fr c,h1,h2,h3,by grind,?_,fun c=>by grind⟩;have E:=W (fun _ t=>TR w H γ m t) (.ow a (cr a A .any (st::u))) v (fun c=>J c-g' c) (fun _ x g' N X hx=>hx) (e4 H (fun _ _ _ h=>h) m)
       rw[pL a3]at E;have I:Ts (TR w H γ m) (j.cells.set q.off (.ow a (cr a A .any (st::u)))) (fun c=>(J c-g' c)+fr c) cs.toList:=by
        grind [Ts]
       exact th R B (fun _ _=>rfl) I
     |_=>grind
  ·rename_i hb;obtain⟨v,t',h1,h2,h3⟩:=e;cases d:q.path with
   |nil=>
    unfold aW at r;rw[p,d]at r;dsimp only at r;have ho:q.off=0:=by
     grind
    rw[h2,ho]at r;obtain rfl:t'=T.ow sub l:=by grind
    refine⟨F q.root,v,?_,h3,fun _=>af2 _,fun H' B=>?_⟩
    ·grind [plV,aH]
    ·rw[if_neg hb];refine⟨v,.any,h1,?_,fun c=>Nat.sub_self _⟩;rw[h2,ho];rfl
   |cons st u=>
    rw[d]at f;dsimp only[aR]at f;cases i:j.cells[q.off]? with
    |none=>grind
    |some tt=>
     rw[i]at f;cases tt with
     |ow a A=>
      dsimp only at f⊢;have ho:q.off=0:=by
       grind
      have Q:=i
      rw[h2,ho]at Q;obtain rfl:t'=T.ow a A:=by grind
      obtain⟨g',N,e1,Z,e3,e4⟩:=C st u a A v (F q.root) d i f h3 O;refine⟨g',N,?_,Z,e3,fun H' B=>?_⟩
      ·grind [plV,aH]
      ·rw[if_neg hb];refine⟨v,_,h1,?_,e4 H' B _⟩;rw[h2,ho];rfl
     |_=>grind
 obtain⟨g,v,m1,m2,m3,m4⟩:=L;have aa:∀b,tot (fun n b=>F n b-if n=q.root then g b else 0) m b+g b=tot F m b:=fun b=>ZY G.keys p m3
 refine⟨g,v,m1,m2,m3,aa,fun H' B S ad=>?_⟩;have ab:bh m q .any=cE m q.root { j with cells:=match q.path with
    |[]=>j.cells.set q.off .any
    |st::u=>match j.cells[q.off]? with
     |some (.ow sub l)=>j.cells.set q.off (.ow sub (cr sub l .any (st::u)))
     |_=>j.cells }:=by
  unfold bh;rw[p];rfl
 have P:∀c,tot (fun n c=>F n c-if n=q.root then g c else 0) (aM (thr q) (bh m q .any)) c=tot (fun n c=>F n c-if n=q.root then g c else 0) m c:=by
  grind [bk,dD]
 constructor
 ·exact S
 ·intro x hx;simp only[aM,agL]at hx;obtain⟨x0,hx0,rfl⟩:=hx;dsimp only;rw[ab]at hx0;rcases px G.keys hx0 with⟨hn,hx1⟩|rfl
  ·have h:=rP (γ':=γ) R B rfl (fun c _=>rfl) (G.roots x0 hx1)
   simp_all
  grind
 ·grind [nN,mA,Mem.keys]
 ·grind [Mem.le1]
 ·intro c hc;rw[P]at hc;exact G.lt c (by grind)
 grind
theorem TZ{w:World}{H H':FH}(d:∀b o v,H b o=some v->H' b o=some v):∀(k:Nat)(s:Sh)(x:D)(g:Fp)(y:Value),OD w H k s x g y ->
  (∀b,g b≠0->∀o v,w.cell? ⟨b,o,none⟩=some v->H' b o=some v)->FDx H' x y:=by
 intro k;induction k with
 |zero=>
  intro s x g y h hw;cases s with
  |fr=>grind [eB,fK]
  |ow sub=>cases x with
   |any=>exact⟨0,trivial⟩
   |_=>simp[OD]at h
 |succ k ih=>
  intro s x g y h hw;cases s with
  |fr=>grind [eB,fK]
  |ow sub=>
   cases x with
   |any=>exact⟨0,trivial⟩
   |li l=>
    rw[e9]at h;rcases h with⟨rfl,rfl,_⟩|⟨b,c,cs,ty,frz,g',h1,h2,h3,h4,h5,h6,h7,h8,h9⟩
    ·exact kX
    ·subst h1;have hb:∀o v,w.cell? ⟨b,o,none⟩=some v->H' b o=some v:=hw b (by grind)
     obtain⟨n,hn⟩:=FX (H:=H') (l:=l) (b:=b) (o:=0) (e:=sub.length) (fun i hi=>by
      have a:l.getD i []=l[i]:=by grind
      refine⟨by grind,fun j hj=>?_⟩;have hk:i*sub.length+j<l.flatten.length:=by
       rw[cM _ _ h7];have:(i+1)*sub.length<=l.length*sub.length:=ag8 _ hi
       grind
      obtain⟨x,hx⟩:∃x,l.flatten[i*sub.length+j]? = some x:=⟨_,af1 hk⟩
      obtain⟨s,v,g2,f,m,a3,a4⟩:=rK h8 hx
      grind [World.cell?,dW])
     exact⟨n+1,j8.2 ⟨some ⟨b,0,none⟩,c,rfl,h5,h6,.inr ⟨b,0,sub.length,rfl,hn⟩⟩⟩
   |int _ _=>simp[OD]at h
   |bool _=>simp[OD]at h
   |str _=>simp[OD]at h
   |mp _=>simp[OD]at h
   |fn _ _=>simp[OD]at h
   |v _=>simp[OD]at h
def upd(f:Nm->α)(n:Nm)(x:α):Nm->α:=fun k=>if k=n then x else f k
theorem fo{f:Nm->α}{x:α}:upd f n x n=x:=by simp[upd]
theorem og{f:Nm->α}{k:Nm}{x:α}(h:k≠n):upd f n x k=f k:=by simp[upd,h]
theorem vL{m:Mm}:ae m n=none ↔ n ∉ m.map (·.1):=by
 induction m<;>grind [ae]
theorem Sd{m:Mm}(h:bZ m q):ae m q.root≠none:=by
 grind [ax]
theorem pY{w:World}{γ:Gam}{m:Mm}{rc:RC}(hn:ae m n=none):Keeps w γ m w (upd γ n rc) ((n,r)::m):=by
 have a:∀q:Pl,bZ m q->q.root≠n:=fun q hq e=>Sd hq (by grind)
 have b:∀k,k≠n->ae ((n,r)::m) k=ae m k:=fun k hk=>by grind [ae]
 constructor
 all_goals grind [ax,plA,og,fh,b9,plV]
theorem SY{F':Nm->Fp}{m:Mm}(h:∀x∈m,F' x.1 b=F x.1 b):tot F' m b=tot F m b:=by
 induction m with
 |nil=>rfl
 |cons x m ih=>
  grind [eG]
theorem DY{w:World}{H:FH}{γ:Gam}{m:Mm}(g:Mem w H γ m F){rc:RC}{r:Root}(hn:ae m n=none)
  (hr:bU w H (upd γ n rc) ((n,r)::m) n r f) (hd:∀b,tot F m b+f b<=1) (hl:∀b,f b≠0->b<w.heap.size/\∀o,H b o=none) :
  Mem w H (upd γ n rc) ((n,r)::m) (upd F n f)/\∀b,tot (upd F n f) ((n,r)::m) b=f b+tot F m b:=by
 have i:=pY (w:=w) (γ:=γ) (rc:=rc) (r:=r) hn
 have c:∀x∈m,x.1≠n:=fun x hx e=>by
  grind [vL]
 have a:∀b,tot (upd F n f) ((n,r)::m) b=f b+tot F m b:=fun b=>by
  rw[eG,fo,SY (fun x hx=>by rw[og (c x hx)])]
 refine⟨⟨g.agree,?_,?_,?_,?_,?_⟩,a⟩
 ·intro x hx;rcases agC.1 hx with rfl|d
  ·grind [fo]
  ·rw[og (c x d)];exact be i (fun _ _ _ h=>h) (og (c x d)) (fun _ _=>rfl) (g.roots x d)
 ·grind [Mem.keys]
 ·grind
 ·grind [Mem.lt]
 ·intro b hb;rw[a]at hb;by_cases h:f b=0
  ·exact g.nofz b kQ1
  grind
def bO(n:Nm)(_:Bool)(p:Pl):Bool:=decide (p.root=n)
theorem mn{m:Mm}{k:Nm}(h:k≠n):ae (cm m n) k=ae m k:=by
 induction m<;>grind [cm,ae]
theorem Ax{m:Mm}(h:x∈cm m n):x∈m:=by
 induction m with
 |nil=>exact h
 |cons y m ih=>
  grind [cm]
theorem AA{m:Mm}(h:(m.map (·.1)).Nodup):((cm m n).map (·.1)).Nodup:=by
 induction m with
 |nil=>exact h
 |cons y m ih=>
  obtain⟨j,z⟩:=y;simp only[af3,ahP]at h;simp only[cm];split
  ·exact h.2
  ·simp only[af3,ahP];refine⟨fun hj=>h.1 ?_,ih h.2⟩;obtain⟨x,hx,e⟩:=agL.1 hj
   grind [Ax]
theorem fY{m:Mm}:tot F (cm m n) b<=tot F m b:=by
 induction m with
 |nil=>exact af2 _
 |cons y m ih=>
  grind [cm,eG]
theorem eY{w:World}{γ:Gam}{m:Mm}:KeepsB (bO n) w γ m w γ (aM (bO n) (cm m n)):=by
 constructor
 all_goals grind [bO,sA,ax,mn,sB,b9]
theorem DZ{w:World}{H:FH}{γ:Gam}{m:Mm}(a:Mem w H γ m F)(n:Nm):Mem w H γ (aM (bO n) (cm m n)) F:=by
 constructor
 ·exact a.agree
 ·intro x hx;simp only[aM,agL]at hx;obtain⟨c,hx0,rfl⟩:=hx;exact rP eY (fun _ _ _ h=>h) rfl (fun _ _=>rfl) (a.roots c (Ax hx0))
 ·rw[nN];exact AA a.keys
 ·grind [bk,fY,Mem.le1]
 ·intro b hb;rw[bk]at hb;exact a.lt b (by grind [fY])
 ·intro b hb;rw[bk]at hb;exact a.nofz b (by grind [fY])
theorem Kg(sub:List Sh)(n m:Nat):(List.replicate (n+m) sub).flatten=(List.replicate n sub).flatten++(List.replicate m sub).flatten:=by
 grind [List.replicate_append_replicate]
theorem yU{w:World}{H:FH}{c:Nat}{l:List (List D)}{g:Fp}{cs:Array Value}{ty:TypeId}{fz:Nat×Nat}
  (h1:w.heap[b]? = some (.cells cs ty fz)) (h2:JI fz cs.size) (h3:cs.size=c*sub.length) (h4:l.length<=c) (h5:l.length<=BIG) (h6:∀x∈l,x.length=sub.length)
  (h7:Cs (OD w H k) (List.replicate l.length sub).flatten l.flatten g cs.toList) :
  OD w H (k+1) (.ow sub) (.li l) (fun d=>g d+if d=b then 1 else 0) (.slice (some ⟨b,0,none⟩) l.length c):=
 e9.2 (.inr ⟨b,c,cs,ty,fz,g,rfl,h1,h2,h3,h4,h5,h6,h7,fun _=>rfl⟩)
theorem lZ{w:World}{H:FH}{l:List (List D)}(h:OD w H (k+1) (.ow sub) (.li l) f y) :
  ∃a c,∃g:Fp,∃vs:List Value,y=.slice a l.length c/\l.length<=c/\l.length<=BIG/\(∀x∈l,x.length=sub.length)/\vs.length=l.length*sub.length/\Cs (OD w H k) (List.replicate l.length sub).flatten l.flatten g vs /\
   ((l=[]/\a=none/\c=0/\∀b,f b=0)\/∃b cs ty fz,a=some ⟨b,0,none⟩/\w.heap[b]? = some (.cells cs ty fz)/\JI fz cs.size/\cs.size=c*sub.length/\vs=cs.toList.take (l.length*sub.length)/\∀d,f d=g d+if d=b then 1 else 0):=by
 rw[e9]at h;rcases h with⟨rfl,rfl,h0⟩|⟨b,c,cs,ty,fz,g,h1,h2,h3,h4,h5,h6,h7,h8,h9⟩
 ·exact⟨none,0,fun _=>0,[],rfl,af2 _,agW _,by simp,by simp,by intro b;rfl,.inl ⟨rfl,rfl,rfl,h0⟩⟩
 ·have e:l.flatten.length=l.length*sub.length:=cM _ _ h7
  have i:l.length*sub.length<=cs.toList.length:=by
   simp_all[ag8]
  exact⟨some ⟨b,0,none⟩,c,g,cs.toList.take (l.length*sub.length),h1,h5,h6,h7,by grind,
   N4 _ _ _ _ _ kQ1 h8,.inr ⟨b,cs,ty,fz,rfl,h2,h3,h4,rfl,h9⟩⟩
theorem xO{n:Nat}{l xs:List (List D)}(h1:∀x∈l,x.length=n)(h2:∀x∈xs,x.length=n):∀x∈l++xs,x.length=n:=by
 grind
theorem Tp{w:World}{H:FH}{l xs:List (List D)}{g gx:Fp}{ws rest:List Value}(h1:∀x∈l,x.length=sub.length)(hv:vs.length=l.length*sub.length)
  (h3:Cs (OD w H k) (List.replicate l.length sub).flatten l.flatten g vs) (h4:Cs (OD w H k) (List.replicate xs.length sub).flatten xs.flatten gx ws) :
  Cs (OD w H k) (List.replicate (l++xs).length sub).flatten (l++xs).flatten (fun b=>g b+gx b) (vs++ws++rest):=by
 grind [Kg,N3,Ce,cM]
def sP:List (Nat×AV)->Nat->AV->List (Nat×AV)
 |[],i,v=>[(i,v)]
 |(k,x)::t,i,v=>if k=i then(k,v)::t else(k,x)::sP t i v
def S.put(s:S):Option Tmp->AV->S
 |none,_=>s
 |some d,v=>{ s with t:=sP s.t d v }
def okD(nt:Nat):Option Tmp->Bool
 |none=>true
 |some d=>decide (d<nt)
theorem iI(t:List (Nat×AV))(d i:Nat)(v:AV):aY (sP t d v) i=if d=i then v else aY t i:=by
 induction t<;>grind [sP,aY]
theorem sg(bad:Bool->Pl->Bool)(t:List (Nat×AV))(i:Nat):aY (oz bad t) i=(aY t i).kill bad:=by
 induction t with
 |nil=>rfl
 |cons x t ih=>
  obtain⟨k,u⟩:=x;simp only[oz,af3,aY];split
  ·rfl
  ·exact ih
theorem WM(a:Act)(d i:Nat)(y:Value)(hd:d<a.tmps.size):(a.put (some d) y).tmps.getD i undef=if d=i then y else a.tmps.getD i undef:=by
 simp only[Act.put,ahM,Array.getElem?_setIfInBounds]
 grind
theorem RX.put{g:G}{s:S}{w:World}{H:FH}{γ:Gam}(h:RX g s a w H γ F){d:Option Tmp}(hd:okD g.nt d=true){v:AV}(hv:AR w H γ s.m v y) :
  RX g (s.put d v) (a.put d y) w H γ F:=by
 cases d with
 |none=>exact h
 |some d=>
  have hd':d<g.nt:=by grind [okD]
  refine⟨h.mem,h.fr,?_,h.df,fun i=>?_⟩
  ·grind [Act.put,nt]
  ·have hs:d<a.tmps.size:=by grind [nt]
   have e:g.tv (a.put (some d) y) i=if d=i then y else g.tv a i:=by
    grind [Act.put,WM,G.tv]
   grind [S.put,iI,t]
def lift(g:G)(Q:Exit->S->Prop):Exit->Act->World->Prop:=fun e a w=>∃s,Q e s/\R g s a w
def AW(P:Program)(g:G)(c:Code)(Q:Exit->S->Prop)(s:S):Prop:=∀a w,R g s a w->c.wp P (lift g Q) a w
def AL(P:Program)(g:G)(ops rest:List Oper)(Q:Exit->S->Prop)(s:S):Prop:=∀a w,R g s a w->wpList P ops.toArray (lift g Q) rest a w
def AO(P:Program)(g:G)(o:Oper)(K:S->Prop)(Q:Exit->S->Prop)(s:S):Prop:=
 ∀a w,R g s a w->o.wp P a w (fun a' w'=>∃s',K s'/\R g s' a' w') (lift g Q)
def Xk(K:S->Prop)(Q:Exit->S->Prop):Exit->S->Prop
 |.normal,s=>K s
 |e,s=>Q e s
def LD(id:Nat)(Q:Exit->S->Prop):Exit->S->Prop
 |.exit a,s=>if a=id then Q .normal s else Q (.exit a) s
 |e,s=>Q e s
variable{Q':Exit->S->Prop}
theorem RU{g:G}{Q:Exit->S->Prop}(h:∀e s,Q e s->Q' e s){e:Exit}{w:World}(hl:lift g Q e a w):lift g Q' e a w:=by
 obtain⟨s,h1,h2⟩:=hl;exact⟨s,h _ _ h1,h2⟩
variable{c:Code}{id:Nat}{o:Oper}{ops rest:List Oper}{want:Bool}
section
variable {P:Program} {g:G} {Q:Exit->S->Prop} {s:S}
theorem AW.mono(h:AW P g c Q s)(hq:∀e s,Q e s->Q' e s):AW P g c Q' s:=
 fun a w hR=>Code.wp_mono (fun _ _ _=>RU hq) (h a w hR)
theorem N1(h:Q .normal s):AW P g .skip Q s:=fun a w b=>wp_skip ⟨s,h,b⟩
theorem abA(h:Q .ret s):AW P g .ret Q s:=fun a w b=>wp_ret ⟨s,h,b⟩
theorem XF(h:Q (.exit id) s):AW P g (.exit id) Q s:=fun a w b=>wp_exit ⟨s,h,b⟩
theorem uZ{x y:Code}(h:AW P g x (Xk (AW P g y Q) Q) s):AW P g (.seq x y) Q s:=fun a w b=>
 wp_seq (Code.wp_mono (fun e a w hl=>by
  obtain⟨s',h1,h2⟩:=hl;cases e with
  |normal=>exact h1 a w h2
  |exit _=>exact⟨s',h1,h2⟩
  |goto _=>exact⟨s',h1,h2⟩
  |ret=>exact⟨s',h1,h2⟩
  |panic _=>exact⟨s',h1,h2⟩
  |outgrown=>exact⟨s',h1,h2⟩) (h a w b))
theorem Td(h:AW P g c (LD id Q) s):AW P g (.block id c) Q s:=fun a w d=>
 wp_block (Code.wp_mono (fun e a w hl=>by
  obtain⟨s',h1,h2⟩:=hl;cases e with
  |exit b=>
   simp only[LD]at h1;simp only[Exit.inBlock];split
   ·rename_i e;rw[if_pos e]at h1;exact⟨s',h1,h2⟩
   ·rename_i e;rw[if_neg e]at h1;exact⟨s',h1,h2⟩
  |normal=>exact⟨s',h1,h2⟩
  |goto _=>exact⟨s',h1,h2⟩
  |ret=>exact⟨s',h1,h2⟩
  |panic _=>exact⟨s',h1,h2⟩
  |outgrown=>exact⟨s',h1,h2⟩) (h a w d))
theorem DU{t:Tmp}{x y:Code}{b:Bool}(hc:aY s.t t=.one (.c (.d (.bool b))))(f:b=true->AW P g x Q s)(hf:b=false->AW P g y Q s)(e:t<TB:=by decide) :
  AW P g (.cond (.tmp t) x y) Q s:=by
 intro a w i;obtain⟨H,γ,F,hX⟩:=i;have h:=hX.t t
 rw[hc,G.tv_lo e]at h;obtain⟨_,m,h⟩:=h;have h':a.tmps.getD t undef=.bool b:=by cases m<;>exact h
 cases b with
 |true=>exact wp_cond_true (by grind [Act.eval]) (f rfl a w ⟨H,γ,F,hX⟩)
 |false=>exact wp_cond_false (by grind [Act.eval]) (hf rfl a w ⟨H,γ,F,hX⟩)
theorem least{p:Nat->Prop}(h:∃n,p n):∃n,p n/\∀m,m<n->¬ p m:=by
 obtain⟨n,hn⟩:=h;induction n using Nat.strongRecOn<;>grind
theorem N0(I:Nat->S->Prop)(k:Nat)(h0:I k s)(f:∀n s,I n s->AW P g c (Xk (fun s'=>∃n',n'<n/\I n' s') Q) s):AW P g (.loop c) Q s:=by
 intro a w l
 let p:Act->World->Nat->Prop:=fun a w n=>∃s,I n s/\R g s a w
 have b:∀a w,(∃n,p a w n)->∃n,p a w n/\∀m,m<n->¬ p a w m:=fun a w h=>least h
 let d:Act->World->Nat:=fun a w=>by
  classical
  exact if h:∃n,p a w n then Classical.choose (b a w h)else 0
 have i:∀a w(h:∃n,p a w n),p a w (d a w)/\∀m,m<d a w->¬ p a w m:=by
  intro a w h;have:d a w=Classical.choose (b a w h):=by simp only[d];rw[dif_pos h]
  rw[this];exact Classical.choose_spec (b a w h)
 refine wp_loop (fun a w=>∃n,p a w n) d ⟨k,s,h0,l⟩ (fun a w o=>?_);obtain⟨⟨s1,h1,h2⟩,_⟩:=i a w o;refine Code.wp_mono (fun e a' w' hl=>?_) (f _ s1 h1 a w h2);obtain⟨s',k1,k2⟩:=hl;cases e with
 |normal=>
  obtain⟨n',k3,k4⟩:=k1;have j:∃n,p a' w' n:=⟨n',s',k4,k2⟩
  refine⟨j,?_⟩;rcases ahN (d a' w') (d a w)with h|h
  ·exact h
  ·exact absurd ⟨s',k4,k2⟩ ((i a' w' j).2 n' kQ1)
 |exit _=>exact⟨s',k1,k2⟩
 |goto _=>exact⟨s',k1,k2⟩
 |ret=>exact⟨s',k1,k2⟩
 |panic _=>exact⟨s',k1,k2⟩
 |outgrown=>exact⟨s',k1,k2⟩
theorem pU{l:List Oper}(h:AL P g l l Q s):AW P g (.region id l.toArray false) Q s:=fun a w b=>wp_region_lit (h a w b)
theorem S4(h:Q .normal s):AL P g ops [] Q s:=fun a w b=>wpList_nil ⟨s,h,b⟩
theorem cu{w:World}{N b:Act->World->Prop}{Q Q':Exit->Act->World->Prop}(hN:∀a w,N a w->b a w)(g:∀e a w,Q e a w->Q' e a w)
  (h:o.wp P a w N Q):o.wp P a w b Q':=by
 unfold Oper.wp at h⊢;cases hr:(execOp a.eval o).run P w with
 |halt x w'=>
  rw[hr]at h;cases x with
  |panic v=>exact g _ _ _ h
  |_=>exact h.elim
 |ok x w'=>
  rw[hr]at h;cases x with
  |value v=>exact hN _ _ h
  |skip=>exact hN _ _ h
  |defer d=>exact hN _ _ h
  |enter f args=>
   simp only[Oper.upon]at h⊢;refine Calls.mono h (fun e i he=>?_);cases e with
   |returned v=>grind
   |panicked c=>grind
   |outgrown=>obtain⟨a0,w0,h0⟩:=he;exact⟨a0,w0,g _ _ _ h0⟩
  |row r args=>
   grind [Oper.upon,Rows.mono]
  |_=>exact h.elim
theorem NU(c:o.guard=none)(h:AO P g o (AL P g ops rest Q) Q s):AL P g ops (o::rest) Q s:=fun a w d=>
 wpList_plain c (fun K b=>cu (fun a' w'⟨s',h1,h2⟩=>b _ _ (h1 a' w' h2)) (fun _ _ _ h=>h) (h a w d))
theorem sV{w:World}{H:FH}{γ:Gam}{m:Mm}:AR w H γ m (.tup []) undef:=⟨#[],rfl,trivial⟩
theorem unyielded{s:S}{w:World}{H:FH}{γ:Gam}{ops:Array Oper}{d:Nat}(hX:RX g s a w H γ F)(hj:((ops[j]?).bind (·.dst))=some d)(hd:aY s.t d=.tup []):yielded ops a.tmps j=none:=by
 have hv:=hX.t d
 rw[hd]at hv;rcases ahN d a.tmps.size with b|b
 rotate_left
 ·grind [yielded]
 rw[G.tv_lt b]at hv;obtain⟨l,e,hl⟩:=hv;have i:l.toList=[]:=by
  cases h:l.toList with
  |nil=>rfl
  |cons x r=>rw[h]at hl;exact hl.elim
 have c:l=#[]:=by grind
 subst c;simp only[yielded,hj,Option.bind_some];cases f:a.tmps[d]? with
 |none=>rfl
 |some x=>
  rw[ahM,f]at e
  grind
theorem KX{ops:List Oper}{d:Nat}(b:o.guard=some (j,want))(hj:((ops[j]?).bind (·.dst))=some d)
  (hd:aY s.t d=.tup []) (ho:okD g.nt o.dst=true) (h:AL P g ops rest Q (s.put o.dst (.tup []))):AL P g ops (o::rest) Q s:=by
 intro a w c;obtain⟨H,γ,F,hX⟩:=c;have hy:=unyielded (ops:=ops.toArray) hX (by simpa using hj) hd
 refine wpList_step (fun K f=>?_);simp only[Region.wanted,b,hy];have e:((none:Option Bool)==some want)=false:=rfl
 rw[e];simp only[agA,if_false];exact f _ _ (h (a.put o.dst undef) w ⟨H,γ,F,hX.put ho sV⟩)
theorem FM{d:Nat}{c:Bool}(q:o.guard=some (j,want))(hj:((ops[j]?).bind (·.dst))=some d)
  (hd:aY s.t d=.one (.c (.d (.bool c)))) (i:okD g.nt (some d)=true) (ho:okD g.nt o.dst=true)
  (h1:c=want->AO P g o (AL P g ops rest Q) Q (s.put (some d) (.one (.c (.d (.bool want))))))
  (h2:c=!want->AL P g ops rest Q ((s.put (some d) (.one (.c (.d (.bool (!want)))))).put o.dst (.tup []))):AL P g ops (o::rest) Q s:=by
 intro a w n;obtain⟨H,γ,F,hX⟩:=n;have hv:=hX.t d
 have f:d<a.tmps.size:=by grind [RX.nt,okD]
 rw[hd,G.tv_lt f]at hv;obtain⟨hz,m,hv⟩:=hv;have p:a.tmps.getD d undef=.bool c:=by cases m<;>exact hv
 have hget:a.tmps[d]? = some (.bool c):=by
  simp_all
 have hy:yielded ops.toArray a.tmps j=some c:=by
  grind [yielded]
 have same:a.put (some d) (.bool c)=a:=by
  simp_all[Act.put,nb]
 have b:RX g (s.put (some d) (.one (.c (.d (.bool c))))) a w H γ F:=by
  have:=hX.put (d:=some d) i (v:=.one (.c (.d (.bool c)))) (y:=.bool c) ⟨fun _=>rfl,0,rfl⟩
  grind
 refine wpList_step (fun K l=>?_);simp only[Region.wanted,q,hy];by_cases hc:c=want
 ·subst hc;simp only[beq_self_eq_true,if_true];exact cu (fun a' w'⟨s',k1,k2⟩=>l _ _ (k1 a' w' k2)) (fun _ _ _ h=>h) (h1 rfl a w ⟨H,γ,F,b⟩)
 ·have k:c=!want:=by cases c<;>cases want<;>simp_all
  subst k;have e:(some (!want)==some want)=false:=by grind
  rw[e];simp only[agA,if_false];exact l _ _ (h2 rfl (a.put o.dst undef) w ⟨H,γ,F,b.put ho sV⟩)
end
abbrev sc(x:D):AV:=.one (.c (.d x))
def ra:Value->T
 |.bool b=>.d (.bool b)
 |.int k n=>.d (.int k n)
 |.string s=>.d (.str s.data.toList)
 |.slice none 0 0=>.nil
 |.pointer none=>.d (.v (.pointer none))
 |.map none=>.d (.mp none)
 |.nilFunc=>.d (.v .nilFunc)
 |.nilIface=>.d (.v .nilIface)
 |.func f a b=>.d (.v (.func f a b))
 |_=>.any
def cst:Value->AV
 |.agg cs=>.one (.agg (cs.toList.map ra))
 |v=>.one (.c (ra v))
def okT:Value->Bool
 |.int k n=>(Lit.int k n).wf
 |.string s=>decide (s.size<=2 ^ 62)
 |_=>true
def okC:Value->Bool
 |.agg cs=>cs.all okT
 |v=>okT v
def aG:Operand->Bool
 |.const v=>okC v
 |.tmp t=>Nat.blt t 100000
 |.global g=>(ru g).isSome
 |_=>true
def ev(s:S):Operand->AV
 |.tmp t=>aY s.t t
 |.const v=>cst v
 |.func f=>sc (.fn f [])
 |.global g=>match ru g with
  |some row=>.one (.c (.el row 0))
  |none=>.any
theorem OT{w:World}{H:FH}{γ:Gam}{m:Mm}{v:Value}(h:okT v=true):TR w H γ m (ra v) (fun _=>0) v:=by
 cases v with
 |bool b=>exact⟨fun _=>rfl,0,rfl⟩
 |int k n=>exact⟨fun _=>rfl,0,rfl,h⟩
 |string s=>
  refine⟨fun _=>rfl,0,?_,?_⟩
  all_goals simp_all[okT,BIG]
 |slice a n c=>
  cases a with
  |none=>cases n with
   |zero=>cases c with
    |zero=>exact⟨fun _=>rfl,rfl⟩
    |succ c=>intro b;rfl
   |succ n=>intro b;rfl
  |some a=>intro b;rfl
 |pointer a=>cases a with
  |none=>exact⟨fun _=>rfl,0,rfl,rfl⟩
  |some a=>intro b;rfl
 |map a=>cases a with
  |none=>exact⟨fun _=>rfl,0,rfl⟩
  |some a=>intro b;rfl
 |nilFunc=>exact⟨fun _=>rfl,0,rfl,rfl⟩
 |nilIface=>exact⟨fun _=>rfl,0,rfl,rfl⟩
 |func f a b=>exact⟨fun _=>rfl,0,rfl,rfl⟩
 |_=>intro b;rfl
theorem za{w:World}{H:FH}{γ:Gam}{m:Mm}:∀{l:List Value},l.all okT=true->Ts (TR w H γ m) (l.map ra) (fun _=>0) l
 |[],_=>fun _=>rfl
 |v::l,h=>by
  simp only[agF,afZ]at h;exact⟨v,l,fun _=>0,fun _=>0,rfl,fun _=>rfl,OT h.1,za h.2⟩
theorem acE{w:World}{H:FH}{γ:Gam}{m:Mm}{v:Value}(h:okC v=true):AR w H γ m (cst v) v:=by
 by_cases hv:∃cs,v=.agg cs
 ·obtain⟨cs,rfl⟩:=hv;exact⟨cs,rfl,by simp,za (by grind [okC])⟩
 ·have e:cst v=.one (.c (ra v))/\okC v=okT v:=by
   cases v with
   |agg cs=>grind
   |_=>exact⟨rfl,rfl⟩
  rw[e.1];exact OT (by grind)
theorem aJ{g:G}{s:S}{w:World}{H:FH}{γ:Gam}(h:RX g s a w H γ F){x:Operand}(hx:aG x=true):AR w H γ s.m (ev s x) (a.eval x):=by
 cases x with
 |tmp t=>
  have:=h.t t
  rw[G.tv_lo (show t<TB from Nat.lt_of_lt_of_le (agD hx) (af2 _))]at this;exact this
 |const v=>exact acE hx
 |global n=>
  cases b:ru n with
  |none=>grind [aG]
  |some row=>
   obtain⟨m,c⟩:=(j9 h).1 n row b;simp only[ev,b];exact⟨fun _=>rfl,n,0,m,rfl,c⟩
 |func f=>exact⟨fun _=>rfl,1,[],rfl,rfl,fun i row y h=>by simp at h⟩
def D.val:D->Option Value
 |.int k n=>some (.int k n)
 |.bool b=>some (.bool b)
 |.str l=>some (.string ⟨l.toArray⟩)
 |.v x=>some x
 |_=>none
theorem fp{H:FH}{k:IntKind}{n:Int}(h:FDx H (.int k n) y):y=.int k n/\(Lit.int k n).wf=true:=by
 obtain⟨m,h⟩:=h;cases m<;>exact h
theorem iZ{H:FH}{b:Bool}(h:FDx H (.bool b) y):y=.bool b:=by
 obtain⟨m,h⟩:=h;cases m<;>exact h
variable{l:List UInt8}
theorem gS{H:FH}(h:FDx H (.str l) y):y=.string ⟨l.toArray⟩/\l.length<=BIG:=by
 obtain⟨m,h⟩:=h;cases m<;>exact h
theorem mZ{w:World}{H:FH}{γ:Gam}{m:Mm}{k:IntKind}{n:Int}(h:AR w H γ m (sc (.int k n)) y):y=.int k n/\(Lit.int k n).wf=true:=fp h.2
theorem xR{w:World}{H:FH}{γ:Gam}{m:Mm}{b:Bool}(h:AR w H γ m (sc (.bool b)) y):y=.bool b:=iZ h.2
theorem DT{w:World}{H:FH}{γ:Gam}{m:Mm}(h:AR w H γ m (sc (.str l)) y):y=.string ⟨l.toArray⟩/\l.length<=BIG:=gS h.2
theorem lV{w:World}{H:FH}{γ:Gam}{m:Mm}{k:IntKind}{n:Int}(h:(Lit.int k n).wf=true):AR w H γ m (sc (.int k n)) (.int k n):=⟨fun _=>rfl,0,rfl,h⟩
theorem gj{w:World}{H:FH}{γ:Gam}{m:Mm}{b:Bool}:AR w H γ m (sc (.bool b)) (.bool b):=⟨fun _=>rfl,0,rfl⟩
theorem pT{w:World}{H:FH}{γ:Gam}{m:Mm}(h:l.length<=BIG):AR w H γ m (sc (.str l)) (.string ⟨l.toArray⟩):=⟨fun _=>rfl,0,rfl,h⟩
theorem S6{P:Program}{g:G}{K:S->Prop}{Q:Exit->S->Prop}{s:S}(hd:okD g.nt o.dst=true)
  (h:∀a w H γ F,RX g s a w H γ F->∃y v,(execOp a.eval o).run P w=.ok (.value y) w/\AR w H γ s.m v y/\K (s.put o.dst v)):AO P g o K Q s:=by
 intro a w ⟨H,γ,F,hX⟩;obtain⟨y,v,h1,h2,h3⟩:=h a w H γ F hX;unfold Oper.wp;rw[h1];exact⟨_,h3,H,γ,F,hX.put hd h2⟩
def vk(op:BinOp):D->D->(D->Prop)->Prop
 |.int k a,.int k' b,K=>
  match op with
  |.add=>k=k'/\K (.int k (k.wrap (a+b)))
  |.sub=>k=k'/\K (.int k (k.wrap (a-b)))
  |.mul=>k=k'/\K (.int k (k.wrap (a*b)))
  |.quo=>k=k'/\b≠0/\K (.int k (k.wrap (a.tdiv b)))
  |.rem=>k=k'/\b≠0/\K (.int k (a.tmod b))
  |.and=>k=k'/\K (.int k (k.wrap (BitVec.ofInt k.bits a &&& BitVec.ofInt k.bits b).toNat))
  |.or=>k=k'/\K (.int k (k.wrap (BitVec.ofInt k.bits a ||| BitVec.ofInt k.bits b).toNat))
  |.xor=>k=k'/\K (.int k (k.wrap (BitVec.ofInt k.bits a ^^^ BitVec.ofInt k.bits b).toNat))
  |.andNot=>k=k'/\K (.int k (k.wrap (BitVec.ofInt k.bits a &&& ~~~BitVec.ofInt k.bits b).toNat))
  |.shl=>0<=b/\K (.int k (k.wrap (a*2 ^ (min b.toNat k.bits))))
  |.shr=>0<=b/\K (.int k (a.fdiv (2 ^ (min b.toNat k.bits))))
  |.eql=>k=k'/\K (.bool (decide (a=b)))
  |.neq=>k=k'/\K (.bool (!decide (a=b)))
  |.lss=>k=k'/\K (.bool (decide (a<b)))
  |.leq=>k=k'/\K (.bool (decide (a<=b)))
  |.gtr=>k=k'/\K (.bool (decide (b<a)))
  |.geq=>k=k'/\K (.bool (decide (b<=a)))
 |.str a,.str b,K=>
  match op with
  |.add=>a.length+b.length<=4611686018427387904/\K (.str (a++b))
  |.eql=>K (.bool (decide (a=b)))
  |.neq=>K (.bool (!decide (a=b)))
  |.lss=>K (.bool (Op.bytesLess a b))
  |.leq=>K (.bool (Op.bytesLess a b||decide (a=b)))
  |.gtr=>K (.bool (!(Op.bytesLess a b||decide (a=b))))
  |.geq=>K (.bool (!Op.bytesLess a b))
  |_=>False
 |_,_,_=>False
theorem uP{a b:Int}(c:0<=a):a.tmod b<=a:=by
 obtain⟨m,rfl⟩:=ahX c;cases b with
 |ofNat n=>
  have:(m:Int).tmod (Int.ofNat n)=((m % n:Nat):Int):=rfl
  rw[this];exact Int.ofNat_le.2 (Nat.mod_le _ _)
 |negSucc n=>
  have:(m:Int).tmod (Int.negSucc n)=((m % (n+1):Nat):Int):=rfl
  rw[this];exact Int.ofNat_le.2 (Nat.mod_le _ _)
theorem Z0{k:IntKind}{a b:Int}(h:(Lit.int k a).wf=true):(Lit.int k (a.tmod b)).wf=true:=by
 simp only[Lit.wf,afZ,decide_eq_true_eq]at h⊢;obtain⟨h1,h2⟩:=h;have d:k.min<=0:=by cases k<;>decide
 have e:0<=k.max:=by cases k<;>decide
 rcases Int.le_total 0 a with c|c
 ·have h3:0<=a.tmod b:=Int.tmod_nonneg b c
  have h4:a.tmod b<=a:=uP c
  omega
 ·have h0:0 <= -a:=by omega
  have h3:0<=(-a).tmod b:=Int.tmod_nonneg b h0
  have h4:(-a).tmod b <= -a:=uP h0
  rw[Int.neg_tmod]at h3 h4;omega
theorem ZZ{k:IntKind}{a:Int}{n:Nat}(h:(Lit.int k a).wf=true):(Lit.int k (a.fdiv (2 ^ n))).wf=true:=by
 simp only[Lit.wf,afZ,decide_eq_true_eq]at h⊢;obtain⟨h1,h2⟩:=h;have c:k.min<=0:=by cases k<;>decide
 have d:0<=k.max:=by cases k<;>decide
 have hp:(0:Int) < 2 ^ n:=Int.pow_pos (by decide)
 have e:a.fdiv (2 ^ n)=a / 2 ^ n:=Int.fdiv_eq_ediv_of_nonneg a kQ1
 rw[e];generalize(2:Int) ^ n=p at *;rcases Int.le_total 0 a with b|b
 ·have h3:0<=a / p:=Int.ediv_nonneg b kQ1
  have h4:a / p<=a:=Int.ediv_le_self _ b
  omega
 ·have h3:a / p<=0:=by
   have:=Int.ediv_le_ediv hp b;simp_all
  have h4:a<=a / p:=by
   refine Int.le_ediv_of_mul_le hp ?_;have h5:(-a)*1<=(-a)*p:=Int.mul_le_mul_of_nonneg_left kQ1 kQ1
   grind
  omega
end Go.Am
end
