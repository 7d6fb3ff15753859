/-
  Part 2: AmState · AmStore · AmPut · AmPutTwo · AmPutThree · AmTake · AmTakeTwo · AmRoots · AmCode · AmOps.
-/
import Derived.Test.YtgpedlcblhiklaaGreatDoorVo1
import Derived.MapKept
set_option linter.unusedSimpArgs false
set_option linter.unusedVariables false
set_option linter.unusedSectionVars false
set_option linter.unnecessarySimpa false
section
namespace Go.Am
inductive RC where
 |blk (b:Nat)
 |gh (v:Value)
 deriving Inhabited
abbrev Gam:=Nm->RC
abbrev Mm:=List (Nm×Root)
def aI(w:World):RC->Nat->Option Value
 |.blk b,k=>w.cell? ⟨b,k,none⟩
 |.gh v,k=>if k=0 then some v else none
def plA(w:World)(γ:Gam)(p:Pl):Option Addr:=
 match p.path with
 |[]=>match γ p.root with|.blk b=>some ⟨b,p.off,none⟩|.gh _=>none
 |st::r=>(aI w (γ p.root) p.off).bind fun y=>bv w y (st::r)
def plV(w:World)(γ:Gam)(p:Pl):Option Value:=
 match p.path with
 |[]=>aI w (γ p.root) p.off
 |st::r=>((aI w (γ p.root) p.off).bind fun y=>bv w y (st::r)).bind w.cell?
def af:Mm->Nm->Option Root
 |[],_=>none
 |(k,r)::m,n=>if k=n then some r else af m n
def cM:Mm->Nm->Root->Mm
 |[],_,_=>[]
 |(k,x)::m,n,r=>if k=n then(k,r)::m else(k,x)::cM m n r
def cv:Mm->Nm->Mm
 |[],_=>[]
 |(k,x)::m,n=>if k=n then m else(k,x)::cv m n
def cj(m:Mm)(p:Pl):Prop:=
 match af m p.root with
 |none=>False
 |some r=>
  match p.path with
  |[]=>p.off<r.cells.length
  |st::q=>match r.cells[p.off]? with
   |some (.ow sub l)=>okO sub l (st::q)
   |_=>False
def iG(m:Mm)(p:Pl):Prop:=
 match af m p.root with
 |none=>False
 |some r=>
  match r.cells[p.off]?,p.path with
  |some (.ow _ _),[]=>True
  |some (.mp _),[]=>True
  |some (.it _ _),[]=>True
  |some (.ow sub l),st::q=>okO sub l (st::q)/\match bJ sub l (st::q)with
   |some (.ow _,.li _)=>True
   |_=>False
  |_,_=>False
def D.isKey:D->Bool
 |.int _ _=>true
 |.bool _=>true
 |.str _=>true
 |_=>false
def MpO(w:World)(H:FH):List (D×Sh×D)->List MapEntry->Fp->Prop
 |[],[],f=>∀b,f b=0
 |x::l,e::es,f=>(x.1.isKey=true/\FDx H x.1 e.key)/\∃f1 a:Fp,∃k,(∀b,f b=f1 b+a b)/\OD w H k x.2.1 x.2.2 f1 e.val/\MpO w H l es a
 |_,_,_=>False
theorem j6{w w':World}{H H':FH}(a:∀b o y,H b o=some y->H' b o=some y):∀{l:List (D×Sh×D)}{es:List MapEntry}{f:Fp},(∀b,f b≠0->w'.heap[b]? = w.heap[b]?)->MpO w H l es f->MpO w' H' l es f
 |[],[],_,_,h=>h
 |_::_,_::_,f,hw,h=>by
  obtain⟨⟨h1,h2⟩,f1,c,k,h3,h4,h5⟩:=h;exact⟨⟨h1,eJ a h2⟩,f1,c,k,h3,cO a k k _ _ _ _ (ai0 _) (fun b hb=>hw b (by grind)) h4,j6 a (fun b hb=>hw b (by grind)) h5⟩
 |[],_::_,_,_,h=>h.elim
 |_::_,[],_,_,h=>h.elim
def ItL(H:FH):List (D×D)->List MapEntry->Prop
 |[],[]=>True
 |x::l,e::es=>(x.1.isKey=true/\FDx H x.1 e.key/\FDx H x.2 e.val)/\ItL H l es
 |_,_=>False
theorem Ib{H H':FH}(a:∀b o y,H b o=some y->H' b o=some y):∀{l:List (D×D)}{es:List MapEntry},ItL H l es->ItL H' l es
 |[],[],h=>h
 |_::_,_::_,h=>⟨⟨h.1.1,eJ a h.1.2.1,eJ a h.1.2.2⟩,Ib a h.2⟩
 |[],_::_,h=>h.elim
 |_::_,[],h=>h.elim
def ItR(H:FH)(cur:Option (D×D))(rest:List (D×D)):Option Nat->Nat->Array Nat->Nat->Prop
 |none,_,_,_=>cur=none/\rest=[]
 |some m,b,a,last=>∃es ck,H m 0=some (.m es ck)/\b=ck/\last=ck/\ItL H rest (es.toList.filter fun e=>!a.contains e.born) /\
   match cur with
   |none=>True
   |some x=>∃(c:Array Nat)(e:MapEntry),a=c.push e.born/\e∈es.toList/\x.1.isKey=true/\FDx H x.1 e.key/\FDx H x.2 e.val
theorem Ic{H H':FH}(d:∀b o y,H b o=some y->H' b o=some y){cur:Option (D×D)}{rest:List (D×D)}:∀{m:Option Nat}{a:Nat}{s:Array Nat}{c:Nat},ItR H cur rest m a s c->ItR H' cur rest m a s c
 |none,_,_,_,h=>by obtain⟨h1,h2⟩:=h;exact⟨h1,h2⟩
 |some m,_,_,_,⟨es,ck,h1,h2,h3,h4,h5⟩=>⟨es,ck,d _ _ _ h1,h2,h3,Ib d h4,by
  grind [eJ]⟩
def TR(w:World)(H:FH)(γ:Gam)(m:Mm):T->Fp->Value->Prop
 |.d x,f,y=>(∀b,f b=0)/\FDx H x y
 |.nil,f,y=>(∀b,f b=0)/\y=.slice none 0 0
 |.ow sub l,f,y=>∃k,OD w H k (.ow sub) (.li l) f y
 |.mp l,f,y=>∃b es ck,∃g:Fp,y=.map (some b)/\w.heap[b]? = some (.map es ck)/\MapKept.Stamped es ck/\MpO w H l es.toList g/\∀c,f c=g c+if c=b then 1 else 0
 |.it cur rest,f,y=>∃r m a s c,y=.pointer (some ⟨r,0,none⟩)/\w.heap[r]? = some (.mapIter m a s c)/\ItR H cur rest m a s c/\∀k,f k=if k=r then 1 else 0
 |.el row off,f,y=>(∀b,f b=0)/\∃b o k,y=.pointer (some ⟨b,o+off,none⟩)/\BN H k row b o
 |.pl p,f,y=>(∀b,f b=0)/\cj m p/\∃a,plA w γ p=some a/\y=.pointer (some a)
 |.rf p,f,y=>(∀b,f b=0)/\iG m p/\plV w γ p=some y
 |.any,f,_=>∀b,f b=0
def Ts(R:T->Fp->Value->Prop)(ts:List T)(f:Fp)(vs:List Value):Prop:=
 Cs (fun(_:Unit) t=>R t) (List.replicate ts.length ()) ts f vs
def Nm.tyd:Nm->Option TypeId
 |.loc i=>if i < 1000000 then none else some (i / 1000000)
 |.out i=>if i < 1000000 then none else some (i / 1000000)
 |.gh _=>none
def okR(n:Nm)(ty:TypeId)(fz:Nat×Nat)(sz:Nat):Prop:=KB fz sz/\∀t,n.tyd=some t->ty=t
def bZ(w:World)(H:FH)(γ:Gam)(m:Mm)(n:Nm)(r:Root)(f:Fp):Prop:=
 if r.blk then ∃b cs ty fz,∃g:Fp,γ n=.blk b/\w.heap[b]? = some (.cells cs ty fz)/\okR n ty fz cs.size/\cs.size=r.cells.length /\
  Ts (TR w H γ m) r.cells g cs.toList/\∀k,f k=g k+if k=b then 1 else 0
 else ∃v t,γ n=.gh v/\r.cells=[t]/\TR w H γ m t f v
def tot(F:Nm->Fp):Mm->Fp
 |[],_=>0
 |x::m,b=>F x.1 b+tot F m b
def RdV(w:World)(b o:Nat):HV->Prop
 |.c y=>w.cell? ⟨b,o,none⟩=some y
 |.m es ck=>w.heap[b]? = some (.map es ck)/\MapKept.Stamped es ck
variable{b:Nat}
theorem RdV.lt{w:World}{o:Nat}:∀{y:HV},RdV w b o y->b<w.heap.size
 |.c _,h=>World.block_lt_of_cell? _ _ h
 |.m _ _,h=>(Array.getElem?_eq_some_iff.1 h.1).1
theorem RdV.frame{w w':World}{o:Nat}:∀{y:HV},RdV w b o y->w'.heap[b]? = w.heap[b]? -> RdV w' b o y
 |.c y,h,e=>by
  have h:w.cell? ⟨b,o,none⟩=some y:=h
  show w'.cell? ⟨b,o,none⟩=some y
  grind [World.cell?]
 |.m _ _,h,e=>⟨e.trans h.1,h.2⟩
structure Mem (w:World) (H:FH) (γ:Gam) (m:Mm) (F:Nm->Fp):Prop where
 agree:∀b o y,H b o=some y->RdV w b o y
 roots:∀x∈m,bZ w H γ m x.1 x.2 (F x.1)
 keys:(m.map (·.1)).Nodup
 le1:∀b,tot F m b<=1
 lt:∀b,tot F m b≠0->b<w.heap.size
 nofz:∀b,tot F m b≠0->∀o,H b o=none
def AR1(w:World)(H:FH)(γ:Gam)(m:Mm):AV1->Value->Prop
 |.c t,y=>TR w H γ m t (fun _=>0) y
 |.agg ts,y=>∃cs,y=.agg cs/\cs.size=ts.length/\Ts (TR w H γ m) ts (fun _=>0) cs.toList
def ARs(w:World)(H:FH)(γ:Gam)(m:Mm):List AV1->List Value->Prop
 |[],[]=>True
 |x::xs,y::a=>AR1 w H γ m x y/\ARs w H γ m xs a
 |_,_=>False
def AR(w:World)(H:FH)(γ:Gam)(m:Mm):AV->Value->Prop
 |.one x,y=>AR1 w H γ m x y
 |.tup xs,y=>∃l,y=.tuple l/\ARs w H γ m xs l.toList
 |.any,_=>True
structure S where
 t:List (Nat×AV)
 m:Mm
structure G where
 nt:Nat
 w0:World
 H0:FH
 own0:Fp
 out:Nat->Option Nat
 ex:Option (Nat->Value)
 dfs:List Deferred
def TB:Nat:=100000
def Thawed(w:World)(b:Nat):Prop:=∃cs ty,w.heap[b]? = some (.cells cs ty (0,0))
theorem Thawed.of_block{w w':World}(h:Thawed w b)(e:w'.heap[b]? = w.heap[b]?):Thawed w' b:=by
 obtain⟨cs,ty,h⟩:=h;exact⟨cs,ty,e.trans h⟩
theorem Thawed.lt{w:World}(h:Thawed w b):b<w.heap.size:=by
 obtain⟨cs,ty,h⟩:=h;grind
theorem qY{w:World}{H:FH}:(∀b,Thawed w b->Thawed w b)/\∀b o x l c,H b o=some (.c (.slice x l c))->H b o=none->Thawed w b:=
 ⟨fun _ h=>h,fun b o x l c h1 h2=>by grind⟩
variable{α β:Type}
theorem OW{R:α->β->Fp->Value->Prop}:∀(a:List α)(xs:List β)(f:Fp)(vs:List Value),Cs R a xs f vs->∀b,f b≠0->∃s x g v,R s x g v/\g b≠0
 |[],[],_,_,h,b,hb=>absurd (h b) hb
 |s::a,x::xs,f,vs,h,b,hb=>by
  obtain⟨v,r,f1,c,_,hf,h1,h2⟩:=h;by_cases h0:f1 b=0
  ·exact OW a xs c r h2 b (by grind)
  grind
 |[],_::_,_,_,h,_,_=>h.elim
 |_::_,[],_,_,h,_,_=>h.elim
theorem Pz{w:World}{H:FH}:∀(k:Nat)(s:Sh)(x:D)(f:Fp)(y:Value),OD w H k s x f y->∀b,f b≠0->Thawed w b:=by
 intro k;induction k with
 |zero=>
  intro s x f y h b hb;cases s with
  |fr=>grind [fZ]
  |ow sub=>
   cases x with
   |any=>exact absurd (h b) hb
   |_=>simp[OD]at h
 |succ k ih=>
  intro s x f y h b hb;cases s with
  |fr=>grind [fZ]
  |ow sub=>
   cases x with
   |li l=>
    rw[fq]at h;rcases h with h|⟨b',c,cs,ty,fr,g,_,h2,h3,_,_,_,_,h8,h9⟩
    ·grind
    ·by_cases e:b=b'
     ·subst e;have h3:fr=(0,0):=h3
      subst h3;exact⟨cs,ty,h2⟩
     ·obtain⟨s,x,g',v,r1,r2⟩:=OW _ _ _ _ h8 b (by grind)
      grind
   |any=>exact absurd (h b) hb
   |_=>simp[OD]at h
structure Fr (w0:World) (H0:FH) (own0:Fp) (w:World) (H:FH) (tt:Fp):Prop where
 size:w0.heap.size<=w.heap.size
 os:w.os=w0.os
 tape:w.tape=w0.tape
 output:w.output=w0.output
 block:∀k,k<w0.heap.size->own0 k=0->w.heap[k]? = w0.heap[k]?
 hold:∀b o y,H0 b o=some y->H b o=some y
 hnew:∀b o,H b o≠none->H0 b o=none->own0 b≠0\/w0.heap.size<=b
 tt:∀b,tt b≠0->own0 b≠0\/w0.heap.size<=b
 /-- blocks that may be written stay so; new frozen slices lie in such -/
 nz:(∀b,Thawed w0 b->Thawed w b)/\∀b o x l c,H b o=some (.c (.slice x l c))->H0 b o=none->Thawed w b
def G.tv(g:G)(a:Act)(i:Nat):Value:=match g.ex with
 |none=>a.tmps.getD i undef
 |some f=>if i<TB\/i<a.tmps.size then a.tmps.getD i undef else f (i-TB)
variable{a:Act}{i:Nat}
theorem G.tv_lo{g:G}(h:i<TB):g.tv a i=a.tmps.getD i undef:=by
 grind [G.tv]
theorem G.tv_lt{g:G}(h:i<a.tmps.size):g.tv a i=a.tmps.getD i undef:=by
 grind [G.tv]
theorem G.tv_none{g:G}(h:g.ex=none)(a:Act)(i:Nat):g.tv a i=a.tmps.getD i undef:=by
 grind [G.tv]
def bd:List (Nat×AV)->Nat->AV
 |[],_=>.any
 |(k,v)::t,i=>if k=i then v else bd t i
def Globs(H:FH):Prop:=(∀k row,rO k=some row->∃m,BN H m row k 0)/\∀k,abM=some k->∃n m,BN H m [.int .i64 n] k 0
theorem y6{H H':FH}(c:∀b o y,H b o=some y->H' b o=some y)(h:Globs H):Globs H':=
 ⟨fun k row e=>(fun⟨m,a⟩=>⟨m,mj c a⟩) (h.1 k row e),fun k e=>(fun⟨n,m,a⟩=>⟨n,m,mj c a⟩) (h.2 k e)⟩
structure RX (g:G) (s:S) (a:Act) (w:World) (H:FH) (γ:Gam) (F:Nm->Fp):Prop where
 mem:Mem w H γ s.m F
 fr:Fr g.w0 g.H0 g.own0 w H (tot F s.m)
 nt:a.tmps.size=g.nt
 df:a.defers=g.dfs/\(∀j b,g.out j=some b->γ (.out j)=.blk b)/\Globs g.H0
 t:∀i,AR w H γ s.m (bd s.t i) (g.tv a i)
variable{F:Nm->Fp}
theorem kl{g:G}{s:S}{w:World}{H:FH}{γ:Gam}(h:RX g s a w H γ F):Globs H:=y6 h.fr.hold h.df.2.2
def R(g:G)(s:S)(a:Act)(w:World):Prop:=∃H γ F,RX g s a w H γ F
variable{n:Nm}{r:Root}
theorem ak{m:Mm}(h:af m n=some r):(n,r)∈m:=by
 induction m<;>grind [af]
variable{x:Nm×Root}
theorem bX{m:Mm}(h:x∈m)(b:Nat):F x.1 b<=tot F m b:=by
 induction m<;>grind [tot]
theorem dK{w w':World}{o:Nat}(h:w'.heap[b]? = w.heap[b]?):w'.cell? ⟨b,o,none⟩=w.cell? ⟨b,o,none⟩:=by
 grind [World.cell?]
theorem LH{w w':World}{H:FH}:∀(p:List Step)(k:Nat)(sub:List Sh)(l:List (List D))(f:Fp)(y:Value),
  OD w H k (.ow sub) (.li l) f y->okO sub l p->(∀b,f b≠0->w'.heap[b]? = w.heap[b]?)->bv w' y p=bv w y p:=by
 intro p;induction p with
 |nil=>intro k sub l f y _ h;exact h.elim
 |cons st r ih=>
  intro k sub l f y h d hw;cases r with
  |nil=>
   cases y with
   |slice a _ _=>
    cases a with
    |none=>rfl
    |some a=>obtain⟨b,o,sp⟩:=a;cases sp<;>rfl
   |_=>rfl
  |cons t u=>
   cases k with
   |zero=>simp[OD]at h
   |succ k=>
   rw[fq]at h;rcases h with⟨_,rfl,_⟩|⟨b,c,cs,ty,frz,g,h1,h2,h3,h4,h5,h6,h7,h8,h9⟩
   ·rfl
   subst h1;obtain⟨⟨hi,he,ho⟩,d⟩:=d;have hb:w'.heap[b]? = w.heap[b]? := hw b (by grind)
   have hk:st.idx*sub.length+st.off<l.flatten.length:=by
    rw[cR _ _ h7];have:(st.idx+1)*sub.length<=l.length*sub.length:=aj2 _ hi
    grind
   obtain⟨s,x,v,e,fr,i,j,a3,a4,a5,_,_⟩:=cV _ _ _ _ _ h8 hk
   grind [eA,World.cell?,bv]
variable{f:Fp}{k:Nat}{vs:List Value}
theorem r9{R:α->β->Fp->Value->Prop}{a:List α}{xs:List β}(h:Cs R a xs f vs){x:β}(hx:xs[k]? = some x) :
  ∃s v,∃g:Fp,a[k]? = some s/\vs[k]? = some v/\R s x g v/\∀b,g b<=f b:=by
 have hk:k<xs.length:=by
  grind
 obtain⟨s,x',v,c,fr,e,d,a3,a4,a5,_,_⟩:=cV _ _ _ _ _ h hk
 grind
theorem eB{w:World}{H:FH}{γ:Gam}{m:Mm}(h:bZ w H γ m n r f){t:T}(hk:r.cells[k]? = some t) :
  ∃v,∃g:Fp,aI w (γ n) k=some v/\TR w H γ m t g v/\∀b,g b<=f b:=by
 unfold bZ at h;split at h
 ·obtain⟨b,cs,ty,fz,g,h1,h2,h3,h4,h5,h6⟩:=h;obtain⟨s,v,g',c,a,a3,a4⟩:=r9 h5 hk
  grind [aI,World.cell?]
 ·obtain⟨v,t',h1,h2,h3⟩:=h;rw[h2]at hk;cases k with
  |zero=>
   obtain rfl:t'=t:=by grind
   exact⟨v,f,by rw[h1];rfl,h3,fun _=>ai0 _⟩
  |succ k=>grind
theorem wA{w w':World}{H:FH}{γ:Gam}{m:Mm}{F:Nm->Fp}(h:Mem w H γ m F){p:Pl}(a:cj m p)
  (hw:∀b,F p.root b≠0->w'.heap[b]? = w.heap[b]?):plA w' γ p=plA w γ p/\plV w' γ p=plV w γ p:=by
 obtain⟨n,off,path⟩:=p;unfold cj at a;cases hr:af m n with
 |none=>grind
 |some r=>
  simp only[hr]at a;have d:=h.roots _ (ak hr)
  have e:aI w' (γ n) off=aI w (γ n) off:=by
   grind [aI,dK,bZ]
  cases path with
  |nil=>exact⟨rfl,by grind [plV]⟩
  |cons st q=>
   dsimp only at a;cases f:r.cells[off]? with
   |none=>grind
   |some t=>
    rw[f]at a;cases t with
    |ow sub l=>
     obtain⟨v,g,i,c2,c3⟩:=eB d f;dsimp only at i c3;obtain⟨k,c2⟩:=c2;have c:bv w' v (st::q)=bv w v (st::q):=LH (st::q) k sub l g v c2 a (fun b hb=>hw b (by grind))
     refine⟨by grind [plA],?_⟩;simp only[plV,e,i,Option.bind_some,c];have j:∀b,g b<=1:=fun b=>by have:=c3 b;have:=h.le1 b;have:=bX (F:=F) (ak hr) b;grind
     grind [nu,dK]
    |_=>grind
variable{j:Nat}
theorem Dm{l:List (List D)}{i' j':Nat}{y:D}(hi:i<l.length)(hj:j < (l.getD i []).length) :
  ((l.set i ((l.getD i []).set j y)).getD i' []).getD j' default=if i=i'/\j=j' then y else(l.getD i' []).getD j' default:=by
 grind
def wfO:Nat->List Sh->List (List D)->Prop
 |0,_,_=>True
 |n+1,sub,l=>(∀x∈l,x.length=sub.length)/\∀i j s l',sub[j]? = some (.ow s)->(l.getD i []).getD j default=.li l'->wfO n s l'
theorem Ez{w:World}{H:FH}:∀(n m:Nat)(sub:List Sh)(l:List (List D))(f:Fp)(y:Value),OD w H m (.ow sub) (.li l) f y->wfO n sub l:=by
 intro n;induction n with
 |zero=>intros;trivial
 |succ n ih=>
  intro m sub l f y h;cases m with
  |zero=>simp[OD]at h
  |succ m=>
  rw[fq]at h;rcases h with⟨rfl,_,_⟩|⟨b,c,cs,ty,frz,g,h1,h2,h3,h4,h5,h6,h7,h8,h9⟩
  ·exact⟨by simp,fun i j s l' _ h=>by simp[List.getD]at h;cases h⟩
  refine⟨h7,fun i j s l' hs hx=>?_⟩;by_cases hi:i<l.length
  ·have ho:j<sub.length:=by
    grind
   have hk:i*sub.length+j<l.flatten.length:=by
    rw[cR _ _ h7];have:(i+1)*sub.length<=l.length*sub.length:=aj2 _ hi
    grind
   obtain⟨s',x,v,a,fr,k,d,a3,a4,a5,_,_⟩:=cV _ _ _ _ _ h8 hk
   grind [eA]
  have e:l.getD i []=[]:=by grind
  rw[e]at hx;simp[List.getD]at hx;cases hx
theorem KD:∀(q p:List Step)(n:Nat)(sub:List Sh)(l:List (List D))(x:D),q.length+p.length<=n->wfO n sub l->okO sub l q->okO sub l p ->
  (∀s l',bJ sub l p≠some (.ow s,.li l')) ->
  okO sub (cx sub l x p) q/\∀s l',bJ sub l q=some (.ow s,.li l')->∃g,bJ sub (cx sub l x p) q=some (.ow s,.li g):=by
 intro q;induction q with
 |nil=>intro p n sub l x _ _ h;exact h.elim
 |cons st r ih=>
  intro p n sub l x hn k hq hp hno;cases p with
  |nil=>exact hp.elim
  |cons a d=>
  cases n with
  |zero=>grind
  |succ n=>
  obtain⟨w,o⟩:=k;have v:st.idx<l.length/\st.esz=sub.length/\st.off<sub.length:=by
   cases r with
   |nil=>exact hq
   |cons _ _=>exact hq.1
  have c:a.idx<l.length/\a.esz=sub.length/\a.off<sub.length:=by
   cases d with
   |nil=>exact hp
   |cons _ _=>exact hp.1
  obtain⟨hi,he,ho⟩:=v;obtain⟨m,A,C⟩:=c;have e:a.off < (l.getD a.idx []).length:=by
   grind
  have key:∃y,cx sub l x (a::d)=l.set a.idx ((l.getD a.idx []).set a.off y) /\
    (a.idx=st.idx->a.off=st.off->∀s2 l2,sub[st.off]? = some (.ow s2)->(l.getD st.idx []).getD st.off default=.li l2 ->
     ∃t u,d=t::u/\y=.li (cx s2 l2 x (t::u))/\okO s2 l2 (t::u)/\∀s l',bJ s2 l2 (t::u)≠some (.ow s,.li l')):=by
   cases d with
   |nil=>
    refine⟨x,rfl,fun B z s2 l2 h1 h2=>?_⟩
    grind [bJ]
   |cons t u=>
    obtain⟨_,hp⟩:=hp;cases hs:sub[a.off]? with
    |none=>grind
    |some s0=>
     rw[hs]at hp;cases s0 with
     |fr=>grind
     |ow s2=>
      cases hd:(l.getD a.idx []).getD a.off default with
      |li l2=>
       rw[hd]at hp;refine⟨.li (cx s2 l2 x (t::u)),by grind [cx],fun B z E F h1 h2=>?_⟩
       grind [bJ]
      |_=>grind
  obtain⟨y,b,f⟩:=key;rw[b];have hget:=fun i' j'=>Dm (l:=l) (i:=a.idx) (j:=a.off) (i':=i') (j':=j') (y:=y) m e
  cases r with
  |nil=>
   refine⟨⟨by grind,he,ho⟩,fun s l' h=>?_⟩
   grind [bJ]
  |cons t u=>
   grind [okO,bJ]
theorem NU:∀(r a:List Step)(sub:List Sh)(l:List (List D)),r≠[]->a≠[]->okO sub l (r++a) ->
  okO sub l r/\∃s l',bJ sub l r=some (.ow s,.li l'):=by
 intro r;induction r with
 |nil=>grind
 |cons st u ih=>
  intro a sub l _ b h;cases u with
  |nil=>
   cases a with
   |nil=>grind
   |cons t v=>
    obtain⟨h1,h2⟩:=h;refine⟨h1,?_⟩;cases hs:sub[st.off]? with
    |none=>grind
    |some s0=>
     simp only[hs]at h2;cases s0 with
     |fr=>grind
     |ow s2=>
      cases hd:(l.getD st.idx []).getD st.off default with
      |li l2=>simp_all[bJ]
      |_=>grind
  |cons t v=>
   obtain⟨h1,h2⟩:=h;cases hs:sub[st.off]? with
   |none=>grind
   |some s0=>
    simp only[hs]at h2;cases s0 with
    |fr=>grind
    |ow s2=>
     cases hd:(l.getD st.idx []).getD st.off default with
     |li l2=>
      rw[hd]at h2;obtain⟨g1,s,l',g2⟩:=ih a s2 l2 (by simp) b h2;refine⟨⟨h1,?_⟩,s,l',?_⟩
      all_goals grind [bJ]
     |_=>grind
theorem LI{w w':World}{A:Addr}(hw:∀a,a≠A->w'.cell? a=w.cell? a):∀(p:List Step)(y:Value),
  (∀r d,p=r++d->r≠[]->d≠[]->bv w y r≠some A)->bv w' y p=bv w y p:=by
 intro p;induction p with
 |nil=>
  intro y _;cases y with
  |slice a _ _=>
   cases a with
   |none=>rfl
   |some a=>obtain⟨b,o,sp⟩:=a;cases sp<;>rfl
  |_=>rfl
 |cons st r ih=>
  intro y h;cases r with
  |nil=>
   cases y with
   |slice a _ _=>
    cases a with
    |none=>rfl
    |some a=>obtain⟨b,o,sp⟩:=a;cases sp<;>rfl
   |_=>rfl
  |cons t u=>
   cases y with
   |slice a n c=>
    cases a with
    |none=>rfl
    |some a=>
     obtain⟨b,o,sp⟩:=a;cases sp with
     |some k=>rfl
     |none=>
      have h1:bv w (.slice (some ⟨b,o,none⟩) n c) [st]≠some A:=h [st] (t::u) rfl (by simp) (by simp)
      simp only[bv]at h1⊢;rw[hw _ (fun e=>h1 (by rw[e]))]
      grind [bv]
   |_=>rfl
structure Keeps (w:World) (γ:Gam) (m:Mm) (w':World) (γ':Gam) (m':Mm):Prop where
 pl:∀q,cj m q->cj m' q/\plA w' γ' q=plA w γ q
 rf:∀q,iG m q->iG m' q/\plV w' γ' q=plV w γ q
theorem jm{w w':World}{H H':FH}{γ γ':Gam}{m m':Mm}(i:Keeps w γ m w' γ' m')(e:∀b o y,H b o=some y->H' b o=some y)
  {t:T} {f:Fp} {y:Value} (hw:∀b,f b≠0->w'.heap[b]? = w.heap[b]?) (h:TR w H γ m t f y):TR w' H' γ' m' t f y:=by
 cases t with
 |d x=>exact⟨h.1,eJ e h.2⟩
 |nil=>exact h
 |ow sub l=>obtain⟨k,h⟩:=h;exact⟨k,cO e k k _ _ _ _ (ai0 _) hw h⟩
 |mp l=>obtain⟨b,es,ck,g,h1,h2,h3,h4,h5⟩:=h;exact⟨b,es,ck,g,h1,by grind,h3,j6 e (fun c hc=>hw c (by grind)) h4,h5⟩
 |it cur rest=>obtain⟨r,m,a,s,c,h1,h2,h3,h4⟩:=h;exact⟨r,m,a,s,c,h1,by grind,Ic e h3,h4⟩
 |el row off=>obtain⟨h0,b,o,k,h1,h2⟩:=h;exact⟨h0,b,o,k,h1,mj e h2⟩
 |pl p=>obtain⟨h0,h1,a,h2,h3⟩:=h;obtain⟨k1,k2⟩:=i.pl p h1;exact⟨h0,k1,a,by grind,h3⟩
 |rf p=>obtain⟨h0,h1,h2⟩:=h;obtain⟨k1,k2⟩:=i.rf p h1;exact⟨h0,k1,by grind⟩
 |any=>exact h
theorem pb{w w':World}{H H':FH}{γ γ':Gam}{m m':Mm}(a:Keeps w γ m w' γ' m')(d:∀b o y,H b o=some y->H' b o=some y)
  {ts:List T} {f:Fp} {vs:List Value} (hw:∀b,f b≠0->w'.heap[b]? = w.heap[b]?) (h:Ts (TR w H γ m) ts f vs):Ts (TR w' H' γ' m') ts f vs:=
 lh _ _ _ _ (fun _ _ g _ e c=>jm a d (fun b hb=>hw b (by grind)) c) h
theorem Cn{w w':World}{H H':FH}{γ γ':Gam}{m m':Mm}(a:Keeps w γ m w' γ' m')(d:∀b o y,H b o=some y->H' b o=some y)
  {x:AV1} {y:Value} (h:AR1 w H γ m x y):AR1 w' H' γ' m' x y:=by
 cases x with
 |c t=>exact jm a d (fun b hb=>absurd rfl hb) h
 |agg ts=>obtain⟨cs,h1,h2,h3⟩:=h;exact⟨cs,h1,h2,pb a d (fun b hb=>absurd rfl hb) h3⟩
theorem Co{w w':World}{H H':FH}{γ γ':Gam}{m m':Mm}(c:Keeps w γ m w' γ' m')(d:∀b o y,H b o=some y->H' b o=some y) :
  ∀{xs:List AV1}{a:List Value},ARs w H γ m xs a->ARs w' H' γ' m' xs a
 |[],[],_=>trivial
 |_::_,_::_,h=>⟨Cn c d h.1,Co c d h.2⟩
 |[],_::_,h=>h.elim
 |_::_,[],h=>h.elim
theorem dy{w w':World}{H H':FH}{γ γ':Gam}{m m':Mm}(a:Keeps w γ m w' γ' m')(c:∀b o y,H b o=some y->H' b o=some y)
  {x:AV} {y:Value} (h:AR w H γ m x y):AR w' H' γ' m' x y:=by
 cases x with
 |one x=>exact Cn a c h
 |tup xs=>obtain⟨l,h1,h2⟩:=h;exact⟨l,h1,Co a c h2⟩
 |any=>trivial
theorem bh{w w':World}{H H':FH}{γ γ':Gam}{m m':Mm}(a:Keeps w γ m w' γ' m')(d:∀b o y,H b o=some y->H' b o=some y)
  {n:Nm} {r:Root} {f:Fp} (e:γ' n=γ n) (hw:∀b,f b≠0->w'.heap[b]? = w.heap[b]?) (h:bZ w H γ m n r f):bZ w' H' γ' m' n r f:=by
 unfold bZ at h⊢;split at h
 ·rename_i hb;rw[if_pos hb];obtain⟨b,cs,ty,fz,g,h1,h2,h3,h4,h5,h6⟩:=h;exact⟨b,cs,ty,fz,g,by grind,by grind,h3,h4,
   pb a d (fun c hc=>hw c (by grind)) h5,h6⟩
 grind [jm]
theorem gH{w w':World}{H:FH}{γ:Gam}{m:Mm}{F:Nm->Fp}(d:Mem w H γ m F)(hw:∀b,tot F m b≠0->w'.heap[b]? = w.heap[b]?):Keeps w γ m w' γ m:=by
 have c:∀q:Pl,cj m q->∀b,F q.root b≠0->w'.heap[b]? = w.heap[b]? := by
  intro q hq b hb;unfold cj at hq;cases hr:af m q.root with
  |none=>grind
  |some r=>exact hw b (by have:=bX (F:=F) (ak hr) b;grind)
 have a:∀q:Pl,iG m q->cj m q:=by
  grind (splits:=20) [iG,cj]
 exact⟨fun q hq=>⟨hq,(wA d hq (c q hq)).1⟩,fun q hq=>⟨hq,(wA d (a q hq) (c q (a q hq))).2⟩⟩
theorem fC{m:Mm}{q:Pl}(hq:iG m q):cj m q:=by
 grind (splits:=20) [iG,cj]
def aZ(m:Mm)(p:Pl):Option T:=
 match af m p.root with
 |none=>none
 |some r=>
  match p.path with
  |[]=>r.cells[p.off]?
  |st::q=>match r.cells[p.off]? with
   |some (.ow sub l)=>match bJ sub l (st::q)with
    |some (.fr,x)=>some (.d x)
    |some (.ow s,.li l')=>some (.ow s l')
    |some (.ow _,_)=>some .any
    |none=>none
   |_=>none
theorem eT{m:Mm}:tot F (x::m) b=F x.1 b+tot F m b:=rfl
theorem vi{m:Mm}{y:Nm×Root}(hx:x∈m)(hy:y∈m)(hn:x.1≠y.1)(b:Nat):F x.1 b+F y.1 b<=tot F m b:=by
 induction m<;>grind [eT,bX]
theorem A3{w:World}{H:FH}{γ:Gam}{m:Mm}{F:Nm->Fp}(f:Mem w H γ m F){p:Pl}(c:cj m p){a:Addr}(j:plA w γ p=some a) :
  F p.root a.block≠0/\a.spot=none:=by
 obtain⟨n,off,path⟩:=p;unfold cj at c;cases hr:af m n with
 |none=>grind
 |some r=>
  simp only[hr]at c;have d:=f.roots _ (ak hr)
  cases path with
  |nil=>
   grind [bZ,plA]
  |cons st q=>
   dsimp only at c;cases e:r.cells[off]? with
   |none=>grind
   |some t=>
    rw[e]at c;cases t with
    |ow sub l=>
     obtain⟨v,g,i,⟨k,c2⟩,c3⟩:=eB d e;dsimp only at i c3;have h:∀b,g b<=1:=fun b=>by have:=c3 b;have:=f.le1 b;have:=bX (F:=F) (ak hr) b;grind
     grind [nu,plA]
    |_=>grind
theorem abY{w:World}{H:FH}{γ:Gam}{m:Mm}{F:Nm->Fp}(x:Mem w H γ m F){p q:Pl}(hp:cj m p)(hq:cj m q){a:Addr}
  (K:plA w γ p=some a) (hb:plA w γ q=some a) :
  p.root=q.root/\p.off=q.off/\p.path.map (fun s=>(s.idx,s.off))=q.path.map (fun s=>(s.idx,s.off)):=by
 have J:=A3 x hp K
 have I:=A3 x hq hb
 obtain⟨n,off,path⟩:=p;obtain⟨n',d,f⟩:=q;by_cases hn:n=n'
 ·subst hn;refine⟨rfl,?_⟩;unfold cj at hp hq;cases hr:af m n with
  |none=>grind
  |some r=>
   simp only[hr]at hp hq;have c:=x.roots _ (ak hr)
   have B:∀b,F n b<=1:=fun b=>by have:=x.le1 b;have:=bX (F:=F) (ak hr) b;grind
   have blk:∀(off:Nat)(sub:List Sh)(l:List (List D))(st:Step)(u:List Step),r.cells[off]? = some (.ow sub l)->okO sub l (st::u) ->
     ∀d,plA w γ ⟨n,off,st::u⟩≠plA w γ ⟨n,d,[]⟩\/plA w γ ⟨n,d,[]⟩=none:=by
    intro off sub l st u i E d;unfold bZ at c;split at c
    ·left
     obtain⟨b,cs,ty,fz,g,h1,h2,h3,h4,h5,h6⟩:=c;obtain⟨_,v,g',_,o,⟨k,a3⟩,a4⟩:=r9 h5 i
     grind [nu,plA,aI,World.cell?]
    grind [plA]
   cases path with
   |nil=>
    cases f with
    |nil=>
     unfold bZ at c
     grind [plA]
    |cons st u=>
     grind
   |cons st u=>
    dsimp only at hp;cases i:r.cells[off]? with
    |none=>grind
    |some t=>
     rw[i]at hp;cases t with
     |ow sub l=>
      cases f with
      |nil=>
       grind
      |cons C u'=>
       dsimp only at hq;cases h:r.cells[d]? with
       |none=>grind
       |some t'=>
        rw[h]at hq;cases t' with
        |ow A l'=>
         by_cases ho:off=d
         ·subst ho;refine⟨rfl,?_⟩;rw[i]at h;simp only[aiX,T.ow.injEq]at h;obtain⟨rfl,rfl⟩:=h;obtain⟨v,g,O,⟨k,c2⟩,c3⟩:=eB c i
          grind [plA,L4]
         · -- two cells of one root
          exfalso
          unfold bZ at c;split at c
          ·obtain⟨b,cs,ty,fz,g,h1,h2,h3,h4,h5,h6⟩:=c;dsimp only at h1 h6;have z:off<r.cells.length:=by
            grind
           have j:d<r.cells.length:=by
            grind
           obtain⟨s1,P,S,U,fr,L,o,a3,a4,a5,_,G⟩:=cV _ _ _ _ _ h5 z;obtain⟨s2,M,N,g2,b1,b2,Q,b4,b5⟩:=G d (fun e=>ho e.symm) j;rw[i]at o;rw[h]at b2;simp only[aiX]at o b2;subst o;subst b2;obtain⟨k,a5⟩:=a5;obtain⟨k',b4⟩:=b4
           grind [nu,plA,aI,World.cell?]
          grind
        |_=>grind
     |_=>grind
 ·exfalso
  unfold cj at hp hq;cases hr:af m n with
  |none=>grind
  |some r=>
   cases y:af m n' with
   |none=>grind
   |some R=>
    have:=vi (F:=F) (ak hr) (ak y) hn a.block
    grind [Mem.le1]
theorem Kl:∀(p q:List Step)(sub:List Sh)(l:List (List D)),p.map (fun s=>(s.idx,s.off))=q.map (fun s=>(s.idx,s.off))->bJ sub l p=bJ sub l q:=by
 intro p;induction p with
 |nil=>simp_all
 |cons st r ih=>
  intro q sub l h;cases q with
  |nil=>simp at h
  |cons b a=>
   simp only[aiZ,List.cons.injEq,Prod.mk.injEq]at h;obtain⟨⟨h1,h2⟩,h3⟩:=h;cases r with
   |nil=>simp_all[bJ]
   |cons t u=>cases a<;>grind [bJ]
theorem Ju{m:Mm}{p q:Pl}(h1:p.root=q.root)(h2:p.off=q.off)(h3:p.path.map (fun s=>(s.idx,s.off))=q.path.map (fun s=>(s.idx,s.off))):aZ m p=aZ m q:=by
 grind (splits:=20) [aZ,Kl]
def T.owned:T->Bool
 |.mp _=>true
 |.it _ _=>true
 |.ow _ _=>true
 |_=>false
def T.toD:T->D
 |.d x=>x
 |.nil=>.li []
 |.ow _ l=>.li l
 |_=>.any
def bk(m:Mm)(p:Pl)(t:T):Mm:=
 match af m p.root with
 |none=>m
 |some r=>cM m p.root { r with cells:=match p.path with
   |[]=>r.cells.set p.off t
   |st::q=>match r.cells[p.off]? with
    |some (.ow sub l)=>r.cells.set p.off (.ow sub (cx sub l t.toD (st::q)))
    |_=>r.cells }
theorem fP{m:Mm}{n':Nm}{r0:Root}(h:af m n=some r0):af (cM m n r) n'=if n=n' then some r else af m n':=by
 induction m<;>grind [af,cM]
def aT(cells:List T)(off:Nat)(path:List Step):Prop:=
 match path with
 |[]=>off<cells.length
 |st::q=>match cells[off]? with
  |some (.ow sub l)=>okO sub l (st::q)
  |_=>False
def bF(cells:List T)(off:Nat)(path:List Step):Prop:=
 match cells[off]?,path with
 |some (.ow _ _),[]=>True
 |some (.mp _),[]=>True
 |some (.it _ _),[]=>True
 |some (.ow sub l),st::q=>okO sub l (st::q)/\match bJ sub l (st::q)with
  |some (.ow _,.li _)=>True
  |_=>False
 |_,_=>False
theorem aA{m:Mm}{p:Pl}:cj m p ↔ ∃r,af m p.root=some r/\aT r.cells p.off p.path:=by
 grind [cj,aT]
theorem cm{m:Mm}{p:Pl}:iG m p ↔ ∃r,af m p.root=some r/\bF r.cells p.off p.path:=by
 unfold iG bF
 grind
variable{sub:List Sh}
theorem Cf{l:List (List D)}{p:List Step}{P:Prop}(h:match bJ sub l p with|some (.ow _,.li _)=>True|_=>False) :
  ∃s l',bJ sub l p=some (.ow s,.li l'):=by
 grind
theorem xk{w w':World}{H:FH}{γ:Gam}{m:Mm}(hm:Mem w H γ m F){p:Pl}(hp:cj m p){t0 t:T}(h0:aZ m p=some t0)(hno:t0.owned=false)
  {A:Addr} (hA:plA w γ p=some A) (hw:∀a,a≠A->w'.cell? a=w.cell? a):Keeps w γ m w' γ (bk m p t):=by
 have I:∀q:Pl,cj m q->(∃x,aZ m q=some x/\x.owned=true)->plA w γ q≠some A:=by
  grind [abY,Ju]
 have M:∀q:Pl,cj m q->plA w' γ q=plA w γ q/\(q.path≠[]->aI w' (γ q.root) q.off=aI w (γ q.root) q.off):=by
  intro q hq;obtain⟨n,off,path⟩:=q;cases path with
  |nil=>exact⟨rfl,fun h=>absurd rfl h⟩
  |cons st u=>
   obtain⟨r,hr,hc⟩:=aA.1 hq;dsimp only[aT]at hr hc;cases j:r.cells[off]? with
   |none=>grind
   |some tt=>
    rw[j]at hc;cases tt with
    |ow sub l=>
     have C:off<r.cells.length:=by
      grind
     have h1:cj m ⟨n,off,[]⟩:=aA.2 ⟨r,hr,C⟩
     have h2:=I ⟨n,off,[]⟩ h1 ⟨.ow sub l,by grind [aZ],rfl⟩
     have z:aI w' (γ n) off=aI w (γ n) off:=by
      grind [plA,aI]
     refine⟨?_,fun _=>z⟩;simp only[plA,z];cases hv:aI w (γ n) off with
     |none=>rfl
     |some v=>
      simp only[Option.bind_some];refine LI hw (st::u) v (fun a b e ha hb=>?_);rw[e]at hc;obtain⟨c1,s,l',c2⟩:=NU a b sub l ha hb hc;cases a with
      |nil=>grind
      |cons W X=>
       have h3:cj m ⟨n,off,W::X⟩:=aA.2 ⟨r,hr,by grind [aT]⟩
       have h4:=I ⟨n,off,W::X⟩ h3 ⟨.ow s l',by grind [aZ],rfl⟩
       grind [plA]
    |_=>grind
 obtain⟨d,J,ab⟩:=aA.1 hp;have K:∀(off:Nat)(sub:List Sh)(l:List (List D)),d.cells[off]? = some (T.ow sub l)->∀n,wfO n sub l:=by
  intro off sub l j n;obtain⟨v,g,_,⟨k,c2⟩,_⟩:=eB (hm.roots _ (ak J)) j
  grind [Ez]
 have G:∀q:Nm,af (bk m p t) q=if p.root=q then some { d with cells:=match p.path with
   |[]=>d.cells.set p.off t
   |st::q=>match d.cells[p.off]? with
    |some (.ow sub l)=>d.cells.set p.off (.ow sub (cx sub l t.toD (st::q)))
    |_=>d.cells }else af m q:=by
  grind [bk,fP]
 have E:∀st u,p.path=st::u->∀(sub:List Sh)(l:List (List D)),d.cells[p.off]? = some (T.ow sub l)->okO sub l (st::u)/\∀s l',bJ sub l (st::u)≠some (.ow s,.li l'):=by
  grind [aT,aZ,T.owned]
 have Z:p.path=[]->∀(sub:List Sh)(l:List (List D)),d.cells[p.off]? ≠ some (T.ow sub l):=by
  grind [aZ,T.owned]
 have Q:∀q:Pl,cj m q->cj (bk m p t) q:=by
  intro q hq;obtain⟨r,hr,hc⟩:=aA.1 hq;rw[aA,G];by_cases hn:p.root=q.root
  ·rw[if_pos hn];rw[<- hn,J]at hr;obtain rfl:d=r:=by grind
   refine⟨_,rfl,?_⟩;obtain⟨n,off,path⟩:=q;dsimp only at hc⊢;cases path with
   |nil=>
    grind [aT]
   |cons st u=>
    dsimp only[aT]at hc⊢;cases f:p.path with
    |nil=>
     grind
    |cons o u'=>
     dsimp only;cases i:d.cells[p.off]? with
     |none=>exact hc
     |some R=>
      cases R with
      |ow sub l=>
       dsimp only;by_cases ho:p.off=off
       ·subst ho;have C:p.off<d.cells.length:=by
         grind
        rw[ajN C];rw[i]at hc;obtain⟨g1,g2⟩:=E o u' f sub l i;exact(KD (st::u) (o::u') _ sub l t.toD (ai0 _) (K _ sub l i _) hc g1 g2).1
       grind
      |_=>exact hc
  grind
 have U:∀q:Pl,iG m q->iG (bk m p t) q:=by
  intro q hq;obtain⟨r,hr,hc⟩:=cm.1 hq;rw[cm,G];by_cases hn:p.root=q.root
  ·rw[if_pos hn];rw[<- hn,J]at hr;obtain rfl:d=r:=by grind
   refine⟨_,rfl,?_⟩;obtain⟨n,off,path⟩:=q;dsimp only at hc⊢;unfold bF at hc⊢;cases j:d.cells[off]? with
   |none=>grind
   |some tt=>
    cases tt with
    |ow aa V=>
     rw[j]at hc;cases f:p.path with
     |nil=>
      grind
     |cons o u'=>
      dsimp only;cases i:d.cells[p.off]? with
      |none=>grind
      |some R=>
       cases R with
       |ow sub l=>
        dsimp only;by_cases ho:p.off=off
        ·subst ho;have C:p.off<d.cells.length:=by
          grind
         rw[ajN C];rw[i]at j;simp only[aiX,T.ow.injEq]at j;obtain⟨rfl,rfl⟩:=j;cases path with
         |nil=>trivial
         |cons st u=>
          dsimp only at hc⊢;obtain⟨g1,g2⟩:=E o u' f _ _ i;obtain⟨k1,k2⟩:=KD (st::u) (o::u') _ _ _ t.toD (ai0 _) (K _ _ _ i _) hc.1 g1 g2
          grind
        grind
       |_=>grind
    |mp V=>
     grind [aZ,T.owned]
    |it c0 V=>
     grind [aZ,T.owned]
    |_=>grind
  grind
 refine⟨fun q hq=>⟨Q q hq,(M q hq).1⟩,fun q hq=>⟨U q hq,?_⟩⟩;have N:=fC hq
 obtain⟨Y,e2⟩:=M q N;have hg:∃x,aZ m q=some x/\x.owned=true:=by
  obtain⟨r,hr,hc⟩:=cm.1 hq;unfold bF at hc;unfold aZ;rw[hr];cases j:r.cells[q.off]? with
  |none=>grind
  |some tt=>
   cases O:q.path with
   |nil=>
    rw[j,O]at hc;cases tt with
    |ow sub l=>exact⟨_,by dsimp only;exact j,rfl⟩
    |mp l=>exact⟨_,by dsimp only;exact j,rfl⟩
    |it c l=>exact⟨_,by dsimp only;exact j,rfl⟩
    |_=>grind
   |cons st u=>
    rw[j,O]at hc;cases tt with
    |ow sub l=>
     obtain⟨s,l',e⟩:=Cf (P:=True) hc.2;exact⟨.ow s l',by grind,rfl⟩
    |_=>grind
 have B:=I q N hg
 obtain⟨n,off,path⟩:=q;cases path with
 |nil=>
  simp only[plV];cases S:γ n with
  |gh v=>rfl
  |blk b=>
   simp only[plA,S,ne_eq,aiX]at B;exact hw _ B
 |cons st u=>
  have L:=e2 (by simp)
  simp only[plA,L]at Y B;simp only[plV,L,Y];cases hz:(aI w (γ n) off).bind fun y=>bv w y (st::u)with
  |none=>rfl
  |some a=>
   grind
def py:Sh->T->Prop
 |.fr,.d _=>True
 |.fr,.nil=>True
 |.ow s,.ow s' _=>s=s'
 |.ow _,.nil=>True
 |_,_=>False
theorem lj{H:FH}:FDx H (.li []) (.slice none 0 0):=⟨1,none,0,rfl,ai0 _,ajW _,.inl rfl⟩
variable{y:Value}
theorem ag6{w:World}{H:FH}{γ:Gam}{m:Mm}{s:Sh}{t:T}(hs:py s t)(h:TR w H γ m t f y):∃k,OD w H k s t.toD f y:=by
 cases s with
 |fr=>
  cases t with
  |d x=>exact⟨0,fZ.2 h⟩
  |nil=>obtain⟨h0,rfl⟩:=h;exact⟨0,fZ.2 ⟨h0,lj⟩⟩
  |_=>exact hs.elim
 |ow s=>
  cases t with
  |ow s' l=>obtain rfl:s=s':=hs;exact h
  |nil=>obtain⟨h0,rfl⟩:=h;exact⟨1,fq.2 (.inl ⟨rfl,rfl,h0⟩)⟩
  |_=>exact hs.elim
def acN(m:Mm)(p:Pl):Option Sh:=
 match af m p.root with
 |none=>none
 |some r=>match r.cells[p.off]? with
  |some (.ow sub l)=>(bJ sub l p.path).map (·.1)
  |_=>none
theorem dI{m:Mm}:tot F (cM m n r) b=tot F m b:=by
 induction m<;>grind [cM,eT]
theorem mM{m:Mm}:(cM m n r).map (·.1)=m.map (·.1):=by
 induction m<;>grind [cM]
theorem pO{m:Mm}(hk:(m.map (·.1)).Nodup)(h:x∈cM m n r):(x.1≠n/\x∈m)\/x=(n,r):=by
 induction m<;>grind [cM]
theorem YT{m:Mm}{ft:Fp}(h:n ∉ m.map (·.1)):tot (fun k b=>F k b+if k=n then ft b else 0) m b=tot F m b:=by
 induction m with
 |nil=>rfl
 |cons x m ih=>
  grind [eT]
theorem Gj{m:Mm}{ft:Fp}(hk:(m.map (·.1)).Nodup)(h:af m n=some r) :
  tot (fun k b=>F k b+if k=n then ft b else 0) m b=tot F m b+ft b:=by
 induction m with
 |nil=>simp[af]at h
 |cons x m ih=>
  obtain⟨k,y⟩:=x;simp only[aiZ,aj3]at hk;simp only[af]at h;rw[eT,eT];split at h
  ·rename_i e;subst e;rw[YT hk.1];grind
  grind
theorem nS{w:World}{cs:Array Value}{ty:TypeId}{fz:Nat×Nat}(h:w.heap[b]? = some (.cells cs ty fz)) :
  (w.setCell ⟨b,k,none⟩ y).heap[b]? = some (.cells (cs.setIfInBounds k y) ty fz):=by
 grind [World.setCell]
theorem Di{w:World}{cs:Array Value}{ty:TypeId}{fz:Nat×Nat}(h:w.heap[b]? = some (.cells cs ty fz))(h2:KB fz cs.size)(_:k<cs.size) :
  w.frozen? ⟨b,k,none⟩=false:=by
 grind [KB,World.frozen?]
theorem jI{w:World}{b':Nat}(h:b'≠b):(w.setCell ⟨b,k,none⟩ y).heap[b']? = w.heap[b']? := by
 grind [World.setCell]
theorem Thawed.setCell{w:World}{c:Nat}(h:Thawed w c):Thawed (w.setCell ⟨b,k,none⟩ y) c:=by
 obtain⟨cs,ty,h⟩:=h;by_cases e:c=b
 ·subst e;exact⟨_,_,nS h⟩
 ·exact⟨cs,ty,(jI e).trans h⟩
theorem Q2{w:World}{H:FH}{γ:Gam}{m:Mm}{F:Nm->Fp}(I:Mem w H γ m F){p:Pl}(hp:cj m p){t0 t:T}(h0:aZ m p=some t0)(hno:t0.owned=false)
  {b k:Nat} (R:plA w γ p=some ⟨b,k,none⟩) {ft:Fp} {y:Value} (ht:TR w H γ m t ft y) (af:oT y=true)
  (ag:p.path=[]\/∃s,acN m p=some s/\py s t)
  (hd:∀c,tot F m c+ft c<=1) (hl:∀c,ft c≠0->c<w.heap.size/\∀o,H c o=none) :
  (∃z,w.cell? ⟨b,k,none⟩=some z)/\w.frozen? ⟨b,k,none⟩=false /\
   Mem (w.setCell ⟨b,k,none⟩ y) H γ (bk m p t) (fun n c=>F n c+if n=p.root then ft c else 0):=by
 have V:=(A3 I hp R).1
 dsimp only at V;have ah:ft b=0:=by
  obtain⟨r,hr,_⟩:=aA.1 hp;have:=bX (F:=F) (ak hr) b;grind
 have hw:∀a,a≠(⟨b,k,none⟩:Addr)->(w.setCell ⟨b,k,none⟩ y).cell? a=w.cell? a:=fun a ha=>World.cell?_setCell_other _ _ _ _ (fun e=>ha e.symm)
 have S:=xk I hp h0 hno (t:=t) R hw
 obtain⟨G,B,A⟩:=aA.1 hp;have ai:∀c,F p.root c<=1:=fun c=>by have:=I.le1 c;have:=bX (F:=F) (ak B) c;grind
 have i:=I.roots _ (ak B)
 dsimp only at i;have E:∀c,c≠b->(w.setCell ⟨b,k,none⟩ y).heap[c]? = w.heap[c]? := fun c hc=>jI hc
 have K:TR (w.setCell ⟨b,k,none⟩ y) H γ (bk m p t) t ft y:=jm S (fun _ _ _ h=>h) (fun c hc=>E c (by grind)) ht
 have O:(∃z,w.cell? ⟨b,k,none⟩=some z)/\w.frozen? ⟨b,k,none⟩=false /\
   bZ (w.setCell ⟨b,k,none⟩ y) H γ (bk m p t) p.root { G with cells:=match p.path with
    |[]=>G.cells.set p.off t
    |st::q=>match G.cells[p.off]? with
     |some (.ow sub l)=>G.cells.set p.off (.ow sub (cx sub l t.toD (st::q)))
     |_=>G.cells } (fun c=>F p.root c+ft c):=by
  have N:∀(st:Step)(u:List Step)(sub:List Sh)(l:List (List D))(v:Value)(g:Fp),p.path=st::u->G.cells[p.off]? = some (.ow sub l)->okO sub l (st::u) ->
    TR w H γ m (.ow sub l) g v->(∀c,g c<=1)->bv w v (st::u)=some ⟨b,k,none⟩ ->
    (∃z,w.cell? ⟨b,k,none⟩=some z)/\w.frozen? ⟨b,k,none⟩=false/\g b≠0 /\
     TR (w.setCell ⟨b,k,none⟩ y) H γ (bk m p t) (.ow sub (cx sub l t.toD (st::u))) (fun c=>g c+ft c) v:=by
   intro st u sub l v g f ab U ⟨n,aa⟩ ac C;obtain⟨b',k',z,s,x,cs,ty,fz,f1,f2,W,c2,c3,c4,c5,c6,c7,c8,c9⟩:=yl (st::u) n sub l g v aa ac U;rw[C]at W;simp only[aiX,Addr.mk.injEq,and_true]at W;obtain⟨rfl,rfl⟩:=W;have hk:k<cs.size:=by
    grind
   refine⟨⟨z,by grind [World.cell?]⟩,?_,by grind,?_⟩
   ·grind [Di]
   · -- its cell was not owned
    have al:∀c,f1 c=0:=by
     have hg:aZ m p=some (match s,x with|.fr,x=>.d x|.ow s,.li l'=>.ow s l'|.ow _,_=>.any):=by
      unfold aZ;rw[B,f];simp only[ab,c5];cases s with
      |fr=>rfl
      |ow s=>cases x<;>rfl
     rw[h0]at hg;simp only[aiX]at hg;cases s with
     |fr=>grind [fZ]
     |ow s=>cases x with
      |li l'=>grind [T.owned]
      |any=>grind [OD]
      |_=>grind [OD]
    have ae:py s t:=by
     grind [acN]
    obtain⟨j,hj⟩:=ag6 ae K;obtain⟨M,hM⟩:=c9 (w.setCell ⟨b,k,none⟩ y) H y t.toD ft j (fun _ _ _ h=>h) (nS c2) (fun c h1 _=>E c h1) hj;exact⟨M,Ih (fun c=>by grind) hM⟩
  unfold bZ at i⊢;dsimp only;split at i
  ·rename_i hb;rw[if_pos hb];obtain⟨b0,cs,ty,fz,g,h1,h2,h3,h4,h5,h6⟩:=i;cases f:p.path with
   |nil=>
    dsimp only;simp only[plA,f,h1,aiX,Addr.mk.injEq,and_true]at R;obtain⟨rfl,rfl⟩:=R;rw[f]at A;dsimp only[aT]at A;obtain⟨s,x,v,P,fr,a1,X,a3,a4,a5,Z,_⟩:=cV _ _ _ _ _ h5 A;have hv:cs[p.off]? = some v:=by grind
    have hk:p.off<cs.size:=by omega
    refine⟨⟨v,by grind [World.cell?]⟩,?_,b0,cs.setIfInBounds p.off y,ty,fz,fun c=>ft c+fr c,h1,nS h2,by grind,by grind,?_,?_⟩
    ·exact Di h2 h3.1 hk
    ·unfold Ts;rw[akT];have:=Z (fun _ t'=>TR (w.setCell ⟨b0,p.off,none⟩ y) H γ (bk m p t) t') t y ft (fun _ x g' v Y hx=>jm S (fun _ _ _ h=>h) (fun c hc=>E c (by
       grind)) hx) K
     grind
    ·intro c;have:P c=0:=by
      simp only[aZ,B,f,X,aiX]at h0;subst h0;cases x with
      |ow sub l=>grind [T.owned]
      |mp l=>grind [T.owned]
      |it c l=>grind [T.owned]
      |d x=>exact a5.1 c
      |nil=>exact a5.1 c
      |el row off=>exact a5.1 c
      |pl q=>exact a5.1 c
      |rf q=>exact a5.1 c
      |any=>exact a5 c
     grind
   |cons st u=>
    rw[f]at A;dsimp only[aT]at A;cases J:G.cells[p.off]? with
    |none=>grind
    |some tt=>
     rw[J]at A;cases tt with
     |ow sub l=>
      dsimp only at A⊢;have ad:p.off<G.cells.length:=by
       grind
      obtain⟨s,x,v,P,fr,a1,X,a3,a4,a5,Z,_⟩:=cV _ _ _ _ _ h5 ad;rw[J]at X;obtain rfl:T.ow sub l=x:=by grind
      have hv:cs[p.off]? = some v:=by grind
      have C:bv w v (st::u)=some ⟨b,k,none⟩:=by
       grind [plA,aI,World.cell?]
      obtain⟨e1,e2,e3,e4⟩:=N st u sub l v P f J A a5 (fun c=>by grind) C;have aj:b0≠b:=by
       grind
      refine⟨e1,e2,b0,cs,ty,fz,fun c=>(P c+ft c)+fr c,h1,by grind,h3,by grind,?_,?_⟩
      ·unfold Ts;rw[akT];have:=Z (fun _ t'=>TR (w.setCell ⟨b,k,none⟩ y) H γ (bk m p t) t') (.ow sub (cx sub l t.toD (st::u))) v (fun c=>P c+ft c) (fun _ x g' v Y hx=>jm S (fun _ _ _ h=>h) (fun c hc=>E c (by
         grind)) hx) e4
       have hs:cs.toList.set p.off v=cs.toList:=by
        apply akC
        grind
       grind
      grind
     |_=>grind
  grind [plA,aT,aI]
 obtain⟨m1,m2,m3⟩:=O;refine⟨m1,m2,?_⟩;have L:bk m p t=cM m p.root { G with cells:=match p.path with
    |[]=>G.cells.set p.off t
    |st::q=>match G.cells[p.off]? with
     |some (.ow sub l)=>G.cells.set p.off (.ow sub (cx sub l t.toD (st::q)))
     |_=>G.cells }:=by
  grind [bk]
 have Q:∀c,tot (fun n c=>F n c+if n=p.root then ft c else 0) (bk m p t) c=tot F m c+ft c:=by
  intro c;rw[L,dI,Gj I.keys B]
 constructor
 ·intro b' o v hv;refine(I.agree b' o v hv).frame (E b' fun e=>?_);subst e;have:=I.nofz b' (by have:=bX (F:=F) (ak B) b';grind) o
  grind
 ·intro x hx;rw[L]at hx;rcases pO I.keys hx with⟨hn,hx⟩|rfl
  ·have h:=bh (γ':=γ) S (fun _ _ _ h=>h) rfl (fun c hc=>E c (by
    intro e;subst e;have:=vi (F:=F) (ak B) hx (fun e=>hn e.symm) c
    grind)) (I.roots x hx)
   simp_all
  grind
 ·grind [mM,Mem.keys]
 ·grind
 ·grind [World.size_setCell,Mem.lt]
 ·intro c hc;rw[Q]at hc;by_cases h:ft c=0
  ·exact I.nofz c kQ1
  grind
def Pl.offs(p:Pl):List Nat:=p.off::p.path.map (·.off)
def thr(q:Pl)(rf:Bool)(p:Pl):Bool:=decide (q.root=p.root)&&q.offs.isPrefixOf p.offs&&(rf||q.offs != p.offs)
def T.kill(bad:Bool->Pl->Bool):T->T
 |.pl p=>if bad false p then .any else .pl p
 |.rf p=>if bad true p then .any else .rf p
 |t=>t
def AV1.kill(bad:Bool->Pl->Bool):AV1->AV1
 |.c t=>.c (t.kill bad)
 |.agg ts=>.agg (ts.map (·.kill bad))
def AV.kill(bad:Bool->Pl->Bool):AV->AV
 |.one x=>.one (x.kill bad)
 |.tup xs=>.tup (xs.map (·.kill bad))
 |.any=>.any
def aP(bad:Bool->Pl->Bool)(m:Mm):Mm:=m.map fun x=>(x.1,{ x.2 with cells:=x.2.cells.map (·.kill bad) })
def oP(bad:Bool->Pl->Bool)(t:List (Nat×AV)):List (Nat×AV):=t.map fun x=>(x.1,x.2.kill bad)
structure KeepsB (bad:Bool->Pl->Bool) (w:World) (γ:Gam) (m:Mm) (w':World) (γ':Gam) (m':Mm):Prop where
 pl:∀q,bad false q=false->cj m q->cj m' q/\plA w' γ' q=plA w γ q
 rf:∀q,bad true q=false->iG m q->iG m' q/\plV w' γ' q=plV w γ q
section
variable {bad:Bool->Pl->Bool} {w w':World} {H H':FH} {γ γ':Gam} {m m':Mm}
theorem qu(i:KeepsB bad w γ m w' γ' m')(e:∀b o y,H b o=some y->H' b o=some y)
  {t:T} {f:Fp} {y:Value} (hw:∀b,f b≠0->w'.heap[b]? = w.heap[b]?) (h:TR w H γ m t f y):TR w' H' γ' m' (t.kill bad) f y:=by
 cases t with
 |d x=>exact⟨h.1,eJ e h.2⟩
 |nil=>exact h
 |ow sub l=>obtain⟨k,h⟩:=h;exact⟨k,cO e k k _ _ _ _ (ai0 _) hw h⟩
 |mp l=>obtain⟨b,es,ck,g,h1,h2,h3,h4,h5⟩:=h;exact⟨b,es,ck,g,h1,by grind,h3,j6 e (fun c hc=>hw c (by grind)) h4,h5⟩
 |it cur rest=>obtain⟨r,m,a,s,c,h1,h2,h3,h4⟩:=h;exact⟨r,m,a,s,c,h1,by grind,Ic e h3,h4⟩
 |el row off=>obtain⟨h0,b,o,k,h1,h2⟩:=h;exact⟨h0,b,o,k,h1,mj e h2⟩
 |pl p=>
  obtain⟨h0,h1,a,h2,h3⟩:=h;simp only[T.kill];split
  ·exact h0
  ·rename_i hb;obtain⟨k1,k2⟩:=i.pl p (by grind) h1;exact⟨h0,k1,a,by grind,h3⟩
 |rf p=>
  obtain⟨h0,h1,h2⟩:=h;simp only[T.kill];split
  ·exact h0
  ·rename_i hb;obtain⟨k1,k2⟩:=i.rf p (by grind) h1;exact⟨h0,k1,by grind⟩
 |any=>exact h
theorem L0{R d:α->β->Fp->Value->Prop}{g:β->β}:∀{a:List α}{xs:List β}{f:Fp}{vs:List Value},
  (∀s x h v,(∀b,h b<=f b)->R s x h v->d s (g x) h v)->Cs R a xs f vs->Cs d a (xs.map g) f vs
 |[],[],_,_,_,h=>h
 |s::a,x::xs,f,vs,c,h=>by
  obtain⟨v,r,f1,e,hv,hf,h1,h2⟩:=h;exact⟨v,r,f1,e,hv,hf,c _ _ _ _ (fun b=>by grind) h1,L0 (fun s x h v i=>c s x h v (fun b=>by grind)) h2⟩
 |[],_::_,_,_,_,h=>h.elim
 |_::_,[],_,_,_,h=>h.elim
theorem tQ(a:KeepsB bad w γ m w' γ' m')(c:∀b o y,H b o=some y->H' b o=some y)
  {ts:List T} {f:Fp} {vs:List Value} (hw:∀b,f b≠0->w'.heap[b]? = w.heap[b]?) (h:Ts (TR w H γ m) ts f vs):Ts (TR w' H' γ' m') (ts.map (·.kill bad)) f vs:=by
 grind [Ts,L0,qu]
theorem Gz(a:KeepsB bad w γ m w' γ' m')(d:∀b o y,H b o=some y->H' b o=some y){x:AV1}(h:AR1 w H γ m x y):AR1 w' H' γ' m' (x.kill bad) y:=by
 cases x with
 |c t=>exact qu a d (fun b hb=>absurd rfl hb) h
 |agg ts=>obtain⟨cs,h1,h2,h3⟩:=h;exact⟨cs,h1,by grind,tQ a d (fun b hb=>absurd rfl hb) h3⟩
theorem GB(c:KeepsB bad w γ m w' γ' m')(d:∀b o y,H b o=some y->H' b o=some y) :
  ∀{xs:List AV1}{a:List Value},ARs w H γ m xs a->ARs w' H' γ' m' (xs.map (·.kill bad)) a
 |[],[],_=>trivial
 |_::_,_::_,h=>⟨Gz c d h.1,GB c d h.2⟩
 |[],_::_,h=>h.elim
 |_::_,[],h=>h.elim
theorem yj(a:KeepsB bad w γ m w' γ' m')(c:∀b o y,H b o=some y->H' b o=some y){x:AV}(h:AR w H γ m x y):AR w' H' γ' m' (x.kill bad) y:=by
 cases x with
 |one x=>exact Gz a c h
 |tup xs=>obtain⟨l,h1,h2⟩:=h;exact⟨l,h1,GB a c h2⟩
 |any=>trivial
theorem sg(a:KeepsB bad w γ m w' γ' m')(d:∀b o y,H b o=some y->H' b o=some y)
  {n:Nm} {r:Root} {f:Fp} (e:γ' n=γ n) (hw:∀b,f b≠0->w'.heap[b]? = w.heap[b]?) (h:bZ w H γ m n r f) :
  bZ w' H' γ' m' n { r with cells:=r.cells.map (·.kill bad) } f:=by
 unfold bZ at h⊢;dsimp only;split at h
 ·rename_i hb;rw[if_pos hb];obtain⟨b,cs,ty,fz,g,h1,h2,h3,h4,h5,h6⟩:=h;exact⟨b,cs,ty,fz,g,by grind,by grind,h3,by grind,
   tQ a d (fun c hc=>hw c (by grind)) h5,h6⟩
 grind [qu]
end
theorem kC{bad:Bool->Pl->Bool}{m:Mm}:af (aP bad m) n=(af m n).map fun r=>{ r with cells:=r.cells.map (·.kill bad) }:=by
 induction m with
 |nil=>rfl
 |cons x m ih=>
  obtain⟨k,y⟩:=x;simp only[aP,aiZ,af];split
  ·rfl
  ·exact ih
variable{cells:List T}{path:List Step}
theorem FL{bad:Bool->Pl->Bool}{off:Nat}(h:aT cells off path):aT (cells.map (·.kill bad)) off path:=by
 cases path with
 |nil=>grind [aT]
 |cons st u=>
  simp only[aT,ai4]at h⊢;cases a:cells[off]? with
  |none=>grind
  |some t=>
   rw[a]at h;cases t with
   |ow sub l=>exact h
   |_=>grind
theorem AU{bad:Bool->Pl->Bool}{off:Nat}(h:bF cells off path):bF (cells.map (·.kill bad)) off path:=by
 unfold bF at h⊢;simp only[ai4];cases a:cells[off]? with
 |none=>grind
 |some t=>
  rw[a]at h;cases t with
  |ow sub l=>exact h
  |mp l=>exact h
  |it c l=>exact h
  |_=>grind
variable{q:Pl}
theorem sT{bad:Bool->Pl->Bool}{m:Mm}(h:cj m q):cj (aP bad m) q:=by
 grind [aA,kC,FL]
theorem sU{bad:Bool->Pl->Bool}{m:Mm}(h:iG m q):iG (aP bad m) q:=by
 grind [cm,kC,AU]
theorem bu{bad:Bool->Pl->Bool}{m:Mm}:tot F (aP bad m) b=tot F m b:=by
 induction m<;>grind [aP,tot]
theorem nZ{bad:Bool->Pl->Bool}{m:Mm}:(aP bad m).map (·.1)=m.map (·.1):=by
 simp[aP,Function.comp_def]
theorem KC:∀(p q:List Step)(sub:List Sh)(l:List (List D))(x:D)(n:Nat),p.length+q.length<=n->wfO n sub l->okO sub l p->okO sub l q ->
  ((q.map (·.off)).isPrefixOf (p.map (·.off))=false\/q.map (·.off)=p.map (·.off)->okO sub (cx sub l x q) p) /\
  ((q.map (·.off)).isPrefixOf (p.map (·.off))=false->∀s l',bJ sub l p=some (.ow s,.li l')->∃o,bJ sub (cx sub l x q) p=some (.ow s,.li o)):=by
 intro p;induction p with
 |nil=>intro q sub l x n _ _ h;exact h.elim
 |cons st r ih=>
  intro q sub l x n hn v hp hq;cases q with
  |nil=>grind
  |cons a d=>
  cases n with
  |zero=>grind
  |succ n=>
  obtain⟨E,c⟩:=v;have w:st.idx<l.length/\st.esz=sub.length/\st.off<sub.length:=by
   cases r with
   |nil=>exact hp
   |cons _ _=>exact hp.1
  have g:a.idx<l.length/\a.esz=sub.length/\a.off<sub.length:=by
   cases d with
   |nil=>exact hq
   |cons _ _=>exact hq.1
  obtain⟨hi,he,ho⟩:=w;obtain⟨A,G,I⟩:=g;have B:a.off < (l.getD a.idx []).length:=by
   grind
  have key:∃y,cx sub l x (a::d)=l.set a.idx ((l.getD a.idx []).set a.off y) /\
    (∀t u,d=t::u->∃s2 l2,sub[a.off]? = some (.ow s2)/\(l.getD a.idx []).getD a.off default=.li l2/\y=.li (cx s2 l2 x (t::u))/\okO s2 l2 (t::u)):=by
   cases d with
   |nil=>exact⟨x,rfl,fun t u h=>by simp at h⟩
   |cons t u=>
    obtain⟨_,hq⟩:=hq;cases hs:sub[a.off]? with
    |none=>grind
    |some s0=>
     rw[hs]at hq;cases s0 with
     |fr=>grind
     |ow s2=>
      cases hd:(l.getD a.idx []).getD a.off default with
      |li l2=>
       rw[hd]at hq;refine⟨.li (cx s2 l2 x (t::u)),by grind [cx],fun t' u' h=>?_⟩
       grind
      |_=>grind
  obtain⟨y,f,b⟩:=key;rw[f];have hget:=fun i' j'=>Dm (l:=l) (i:=a.idx) (j:=a.off) (i':=i') (j':=j') (y:=y) A B
  cases r with
  |nil=>
   refine⟨fun _=>⟨by grind,he,ho⟩,fun F s l' h=>?_⟩;simp only[bJ]at h⊢;rw[hget];by_cases e:a.idx=st.idx/\a.off=st.off
   ·rw[if_pos e];obtain⟨C,k⟩:=e;cases d<;>grind
   grind
  |cons t u=>
   obtain⟨_,hp⟩:=hp;cases hs:sub[st.off]? with
   |none=>grind
   |some s0=>
    rw[hs]at hp;cases s0 with
    |fr=>grind
    |ow s2=>
     cases hd:(l.getD st.idx []).getD st.off default with
     |li l2=>
      rw[hd]at hp;have H:=hget st.idx st.off
      by_cases e:a.idx=st.idx/\a.off=st.off
      ·rw[if_pos e]at H;obtain⟨C,k⟩:=e;cases d with
       |nil=>
        grind
       |cons t' u'=>
        obtain⟨K,J,m,z,rfl,a4⟩:=b t' u' rfl;rw[k,hs]at m;rw[C,k,hd]at z;simp only[aiX,Sh.ow.injEq]at m;simp only[D.li.injEq]at z;subst m;subst z;obtain⟨g1,g2⟩:=ih (t'::u') s2 l2 x n (by grind) (c st.idx st.off s2 l2 hs hd) hp a4
        grind [okO,bJ]
      grind [okO,bJ]
     |_=>grind
theorem Ae{m:Mm}{p:Pl}{t:T}{a:Root}(b:af m p.root=some a)(q:Nm):af (bk m p t) q=if p.root=q then some { a with cells:=match p.path with
   |[]=>a.cells.set p.off t
   |st::q=>match a.cells[p.off]? with
    |some (.ow sub l)=>a.cells.set p.off (.ow sub (cx sub l t.toD (st::q)))
    |_=>a.cells }else af m q:=by
 grind [bk,fP]
theorem cg{l:List α}{x:α}(h:l[i]? = some x):i<l.length:=by
 grind
theorem o5{w:World}{H:FH}{γ:Gam}{m:Mm}(y:Mem w H γ m F)(hq:cj m q) :
  KeepsB (thr q) w γ m w γ (aP (thr q) (bk m q .any)):=by
 obtain⟨i,d,a⟩:=aA.1 hq;have e:=Ae (t:=T.any) d
 have j:∀(off:Nat)(sub:List Sh)(l:List (List D)),i.cells[off]? = some (T.ow sub l)->∀n,wfO n sub l:=by
  intro off sub l h n;obtain⟨v,g,_,⟨k,c2⟩,_⟩:=eB (y.roots _ (ak d)) h
  grind [Ez]
 constructor
 ·intro p hb hp;refine⟨sT ?_,rfl⟩;obtain⟨r,hr,hc⟩:=aA.1 hp;rw[aA,e];by_cases hn:q.root=p.root
  ·rw[if_pos hn];rw[<- hn,d]at hr;obtain rfl:i=r:=by grind
   refine⟨_,rfl,?_⟩;simp only[thr,hn,decide_true,ajT,Bool.false_or,Pl.offs]at hb;obtain⟨n,off,path⟩:=p;dsimp only at hc hb⊢;cases path with
   |nil=>
    grind [aT]
   |cons st u=>
    dsimp only[aT]at hc⊢;cases b:q.path with
    |nil=>
     grind
    |cons f u'=>
     dsimp only;rw[b]at a;dsimp only[aT]at a;cases c:i.cells[q.off]? with
     |none=>exact hc
     |some o=>
      rw[c]at a;cases o with
      |ow sub l=>
       dsimp only at a⊢;by_cases ho:q.off=off
       ·subst ho;rw[ajN (cg c)];rw[c]at hc;refine(KC (st::u) (f::u') sub l _ _ (ai0 _) (j _ sub l c _) hc a).1 ?_
        grind
       grind
      |_=>exact hc
  grind
 ·intro p hb hp;refine⟨sU ?_,rfl⟩;obtain⟨r,hr,hc⟩:=cm.1 hp;rw[cm,e];by_cases hn:q.root=p.root
  ·rw[if_pos hn];rw[<- hn,d]at hr;obtain rfl:i=r:=by grind
   refine⟨_,rfl,?_⟩;simp only[thr,hn,decide_true,ajT,Bool.true_or,akK,Pl.offs]at hb;obtain⟨n,off,path⟩:=p;dsimp only at hc hb⊢;unfold bF at hc⊢;cases h:i.cells[off]? with
   |none=>grind
   |some tt=>
    cases tt with
    |ow s x=>
     rw[h]at hc;cases b:q.path with
     |nil=>
      grind
     |cons f u'=>
      dsimp only;rw[b]at a;dsimp only[aT]at a;cases c:i.cells[q.off]? with
      |none=>grind
      |some o=>
       rw[c]at a;cases o with
       |ow sub l=>
        dsimp only at a⊢;by_cases ho:q.off=off
        ·subst ho;rw[ajN (cg c)];rw[c]at h;simp only[aiX,T.ow.injEq]at h;obtain⟨rfl,rfl⟩:=h;cases path with
         |nil=>trivial
         |cons st u=>
          dsimp only at hc⊢;rw[b]at hb;simp only[List.isPrefixOf_cons_cons,beq_self_eq_true,ajT]at hb;obtain⟨k1,k2⟩:=KC (st::u) (f::u') _ _ T.any.toD _ (ai0 _) (j _ _ _ c _) hc.1 a
          grind
        grind
       |_=>grind
    |mp x=>
     grind
    |it z x=>
     grind
    |_=>grind
  grind
theorem acV{F:Nm->Fp}{m:Mm}{g:Fp}{b:Nat}(hk:(m.map (·.1)).Nodup)(h:af m n=some r)(a:∀b,g b<=F n b) :
  tot (fun k b=>F k b-if k=n then g b else 0) m b+g b=tot F m b:=by
 have e:=Gj (F:=fun k b=>F k b-if k=n then g b else 0) (ft:=g) (b:=b) hk h
 rw[<- e];have:(fun k b=>(F k b-if k=n then g b else 0)+if k=n then g b else 0)=F:=by
  grind
 rw[this]
theorem p8{l:List α}{x:α}(h:l[i]? = some x):l.set i x=l:=by
 apply akC
 grind
theorem nA{cs:Array Value}{z:Value}(h:cs[k]? = some z):cs.setIfInBounds k z=cs:=by
 grind
theorem zc{w:World}{H:FH}{γ:Gam}{m:Mm}{F:Nm->Fp}(G:Mem w H γ m F)(hq:cj m q){l:List (List D)}(A:aZ m q=some (.ow sub l)) :
  ∃g v,plV w γ q=some v/\TR w H γ m (.ow sub l) g v/\(∀b,g b<=F q.root b)/\(∀b,tot (fun n b=>F n b-if n=q.root then g b else 0) m b+g b=tot F m b) /\
   ∀H':FH,(∀b o y,H b o=some y->H' b o=some y)->(∀b o y,H' b o=some y->RdV w b o y) ->
    (∀b,tot (fun n b=>F n b-if n=q.root then g b else 0) m b≠0->∀o,H' b o=none) ->
    Mem w H' γ (aP (thr q) (bk m q .any)) (fun n b=>F n b-if n=q.root then g b else 0):=by
 have hK:=o5 G hq
 obtain⟨j,p,f⟩:=aA.1 hq;have e:=G.roots _ (ak p)
 dsimp only at e;have Q:∀c,F q.root c<=1:=fun c=>by have:=G.le1 c;have:=bX (F:=F) (ak p) c;grind
 have N:∃g v,plV w γ q=some v/\TR w H γ m (.ow sub l) g v/\(∀b,g b<=F q.root b) /\
   ∀H':FH,(∀b o y,H b o=some y->H' b o=some y) ->
    bZ w H' γ (aP (thr q) (bk m q .any)) q.root { j with cells:=List.map (fun t=>T.kill (thr q) t) (match q.path with
     |[]=>j.cells.set q.off .any
     |st::u=>match j.cells[q.off]? with
      |some (.ow sub l)=>j.cells.set q.off (.ow sub (cx sub l .any (st::u)))
      |_=>j.cells) } (fun b=>F q.root b-g b):=by
  have C:∀(st:Step)(u:List Step)(a:List Sh)(r:List (List D))(v0:Value)(J:Fp),q.path=st::u->j.cells[q.off]? = some (.ow a r)->okO a r (st::u) ->
    TR w H γ m (.ow a r) J v0->(∀c,J c<=1)->∃g v,(bv w v0 (st::u)).bind w.cell? = some v/\TR w H γ m (.ow sub l) g v/\(∀b,g b<=J b) /\
     ∀H':FH,(∀b o y,H b o=some y->H' b o=some y)->∀m',TR w H' γ m' (.ow a (cx a r .any (st::u))) (fun c=>J c-g c) v0:=by
   intro st u a r v0 J d ht U ⟨n,aa⟩ ab;obtain⟨b,k,z,s,x,cs,ty,fz,f1,f2,c1,c2,c3,c4,c5,c6,c7,c8,c9⟩:=yl (st::u) n a r J v0 aa ab U;unfold aZ at A;rw[p,d]at A;simp only[ht,c5]at A;refine⟨f1,z,by grind [World.cell?],?_,fun b=>by grind,fun H' B m'=>?_⟩
   ·cases s with
    |fr=>grind
    |ow s=>cases x with
     |li l'=>
      simp only[aiX,T.ow.injEq]at A;obtain⟨rfl,rfl⟩:=A;exact⟨n,c8⟩
     |_=>grind
   ·cases s with
    |fr=>grind
    |ow s=>
     obtain⟨M,hM⟩:=c9 w H' z .any (fun _=>0) 1 B (by grind [nA]) (fun _ _ _=>rfl) (by simp[OD]);exact⟨M,Ih (fun c=>by grind) hM⟩
  unfold bZ at e⊢;dsimp only;split at e
  ·rename_i hb;obtain⟨b0,cs,ty,fz,g,h1,h2,h3,h4,h5,h6⟩:=e;cases d:q.path with
   |nil=>
    unfold aZ at A;rw[p,d]at A;dsimp only at A;obtain⟨s,x,v,K,fr,a1,V,a3,a4,a5,Z,_⟩:=cV _ _ _ _ _ h5 (cg A);rw[A]at V;obtain rfl:T.ow sub l=x:=by grind
    have hv:cs[q.off]? = some v:=by grind
    refine⟨K,v,?_,a5,fun b=>by grind,fun H' B=>?_⟩
    ·grind [plV,aI,World.cell?]
    ·rw[if_pos hb];refine⟨b0,cs,ty,fz,fr,h1,h2,h3,by grind,?_,fun c=>by grind⟩;have I:=Z (fun _ t=>TR w H γ m t) T.any v (fun _=>0) (fun _ x g' L W hx=>hx) (fun _=>rfl)
     rw[p8 a3]at I;have E:Ts (TR w H γ m) (j.cells.set q.off .any) fr cs.toList:=by
      grind [Ts]
     exact tQ hK B (fun _ _=>rfl) E
   |cons st u=>
    rw[d]at f;dsimp only[aT]at f;cases i:j.cells[q.off]? with
    |none=>grind
    |some tt=>
     rw[i]at f;cases tt with
     |ow a r=>
      dsimp only at f⊢;obtain⟨s,x,v,K,fr,a1,V,a3,a4,a5,Z,_⟩:=cV _ _ _ _ _ h5 (cg i);rw[i]at V;obtain rfl:T.ow a r=x:=by grind
      have hv:cs[q.off]? = some v:=by grind
      obtain⟨g',L,e1,R,e3,e4⟩:=C st u a r v K d i f a5 (fun c=>by grind);refine⟨g',L,?_,R,fun b=>by grind,fun H' B=>?_⟩
      ·grind [plV,aI,World.cell?]
      ·rw[if_pos hb];refine⟨b0,cs,ty,fz,fun c=>(K c-g' c)+fr c,h1,h2,h3,by grind,?_,fun c=>by grind⟩;have I:=Z (fun _ t=>TR w H γ m t) (.ow a (cx a r .any (st::u))) v (fun c=>K c-g' c) (fun _ x g' L W hx=>hx) (e4 H (fun _ _ _ h=>h) m)
       rw[p8 a3]at I;have E:Ts (TR w H γ m) (j.cells.set q.off (.ow a (cx a r .any (st::u)))) (fun c=>(K c-g' c)+fr c) cs.toList:=by
        grind [Ts]
       exact tQ hK B (fun _ _=>rfl) E
     |_=>grind
  ·rename_i hb;obtain⟨v,t',h1,h2,h3⟩:=e;cases d:q.path with
   |nil=>
    unfold aZ at A;rw[p,d]at A;dsimp only at A;have ho:q.off=0:=by
     grind
    rw[h2,ho]at A;obtain rfl:t'=T.ow sub l:=by grind
    refine⟨F q.root,v,?_,h3,fun _=>ai0 _,fun H' B=>?_⟩
    ·grind [plV,aI]
    ·rw[if_neg hb];refine⟨v,.any,h1,?_,fun c=>Nat.sub_self _⟩;rw[h2,ho];rfl
   |cons st u=>
    rw[d]at f;dsimp only[aT]at f;cases i:j.cells[q.off]? with
    |none=>grind
    |some tt=>
     rw[i]at f;cases tt with
     |ow a r=>
      dsimp only at f⊢;have ho:q.off=0:=by
       grind
      have O:=i
      rw[h2,ho]at O;obtain rfl:t'=T.ow a r:=by grind
      obtain⟨g',L,e1,R,e3,e4⟩:=C st u a r v (F q.root) d i f h3 Q;refine⟨g',L,?_,R,e3,fun H' B=>?_⟩
      ·grind [plV,aI]
      ·rw[if_neg hb];refine⟨v,_,h1,?_,e4 H' B _⟩;rw[h2,ho];rfl
     |_=>grind
 obtain⟨g,v,m1,m2,m3,m4⟩:=N;have Y:∀b,tot (fun n b=>F n b-if n=q.root then g b else 0) m b+g b=tot F m b:=fun b=>acV G.keys p m3
 refine⟨g,v,m1,m2,m3,Y,fun H' B X ac=>?_⟩;have S:bk m q .any=cM m q.root { j with cells:=match q.path with
    |[]=>j.cells.set q.off .any
    |st::u=>match j.cells[q.off]? with
     |some (.ow sub l)=>j.cells.set q.off (.ow sub (cx sub l .any (st::u)))
     |_=>j.cells }:=by
  unfold bk;rw[p];rfl
 have P:∀c,tot (fun n c=>F n c-if n=q.root then g c else 0) (aP (thr q) (bk m q .any)) c=tot (fun n c=>F n c-if n=q.root then g c else 0) m c:=by
  grind [bu,dI]
 constructor
 ·exact X
 ·intro x hx;simp only[aP,ajK]at hx;obtain⟨x0,hx0,rfl⟩:=hx;dsimp only;rw[S]at hx0;rcases pO G.keys hx0 with⟨hn,hx1⟩|rfl
  ·have h:=sg (γ':=γ) hK B rfl (fun c _=>rfl) (G.roots x0 hx1)
   simp_all
  grind
 ·grind [nZ,mM,Mem.keys]
 ·grind [Mem.le1]
 ·intro c hc;rw[P]at hc;exact G.lt c (by grind)
 grind
theorem Vm{w:World}{H H':FH}(d:∀b o v,H b o=some v->H' b o=some v):∀(k:Nat)(s:Sh)(x:D)(g:Fp)(y:Value),OD w H k s x g y ->
  (∀b,g b≠0->∀o v,w.cell? ⟨b,o,none⟩=some v->H' b o=some v)->FDx H' x y:=by
 intro k;induction k with
 |zero=>
  intro s x g y h hw;cases s with
  |fr=>grind [eJ,fZ]
  |ow sub=>cases x with
   |any=>exact⟨0,trivial⟩
   |_=>simp[OD]at h
 |succ k ih=>
  intro s x g y h hw;cases s with
  |fr=>grind [eJ,fZ]
  |ow sub=>
   cases x with
   |any=>exact⟨0,trivial⟩
   |li l=>
    rw[fq]at h;rcases h with⟨rfl,rfl,_⟩|⟨b,c,cs,ty,frz,g',h1,h2,h3,h4,h5,h6,h7,h8,h9⟩
    ·exact lj
    ·subst h1;have hb:∀o v,w.cell? ⟨b,o,none⟩=some v->H' b o=some v:=hw b (by grind)
     obtain⟨n,hn⟩:=GI (H:=H') (l:=l) (b:=b) (o:=0) (e:=sub.length) (fun i hi=>by
      have a:l.getD i []=l[i]:=by grind
      refine⟨by grind,fun j hj=>?_⟩;have hk:i*sub.length+j<l.flatten.length:=by
       rw[cR _ _ h7];have:(i+1)*sub.length<=l.length*sub.length:=aj2 _ hi
       grind
      obtain⟨x,hx⟩:∃x,l.flatten[i*sub.length+j]? = some x:=⟨_,aiY hk⟩
      obtain⟨s,v,g2,m,f,a3,a4⟩:=r9 h8 hx
      grind [World.cell?,eA])
     exact⟨n+1,kj.2 ⟨some ⟨b,0,none⟩,c,rfl,h5,h6,.inr ⟨b,0,sub.length,rfl,hn⟩⟩⟩
   |int _ _=>simp[OD]at h
   |bool _=>simp[OD]at h
   |str _=>simp[OD]at h
   |mp _=>simp[OD]at h
   |fn _ _=>simp[OD]at h
   |v _=>simp[OD]at h
def upd(f:Nm->α)(n:Nm)(x:α):Nm->α:=fun k=>if k=n then x else f k
theorem fF{f:Nm->α}{x:α}:upd f n x n=x:=by simp[upd]
theorem oE{f:Nm->α}{k:Nm}{x:α}(h:k≠n):upd f n x k=f k:=by simp[upd,h]
theorem wc{m:Mm}:af m n=none ↔ n ∉ m.map (·.1):=by
 induction m<;>grind [af]
theorem TM{m:Mm}(h:cj m q):af m q.root≠none:=by
 grind [aA]
theorem ql{w:World}{γ:Gam}{m:Mm}{rc:RC}(hn:af m n=none):Keeps w γ m w (upd γ n rc) ((n,r)::m):=by
 have a:∀q:Pl,cj m q->q.root≠n:=fun q hq e=>TM hq (by grind)
 have b:∀k,k≠n->af ((n,r)::m) k=af m k:=fun k hk=>by grind [af]
 constructor
 all_goals grind [aA,plA,oE,fC,cm,plV]
theorem Ur{F':Nm->Fp}{m:Mm}(h:∀x∈m,F' x.1 b=F x.1 b):tot F' m b=tot F m b:=by
 induction m with
 |nil=>rfl
 |cons x m ih=>
  grind [eT]
theorem Ew{w:World}{H:FH}{γ:Gam}{m:Mm}(g:Mem w H γ m F){rc:RC}{r:Root}(hn:af m n=none)
  (hr:bZ w H (upd γ n rc) ((n,r)::m) n r f) (hd:∀b,tot F m b+f b<=1) (hl:∀b,f b≠0->b<w.heap.size/\∀o,H b o=none) :
  Mem w H (upd γ n rc) ((n,r)::m) (upd F n f)/\∀b,tot (upd F n f) ((n,r)::m) b=f b+tot F m b:=by
 have i:=ql (w:=w) (γ:=γ) (rc:=rc) (r:=r) hn
 have d:∀x∈m,x.1≠n:=fun x hx e=>by
  grind [wc]
 have a:∀b,tot (upd F n f) ((n,r)::m) b=f b+tot F m b:=fun b=>by
  rw[eT,fF,Ur (fun x hx=>by rw[oE (d x hx)])]
 refine⟨⟨g.agree,?_,?_,?_,?_,?_⟩,a⟩
 ·intro x hx;rcases ai7.1 hx with rfl|c
  ·grind [fF]
  ·rw[oE (d x c)];exact bh i (fun _ _ _ h=>h) (oE (d x c)) (fun _ _=>rfl) (g.roots x c)
 ·grind [Mem.keys]
 ·grind
 ·grind [Mem.lt]
 ·intro b hb;rw[a]at hb;by_cases h:f b=0
  ·exact g.nofz b kQ1
  grind
def bU(n:Nm)(_:Bool)(p:Pl):Bool:=decide (p.root=n)
theorem mF{m:Mm}{k:Nm}(h:k≠n):af (cv m n) k=af m k:=by
 induction m<;>grind [cv,af]
theorem AK{m:Mm}(h:x∈cv m n):x∈m:=by
 induction m with
 |nil=>exact h
 |cons y m ih=>
  grind [cv]
theorem AP{m:Mm}(h:(m.map (·.1)).Nodup):((cv m n).map (·.1)).Nodup:=by
 induction m with
 |nil=>exact h
 |cons y m ih=>
  obtain⟨j,z⟩:=y;simp only[aiZ,aj3]at h;simp only[cv];split
  ·exact h.2
  ·simp only[aiZ,aj3];refine⟨fun hj=>h.1 ?_,ih h.2⟩;obtain⟨x,hx,e⟩:=ajK.1 hj
   grind [AK]
theorem gC{m:Mm}:tot F (cv m n) b<=tot F m b:=by
 induction m with
 |nil=>exact ai0 _
 |cons y m ih=>
  grind [cv,eT]
theorem fp{w:World}{γ:Gam}{m:Mm}:KeepsB (bU n) w γ m w γ (aP (bU n) (cv m n)):=by
 constructor
 all_goals grind [bU,sT,aA,mF,sU,cm]
theorem Ex{w:World}{H:FH}{γ:Gam}{m:Mm}(a:Mem w H γ m F)(n:Nm):Mem w H γ (aP (bU n) (cv m n)) F:=by
 constructor
 ·exact a.agree
 ·intro x hx;simp only[aP,ajK]at hx;obtain⟨c,hx0,rfl⟩:=hx;exact sg fp (fun _ _ _ h=>h) rfl (fun _ _=>rfl) (a.roots c (AK hx0))
 ·rw[nZ];exact AP a.keys
 ·grind [bu,gC,Mem.le1]
 ·intro b hb;rw[bu]at hb;exact a.lt b (by grind [gC])
 ·intro b hb;rw[bu]at hb;exact a.nofz b (by grind [gC])
theorem K6(sub:List Sh)(n m:Nat):(List.replicate (n+m) sub).flatten=(List.replicate n sub).flatten++(List.replicate m sub).flatten:=by
 grind [List.replicate_append_replicate]
theorem ze{w:World}{H:FH}{c:Nat}{l:List (List D)}{g:Fp}{cs:Array Value}{ty:TypeId}{fz:Nat×Nat}
  (h1:w.heap[b]? = some (.cells cs ty fz)) (h2:KB fz cs.size) (h3:cs.size=c*sub.length) (h4:l.length<=c) (h5:l.length<=BIG) (h6:∀x∈l,x.length=sub.length)
  (h7:Cs (OD w H k) (List.replicate l.length sub).flatten l.flatten g cs.toList) :
  OD w H (k+1) (.ow sub) (.li l) (fun d=>g d+if d=b then 1 else 0) (.slice (some ⟨b,0,none⟩) l.length c):=
 fq.2 (.inr ⟨b,c,cs,ty,fz,g,rfl,h1,h2,h3,h4,h5,h6,h7,fun _=>rfl⟩)
theorem mm{w:World}{H:FH}{l:List (List D)}(h:OD w H (k+1) (.ow sub) (.li l) f y) :
  ∃a c,∃g:Fp,∃vs:List Value,y=.slice a l.length c/\l.length<=c/\l.length<=BIG/\(∀x∈l,x.length=sub.length)/\vs.length=l.length*sub.length/\Cs (OD w H k) (List.replicate l.length sub).flatten l.flatten g vs /\
   ((l=[]/\a=none/\c=0/\∀b,f b=0)\/∃b cs ty fz,a=some ⟨b,0,none⟩/\w.heap[b]? = some (.cells cs ty fz)/\KB fz cs.size/\cs.size=c*sub.length/\vs=cs.toList.take (l.length*sub.length)/\∀d,f d=g d+if d=b then 1 else 0):=by
 rw[fq]at h;rcases h with⟨rfl,rfl,h0⟩|⟨b,c,cs,ty,fz,g,h1,h2,h3,h4,h5,h6,h7,h8,h9⟩
 ·exact⟨none,0,fun _=>0,[],rfl,ai0 _,ajW _,by simp,by simp,by intro b;rfl,.inl ⟨rfl,rfl,rfl,h0⟩⟩
 ·have e:l.flatten.length=l.length*sub.length:=cR _ _ h7
  have i:l.length*sub.length<=cs.toList.length:=by
   simp_all[aj2]
  exact⟨some ⟨b,0,none⟩,c,g,cs.toList.take (l.length*sub.length),h1,h5,h6,h7,by grind,
   OY _ _ _ _ _ kQ1 h8,.inr ⟨b,cs,ty,fz,rfl,h2,h3,h4,rfl,h9⟩⟩
theorem ye{n:Nat}{l xs:List (List D)}(h1:∀x∈l,x.length=n)(h2:∀x∈xs,x.length=n):∀x∈l++xs,x.length=n:=by
 grind
theorem UT{w:World}{H:FH}{l xs:List (List D)}{g gx:Fp}{ws rest:List Value}(h1:∀x∈l,x.length=sub.length)(hv:vs.length=l.length*sub.length)
  (h3:Cs (OD w H k) (List.replicate l.length sub).flatten l.flatten g vs) (h4:Cs (OD w H k) (List.replicate xs.length sub).flatten xs.flatten gx ws) :
  Cs (OD w H k) (List.replicate (l++xs).length sub).flatten (l++xs).flatten (fun b=>g b+gx b) (vs++ws++rest):=by
 grind [K6,OX,Cq,cR]
def tb:List (Nat×AV)->Nat->AV->List (Nat×AV)
 |[],i,v=>[(i,v)]
 |(k,x)::t,i,v=>if k=i then(k,v)::t else(k,x)::tb t i v
def S.put(s:S):Option Tmp->AV->S
 |none,_=>s
 |some d,v=>{ s with t:=tb s.t d v }
def okD(nt:Nat):Option Tmp->Bool
 |none=>true
 |some d=>decide (d<nt)
theorem iW(t:List (Nat×AV))(d i:Nat)(v:AV):bd (tb t d v) i=if d=i then v else bd t i:=by
 induction t<;>grind [tb,bd]
theorem sJ(bad:Bool->Pl->Bool)(t:List (Nat×AV))(i:Nat):bd (oP bad t) i=(bd t i).kill bad:=by
 induction t with
 |nil=>rfl
 |cons x t ih=>
  obtain⟨k,u⟩:=x;simp only[oP,aiZ,bd];split
  ·rfl
  ·exact ih
theorem Yl(a:Act)(d i:Nat)(y:Value)(hd:d<a.tmps.size):(a.put (some d) y).tmps.getD i undef=if d=i then y else a.tmps.getD i undef:=by
 simp only[Act.put,akQ,Array.getElem?_setIfInBounds]
 grind
theorem RX.put{g:G}{s:S}{w:World}{H:FH}{γ:Gam}(h:RX g s a w H γ F){d:Option Tmp}(hd:okD g.nt d=true){v:AV}(hv:AR w H γ s.m v y) :
  RX g (s.put d v) (a.put d y) w H γ F:=by
 cases d with
 |none=>exact h
 |some d=>
  have hd':d<g.nt:=by grind [okD]
  refine⟨h.mem,h.fr,?_,h.df,fun i=>?_⟩
  ·grind [Act.put,nt]
  ·have hs:d<a.tmps.size:=by grind [nt]
   have e:g.tv (a.put (some d) y) i=if d=i then y else g.tv a i:=by
    grind [Act.put,Yl,G.tv]
   grind [S.put,iW,t]
def lift(g:G)(Q:Exit->S->Prop):Exit->Act->World->Prop:=fun e a w=>∃s,Q e s/\R g s a w
def AW(P:Program)(g:G)(c:Code)(Q:Exit->S->Prop)(s:S):Prop:=∀a w,R g s a w->c.wp P (lift g Q) a w
def AL(P:Program)(g:G)(ops rest:List Oper)(Q:Exit->S->Prop)(s:S):Prop:=∀a w,R g s a w->wpList P ops.toArray (lift g Q) rest a w
def AO(P:Program)(g:G)(o:Oper)(K:S->Prop)(Q:Exit->S->Prop)(s:S):Prop:=
 ∀a w,R g s a w->o.wp P a w (fun a' w'=>∃s',K s'/\R g s' a' w') (lift g Q)
def YS(K:S->Prop)(Q:Exit->S->Prop):Exit->S->Prop
 |.normal,s=>K s
 |e,s=>Q e s
def Mv(id:Nat)(Q:Exit->S->Prop):Exit->S->Prop
 |.exit a,s=>if a=id then Q .normal s else Q (.exit a) s
 |e,s=>Q e s
variable{Q':Exit->S->Prop}
theorem Ty{g:G}{Q:Exit->S->Prop}(h:∀e s,Q e s->Q' e s){e:Exit}{w:World}(hl:lift g Q e a w):lift g Q' e a w:=by
 obtain⟨s,h1,h2⟩:=hl;exact⟨s,h _ _ h1,h2⟩
variable{c:Code}{id:Nat}{o:Oper}{ops rest:List Oper}{want:Bool}
section
variable {P:Program} {g:G} {Q:Exit->S->Prop} {s:S}
theorem AW.mono(h:AW P g c Q s)(hq:∀e s,Q e s->Q' e s):AW P g c Q' s:=
 fun a w hR=>Code.wp_mono (fun _ _ _=>Ty hq) (h a w hR)
theorem OV(h:Q .normal s):AW P g .skip Q s:=fun a w b=>wp_skip ⟨s,h,b⟩
theorem aeC(h:Q .ret s):AW P g .ret Q s:=fun a w b=>wp_ret ⟨s,h,b⟩
theorem Zc(h:Q (.exit id) s):AW P g (.exit id) Q s:=fun a w b=>wp_exit ⟨s,h,b⟩
theorem vp{x y:Code}(h:AW P g x (YS (AW P g y Q) Q) s):AW P g (.seq x y) Q s:=fun a w b=>
 wp_seq (Code.wp_mono (fun e a w hl=>by
  obtain⟨s',h1,h2⟩:=hl;cases e with
  |normal=>exact h1 a w h2
  |exit _=>exact⟨s',h1,h2⟩
  |goto _=>exact⟨s',h1,h2⟩
  |ret=>exact⟨s',h1,h2⟩
  |panic _=>exact⟨s',h1,h2⟩
  |outgrown=>exact⟨s',h1,h2⟩) (h a w b))
theorem UJ(h:AW P g c (Mv id Q) s):AW P g (.block id c) Q s:=fun a w d=>
 wp_block (Code.wp_mono (fun e a w hl=>by
  obtain⟨s',h1,h2⟩:=hl;cases e with
  |exit b=>
   simp only[Mv]at h1;simp only[Exit.inBlock];split
   ·rename_i e;rw[if_pos e]at h1;exact⟨s',h1,h2⟩
   ·rename_i e;rw[if_neg e]at h1;exact⟨s',h1,h2⟩
  |normal=>exact⟨s',h1,h2⟩
  |goto _=>exact⟨s',h1,h2⟩
  |ret=>exact⟨s',h1,h2⟩
  |panic _=>exact⟨s',h1,h2⟩
  |outgrown=>exact⟨s',h1,h2⟩) (h a w d))
theorem Er{t:Tmp}{x y:Code}{b:Bool}(hc:bd s.t t=.one (.c (.d (.bool b))))(f:b=true->AW P g x Q s)(hf:b=false->AW P g y Q s)(e:t<TB:=by decide) :
  AW P g (.cond (.tmp t) x y) Q s:=by
 intro a w i;obtain⟨H,γ,F,hX⟩:=i;have h:=hX.t t
 rw[hc,G.tv_lo e]at h;obtain⟨_,m,h⟩:=h;have h':a.tmps.getD t undef=.bool b:=by cases m<;>exact h
 cases b with
 |true=>exact wp_cond_true (by grind [Act.eval]) (f rfl a w ⟨H,γ,F,hX⟩)
 |false=>exact wp_cond_false (by grind [Act.eval]) (hf rfl a w ⟨H,γ,F,hX⟩)
theorem least{p:Nat->Prop}(h:∃n,p n):∃n,p n/\∀m,m<n->¬ p m:=by
 obtain⟨n,hn⟩:=h;induction n using Nat.strongRecOn<;>grind
theorem OU(I:Nat->S->Prop)(k:Nat)(h0:I k s)(f:∀n s,I n s->AW P g c (YS (fun s'=>∃n',n'<n/\I n' s') Q) s):AW P g (.loop c) Q s:=by
 intro a w l
 let p:Act->World->Nat->Prop:=fun a w n=>∃s,I n s/\R g s a w
 have b:∀a w,(∃n,p a w n)->∃n,p a w n/\∀m,m<n->¬ p a w m:=fun a w h=>least h
 let d:Act->World->Nat:=fun a w=>by
  classical
  exact if h:∃n,p a w n then Classical.choose (b a w h)else 0
 have j:∀a w(h:∃n,p a w n),p a w (d a w)/\∀m,m<d a w->¬ p a w m:=by
  intro a w h;have:d a w=Classical.choose (b a w h):=by simp only[d];rw[dif_pos h]
  rw[this];exact Classical.choose_spec (b a w h)
 refine wp_loop (fun a w=>∃n,p a w n) d ⟨k,s,h0,l⟩ (fun a w o=>?_);obtain⟨⟨s1,h1,h2⟩,_⟩:=j a w o;refine Code.wp_mono (fun e a' w' hl=>?_) (f _ s1 h1 a w h2);obtain⟨s',k1,k2⟩:=hl;cases e with
 |normal=>
  obtain⟨n',k3,k4⟩:=k1;have i:∃n,p a' w' n:=⟨n',s',k4,k2⟩
  refine⟨i,?_⟩;rcases akN (d a' w') (d a w)with h|h
  ·exact h
  ·exact absurd ⟨s',k4,k2⟩ ((j a' w' i).2 n' kQ1)
 |exit _=>exact⟨s',k1,k2⟩
 |goto _=>exact⟨s',k1,k2⟩
 |ret=>exact⟨s',k1,k2⟩
 |panic _=>exact⟨s',k1,k2⟩
 |outgrown=>exact⟨s',k1,k2⟩
theorem qh{l:List Oper}(h:AL P g l l Q s):AW P g (.region id l.toArray false) Q s:=fun a w b=>wp_region_lit (h a w b)
theorem UA(h:Q .normal s):AL P g ops [] Q s:=fun a w b=>wpList_nil ⟨s,h,b⟩
theorem cy{w:World}{N b:Act->World->Prop}{Q Q':Exit->Act->World->Prop}(hN:∀a w,N a w->b a w)(g:∀e a w,Q e a w->Q' e a w)
  (h:o.wp P a w N Q):o.wp P a w b Q':=by
 unfold Oper.wp at h⊢;cases hr:(execOp a.eval o).run P w with
 |halt x w'=>
  rw[hr]at h;cases x with
  |panic v=>exact g _ _ _ h
  |_=>exact h.elim
 |ok x w'=>
  rw[hr]at h;cases x with
  |value v=>exact hN _ _ h
  |skip=>exact hN _ _ h
  |defer d=>exact hN _ _ h
  |enter f args=>
   simp only[Oper.upon]at h⊢;refine Calls.mono h (fun e i he=>?_);cases e with
   |returned v=>grind
   |panicked c=>grind
   |outgrown=>obtain⟨a0,w0,h0⟩:=he;exact⟨a0,w0,g _ _ _ h0⟩
  |row r args=>
   grind [Oper.upon,Rows.mono]
  |_=>exact h.elim
theorem OO(c:o.guard=none)(h:AO P g o (AL P g ops rest Q) Q s):AL P g ops (o::rest) Q s:=fun a w d=>
 wpList_plain c (fun K b=>cy (fun a' w'⟨s',h1,h2⟩=>b _ _ (h1 a' w' h2)) (fun _ _ _ h=>h) (h a w d))
theorem tx{w:World}{H:FH}{γ:Gam}{m:Mm}:AR w H γ m (.tup []) undef:=⟨#[],rfl,trivial⟩
theorem unyielded{s:S}{w:World}{H:FH}{γ:Gam}{ops:Array Oper}{d:Nat}(hX:RX g s a w H γ F)(hj:((ops[j]?).bind (·.dst))=some d)(hd:bd s.t d=.tup []):yielded ops a.tmps j=none:=by
 have hv:=hX.t d
 rw[hd]at hv;rcases akN d a.tmps.size with b|b
 rotate_left
 ·grind [yielded]
 rw[G.tv_lt b]at hv;obtain⟨l,e,hl⟩:=hv;have i:l.toList=[]:=by
  cases h:l.toList with
  |nil=>rfl
  |cons x r=>rw[h]at hl;exact hl.elim
 have c:l=#[]:=by grind
 subst c;simp only[yielded,hj,Option.bind_some];cases f:a.tmps[d]? with
 |none=>rfl
 |some x=>
  rw[akQ,f]at e
  grind
theorem LO{ops:List Oper}{d:Nat}(c:o.guard=some (j,want))(hj:((ops[j]?).bind (·.dst))=some d)
  (hd:bd s.t d=.tup []) (ho:okD g.nt o.dst=true) (h:AL P g ops rest Q (s.put o.dst (.tup []))):AL P g ops (o::rest) Q s:=by
 intro a w f;obtain⟨H,γ,F,hX⟩:=f;have hy:=unyielded (ops:=ops.toArray) hX (by simpa using hj) hd
 refine wpList_step (fun K b=>?_);simp only[Region.wanted,c,hy];have e:((none:Option Bool)==some want)=false:=rfl
 rw[e];simp only[ai8,if_false];exact b _ _ (h (a.put o.dst undef) w ⟨H,γ,F,hX.put ho tx⟩)
theorem Gx{d:Nat}{c:Bool}(q:o.guard=some (j,want))(hj:((ops[j]?).bind (·.dst))=some d)
  (hd:bd s.t d=.one (.c (.d (.bool c)))) (f:okD g.nt (some d)=true) (ho:okD g.nt o.dst=true)
  (h1:c=want->AO P g o (AL P g ops rest Q) Q (s.put (some d) (.one (.c (.d (.bool want))))))
  (h2:c=!want->AL P g ops rest Q ((s.put (some d) (.one (.c (.d (.bool (!want)))))).put o.dst (.tup []))):AL P g ops (o::rest) Q s:=by
 intro a w p;obtain⟨H,γ,F,hX⟩:=p;have hv:=hX.t d
 have k:d<a.tmps.size:=by grind [RX.nt,okD]
 rw[hd,G.tv_lt k]at hv;obtain⟨hz,m,hv⟩:=hv;have n:a.tmps.getD d undef=.bool c:=by cases m<;>exact hv
 have hget:a.tmps[d]? = some (.bool c):=by
  simp_all
 have hy:yielded ops.toArray a.tmps j=some c:=by
  grind [yielded]
 have same:a.put (some d) (.bool c)=a:=by
  simp_all[Act.put,nA]
 have b:RX g (s.put (some d) (.one (.c (.d (.bool c))))) a w H γ F:=by
  have:=hX.put (d:=some d) f (v:=.one (.c (.d (.bool c)))) (y:=.bool c) ⟨fun _=>rfl,0,rfl⟩
  grind
 refine wpList_step (fun K l=>?_);simp only[Region.wanted,q,hy];by_cases hc:c=want
 ·subst hc;simp only[beq_self_eq_true,if_true];exact cy (fun a' w'⟨s',k1,k2⟩=>l _ _ (k1 a' w' k2)) (fun _ _ _ h=>h) (h1 rfl a w ⟨H,γ,F,b⟩)
 ·have i:c=!want:=by cases c<;>cases want<;>simp_all
  subst i;have e:(some (!want)==some want)=false:=by grind
  rw[e];simp only[ai8,if_false];exact l _ _ (h2 rfl (a.put o.dst undef) w ⟨H,γ,F,b.put ho tx⟩)
end
abbrev sc(x:D):AV:=.one (.c (.d x))
def rG:Value->T
 |.bool b=>.d (.bool b)
 |.int k n=>.d (.int k n)
 |.string s=>.d (.str s.data.toList)
 |.slice none 0 0=>.nil
 |.pointer none=>.d (.v (.pointer none))
 |.map none=>.d (.mp none)
 |.nilFunc=>.d (.v .nilFunc)
 |.nilIface=>.d (.v .nilIface)
 |.func f a b=>.d (.v (.func f a b))
 |_=>.any
def cst:Value->AV
 |.agg cs=>.one (.agg (cs.toList.map rG))
 |v=>.one (.c (rG v))
def okT:Value->Bool
 |.int k n=>(Lit.int k n).wf
 |.string s=>decide (s.size<=2 ^ 62)
 |_=>true
def okC:Value->Bool
 |.agg cs=>cs.all okT
 |v=>okT v
def aH:Operand->Bool
 |.const v=>okC v
 |.tmp t=>Nat.blt t 100000
 |.global g=>(rO g).isSome
 |_=>true
def ev(s:S):Operand->AV
 |.tmp t=>bd s.t t
 |.const v=>cst v
 |.func f=>sc (.fn f [])
 |.global g=>match rO g with
  |some row=>.one (.c (.el row 0))
  |none=>.any
theorem PY{w:World}{H:FH}{γ:Gam}{m:Mm}{v:Value}(h:okT v=true):TR w H γ m (rG v) (fun _=>0) v:=by
 cases v with
 |bool b=>exact⟨fun _=>rfl,0,rfl⟩
 |int k n=>exact⟨fun _=>rfl,0,rfl,h⟩
 |string s=>
  refine⟨fun _=>rfl,0,?_,?_⟩
  all_goals simp_all[okT,BIG]
 |slice a n c=>
  cases a with
  |none=>cases n with
   |zero=>cases c with
    |zero=>exact⟨fun _=>rfl,rfl⟩
    |succ c=>intro b;rfl
   |succ n=>intro b;rfl
  |some a=>intro b;rfl
 |pointer a=>cases a with
  |none=>exact⟨fun _=>rfl,0,rfl,rfl⟩
  |some a=>intro b;rfl
 |map a=>cases a with
  |none=>exact⟨fun _=>rfl,0,rfl⟩
  |some a=>intro b;rfl
 |nilFunc=>exact⟨fun _=>rfl,0,rfl,rfl⟩
 |nilIface=>exact⟨fun _=>rfl,0,rfl,rfl⟩
 |func f a b=>exact⟨fun _=>rfl,0,rfl,rfl⟩
 |_=>intro b;rfl
theorem zo{w:World}{H:FH}{γ:Gam}{m:Mm}:∀{l:List Value},l.all okT=true->Ts (TR w H γ m) (l.map rG) (fun _=>0) l
 |[],_=>fun _=>rfl
 |v::l,h=>by
  simp only[ajE,aiW]at h;exact⟨v,l,fun _=>0,fun _=>0,rfl,fun _=>rfl,PY h.1,zo h.2⟩
theorem afJ{w:World}{H:FH}{γ:Gam}{m:Mm}{v:Value}(h:okC v=true):AR w H γ m (cst v) v:=by
 by_cases hv:∃cs,v=.agg cs
 ·obtain⟨cs,rfl⟩:=hv;exact⟨cs,rfl,by simp,zo (by grind [okC])⟩
 ·have e:cst v=.one (.c (rG v))/\okC v=okT v:=by
   cases v with
   |agg cs=>grind
   |_=>exact⟨rfl,rfl⟩
  rw[e.1];exact PY (by grind)
theorem aL{g:G}{s:S}{w:World}{H:FH}{γ:Gam}(h:RX g s a w H γ F){x:Operand}(hx:aH x=true):AR w H γ s.m (ev s x) (a.eval x):=by
 cases x with
 |tmp t=>
  have:=h.t t
  rw[G.tv_lo (show t<TB from Nat.lt_of_lt_of_le (ajA hx) (ai0 _))]at this;exact this
 |const v=>exact afJ hx
 |global n=>
  cases b:rO n with
  |none=>grind [aH]
  |some row=>
   obtain⟨m,c⟩:=(kl h).1 n row b;simp only[ev,b];exact⟨fun _=>rfl,n,0,m,rfl,c⟩
 |func f=>exact⟨fun _=>rfl,1,[],rfl,rfl,fun i row y h=>by simp at h⟩
def D.val:D->Option Value
 |.int k n=>some (.int k n)
 |.bool b=>some (.bool b)
 |.str l=>some (.string ⟨l.toArray⟩)
 |.v x=>some x
 |_=>none
theorem fH{H:FH}{k:IntKind}{n:Int}(h:FDx H (.int k n) y):y=.int k n/\(Lit.int k n).wf=true:=by
 obtain⟨m,h⟩:=h;cases m<;>exact h
theorem jl{H:FH}{b:Bool}(h:FDx H (.bool b) y):y=.bool b:=by
 obtain⟨m,h⟩:=h;cases m<;>exact h
variable{l:List UInt8}
theorem il{H:FH}(h:FDx H (.str l) y):y=.string ⟨l.toArray⟩/\l.length<=BIG:=by
 obtain⟨m,h⟩:=h;cases m<;>exact h
theorem nl{w:World}{H:FH}{γ:Gam}{m:Mm}{k:IntKind}{n:Int}(h:AR w H γ m (sc (.int k n)) y):y=.int k n/\(Lit.int k n).wf=true:=fH h.2
theorem yi{w:World}{H:FH}{γ:Gam}{m:Mm}{b:Bool}(h:AR w H γ m (sc (.bool b)) y):y=.bool b:=jl h.2
theorem Ep{w:World}{H:FH}{γ:Gam}{m:Mm}(h:AR w H γ m (sc (.str l)) y):y=.string ⟨l.toArray⟩/\l.length<=BIG:=il h.2
theorem mh{w:World}{H:FH}{γ:Gam}{m:Mm}{k:IntKind}{n:Int}(h:(Lit.int k n).wf=true):AR w H γ m (sc (.int k n)) (.int k n):=⟨fun _=>rfl,0,rfl,h⟩
theorem gE{w:World}{H:FH}{γ:Gam}{m:Mm}{b:Bool}:AR w H γ m (sc (.bool b)) (.bool b):=⟨fun _=>rfl,0,rfl⟩
theorem qg{w:World}{H:FH}{γ:Gam}{m:Mm}(h:l.length<=BIG):AR w H γ m (sc (.str l)) (.string ⟨l.toArray⟩):=⟨fun _=>rfl,0,rfl,h⟩
theorem UC{P:Program}{g:G}{K:S->Prop}{Q:Exit->S->Prop}{s:S}(hd:okD g.nt o.dst=true)
  (h:∀a w H γ F,RX g s a w H γ F->∃y v,(execOp a.eval o).run P w=.ok (.value y) w/\AR w H γ s.m v y/\K (s.put o.dst v)):AO P g o K Q s:=by
 intro a w ⟨H,γ,F,hX⟩;obtain⟨y,v,h1,h2,h3⟩:=h a w H γ F hX;unfold Oper.wp;rw[h1];exact⟨_,h3,H,γ,F,hX.put hd h2⟩
def vI(op:BinOp):D->D->(D->Prop)->Prop
 |.int k a,.int k' b,K=>
  match op with
  |.add=>k=k'/\K (.int k (k.wrap (a+b)))
  |.sub=>k=k'/\K (.int k (k.wrap (a-b)))
  |.mul=>k=k'/\K (.int k (k.wrap (a*b)))
  |.quo=>k=k'/\b≠0/\K (.int k (k.wrap (a.tdiv b)))
  |.rem=>k=k'/\b≠0/\K (.int k (a.tmod b))
  |.and=>k=k'/\K (.int k (k.wrap (BitVec.ofInt k.bits a &&& BitVec.ofInt k.bits b).toNat))
  |.or=>k=k'/\K (.int k (k.wrap (BitVec.ofInt k.bits a ||| BitVec.ofInt k.bits b).toNat))
  |.xor=>k=k'/\K (.int k (k.wrap (BitVec.ofInt k.bits a ^^^ BitVec.ofInt k.bits b).toNat))
  |.andNot=>k=k'/\K (.int k (k.wrap (BitVec.ofInt k.bits a &&& ~~~BitVec.ofInt k.bits b).toNat))
  |.shl=>0<=b/\K (.int k (k.wrap (a*2 ^ (min b.toNat k.bits))))
  |.shr=>0<=b/\K (.int k (a.fdiv (2 ^ (min b.toNat k.bits))))
  |.eql=>k=k'/\K (.bool (decide (a=b)))
  |.neq=>k=k'/\K (.bool (!decide (a=b)))
  |.lss=>k=k'/\K (.bool (decide (a<b)))
  |.leq=>k=k'/\K (.bool (decide (a<=b)))
  |.gtr=>k=k'/\K (.bool (decide (b<a)))
  |.geq=>k=k'/\K (.bool (decide (b<=a)))
 |.str a,.str b,K=>
  match op with
  |.add=>a.length+b.length<=4611686018427387904/\K (.str (a++b))
  |.eql=>K (.bool (decide (a=b)))
  |.neq=>K (.bool (!decide (a=b)))
  |.lss=>K (.bool (Op.bytesLess a b))
  |.leq=>K (.bool (Op.bytesLess a b||decide (a=b)))
  |.gtr=>K (.bool (!(Op.bytesLess a b||decide (a=b))))
  |.geq=>K (.bool (!Op.bytesLess a b))
  |_=>False
 |_,_,_=>False
theorem vg{a b:Int}(c:0<=a):a.tmod b<=a:=by
 obtain⟨m,rfl⟩:=ak1 c;cases b with
 |ofNat n=>
  have:(m:Int).tmod (Int.ofNat n)=((m % n:Nat):Int):=rfl
  rw[this];exact Int.ofNat_le.2 (Nat.mod_le _ _)
 |negSucc n=>
  have:(m:Int).tmod (Int.negSucc n)=((m % (n+1):Nat):Int):=rfl
  rw[this];exact Int.ofNat_le.2 (Nat.mod_le _ _)
theorem ac0{k:IntKind}{a b:Int}(h:(Lit.int k a).wf=true):(Lit.int k (a.tmod b)).wf=true:=by
 simp only[Lit.wf,aiW,decide_eq_true_eq]at h⊢;obtain⟨h1,h2⟩:=h;have d:k.min<=0:=by cases k<;>decide
 have e:0<=k.max:=by cases k<;>decide
 rcases Int.le_total 0 a with c|c
 ·have h3:0<=a.tmod b:=Int.tmod_nonneg b c
  have h4:a.tmod b<=a:=vg c
  omega
 ·have h0:0 <= -a:=by omega
  have h3:0<=(-a).tmod b:=Int.tmod_nonneg b h0
  have h4:(-a).tmod b <= -a:=vg h0
  rw[Int.neg_tmod]at h3 h4;omega
theorem acZ{k:IntKind}{a:Int}{n:Nat}(h:(Lit.int k a).wf=true):(Lit.int k (a.fdiv (2 ^ n))).wf=true:=by
 simp only[Lit.wf,aiW,decide_eq_true_eq]at h⊢;obtain⟨h1,h2⟩:=h;have c:k.min<=0:=by cases k<;>decide
 have d:0<=k.max:=by cases k<;>decide
 have hp:(0:Int) < 2 ^ n:=Int.pow_pos (by decide)
 have e:a.fdiv (2 ^ n)=a / 2 ^ n:=Int.fdiv_eq_ediv_of_nonneg a kQ1
 rw[e];generalize(2:Int) ^ n=p at *;rcases Int.le_total 0 a with b|b
 ·have h3:0<=a / p:=Int.ediv_nonneg b kQ1
  have h4:a / p<=a:=Int.ediv_le_self _ b
  omega
 ·have h3:a / p<=0:=by
   have:=Int.ediv_le_ediv hp b;simp_all
  have h4:a<=a / p:=by
   refine Int.le_ediv_of_mul_le hp ?_;have h5:(-a)*1<=(-a)*p:=Int.mul_le_mul_of_nonneg_left kQ1 kQ1
   grind
  omega
end Go.Am
end
