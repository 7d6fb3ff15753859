/-
  Part 10: AmWalk · AmPtrCon · AmOwn · AmPtrFn · AmAuto · AmArr · AmSem · AmData · AmU · AmMp · AmMq · AmE1 · AmE2 · AmE4.
-/
import Derived.Test.YteooihiebpbaiaaGreatDoorVp9
import Derived.IntWalk
set_option linter.unusedSimpArgs false
set_option linter.unusedVariables false
set_option linter.unusedSectionVars false
set_option linter.unnecessarySimpa false
section
namespace Go.Am
def afE(ks:List Nat)(t:List (Nat×AV)):List (Nat×AV):=ks.map λk=>(k,aW t k)
def S.drops:List Nm->S->S
 |[],s=>s
 |n::ns,s=>S.drops ns (s.drop n)
def S.cut(ks:List Nat)(ds:List Nm)(s:S):S:=S.drops ds ⟨afE ks s.t,s.m⟩
section
variable {P:Program} {cs:CT} {g:G} {Q:Exit->S->Prop} {s:S}
def S.one(s:S)(d:Nat)(v:AV):S:=⟨(d,v)::s.t,s.m⟩
end
structure Rw (α:Type) where
 enc:α->List D
 dec:List D->Option α
 inv:∀l x,dec l=some x->l=enc x
structure Cd (α:Type) where
 enc:α->AV1
 dec:AV1->Option α
 inv:∀v x,dec v=some x->v=enc x
def dk{α:Type}(c:Rw α):List (List D)->Option (List α)
 |[]=>some []
 |r::rs=>match c.dec r with
  |some x=>match dk c rs with
   |some xs=>some (x::xs)
   |none=>none
  |none=>none
theorem aC{α:Type}{c:Rw α}:∀{l:List (List D)}{xs:List α},dk c l=some xs->l=xs.map c.enc
 |[],xs,h=>by grind [dk]
 |r::rs,xs,h=>by
  simp only[dk]at h;cases h1:c.dec r with
  |none=>grind
  |some x=>
   rw[h1]at h;cases h2:dk c rs with
   |none=>grind
   |some a=>rw[h2]at h;simp only[akO]at h;subst h;rw[c.inv r x h1,aC h2];rfl
def tds:List T->Option (List D)
 |[]=>some []
 |.d x::ts=>match tds ts with
  |some xs=>some (x::xs)
  |none=>none
 |_=>none
theorem Q8:∀{ts:List T}{xs:List D},tds ts=some xs->ts=xs.map T.d
 |[],xs,h=>by grind [tds]
 |.d x::ts,xs,h=>by
  simp only[tds]at h;cases h2:tds ts with
  |none=>grind
  |some a=>rw[h2]at h;simp only[akO]at h;subst h;rw[Q8 h2];rfl
 |.nil::_,_,h=>by simp[tds]at h
 |.ow _ _::_,_,h=>by simp[tds]at h
 |.el _ _::_,_,h=>by simp[tds]at h
 |.pl _::_,_,h=>by simp[tds]at h
 |.rf _::_,_,h=>by simp[tds]at h
 |.any::_,_,h=>by simp[tds]at h
def ai0(k:IntKind):AV1->Option Int
 |.c (.d (.int k' n))=>if k'=k then some n else none
 |_=>none
def cI(k:IntKind):Cd Int where
 enc n:=.c (.d (.int k n))
 dec:=ai0 k
 inv v x h:=by
  unfold ai0 at h
  grind
def aiZ:AV1->Option Bool
 |.c (.d (.bool b))=>some b
 |_=>none
def cB:Cd Bool where
 enc b:=.c (.d (.bool b))
 dec:=aiZ
 inv v x h:=by unfold aiZ at h;grind
def ai1:AV1->Option a8
 |.c (.d (.str b))=>some b
 |_=>none
def cS:Cd a8 where
 enc b:=.c (.d (.str b))
 dec:=ai1
 inv v x h:=by unfold ai1 at h;grind
def ae2{α:Type}(c:Rw α):AV1->Option (List α)
 |.c (.d (.li l))=>dk c l
 |_=>none
def cL{α:Type}(c:Rw α):Cd (List α) where
 enc l:=.c (.d (.li (l.map c.enc)))
 dec:=ae2 c
 inv v x h:=by unfold ae2 at h;grind [aC]
def aiY{α:Type}(c:Rw α):AV1->Option α
 |.agg ts=>match tds ts with
  |some l=>c.dec l
  |none=>none
 |_=>none
def cA{α:Type}(c:Rw α):Cd α where
 enc x:=.agg ((c.enc x).map T.d)
 dec:=aiY c
 inv v x h:=by
  unfold aiY at h
  grind [Q8,Rw.inv]
def ae1:List D->Option a8
 |[.str b]=>some b
 |_=>none
def rS:Rw a8 where
 enc b:=[.str b]
 dec:=ae1
 inv l x h:=by unfold ae1 at h;grind
def ae0(k:IntKind):List D->Option Int
 |[.int k' n]=>if k'=k then some n else none
 |_=>none
def rI(k:IntKind):Rw Int where
 enc n:=[.int k n]
 dec:=ae0 k
 inv l x h:=by
  unfold ae0 at h
  grind
theorem ahU(a:a8):rS.dec [.str a]=some a:=rfl
section
variable {α β γ δ ρ:Type}
def fn0(r:ρ->AV)(v:ρ):List AV->(AV->Prop)->Prop
 |[],K=>K (r v)
 |_,_=>False
def fn1(a:Cd α)(r:ρ->AV)(pre:α->Prop)(f:α->ρ):List AV->(AV->Prop)->Prop
 |[.one x],K=>match a.dec x with
  |some x=>pre x/\K (r (f x))
  |none=>False
 |_,_=>False
def fn2(a:Cd α)(b:Cd β)(r:ρ->AV)(pre:α->β->Prop)(f:α->β->ρ):List AV->(AV->Prop)->Prop
 |[.one x,.one y],K=>match a.dec x,b.dec y with
  |some x,some y=>pre x y/\K (r (f x y))
  |_,_=>False
 |_,_=>False
def fn3(a:Cd α)(b:Cd β)(c:Cd γ)(r:ρ->AV)(pre:α->β->γ->Prop)(f:α->β->γ->ρ):List AV->(AV->Prop)->Prop
 |[.one x,.one y,.one z],K=>match a.dec x,b.dec y,c.dec z with
  |some x,some y,some z=>pre x y z/\K (r (f x y z))
  |_,_,_=>False
 |_,_=>False
def o1(c:Cd ρ)(x:ρ):AV:=.one (c.enc x)
def o2(a:Cd α)(b:Cd β)(x:α×β):AV:=.tup [a.enc x.1,b.enc x.2]
def o3(a:Cd α)(b:Cd β)(c:Cd γ)(x:α×β×γ):AV:=.tup [a.enc x.1,b.enc x.2.1,c.enc x.2.2]
variable {P:Program} {f:Nat} {fn:Func} {c:Code}
end
theorem CT.ok0{P:Program}:CT.Ok P []:=λx hx=>by grind
theorem CT.cons{P:Program}{f:Nat}{C:CK1}{cs:CT}(h:Con P f C)(hs:cs.Ok P):CT.Ok P ((f,C)::cs):=λx hx=>by
 simp only[akX]at hx;rcases hx with rfl|hx
 .exact h
 exact hs x hx
theorem jI{n:Int}(h1:-9223372036854775808<=n)(h2:n<=9223372036854775807):IntKind.i64.wrap n=n:=IntWalk.i64_in n ⟨h1,h2⟩
theorem ac{i:Nat}(h:i < 9223372036854775807):IntKind.i64.wrap ((i:Int)+1)=((i+1:Nat):Int):=by grind [jI]
def ajD(P:Program)(cs:CT)(all:List Oper)(o:Oper)(s:S)(K:S->Prop):Prop:=
 match o.guard with
 |none=>opK P cs o s K
 |some (j,want)=>match(all[j]?).bind (·.dst)with
  |some d=>match aW s.t d with
   |.one (.c (.d (.bool c)))=>gsel c want (opK P cs o (s.put (some d) (sc (.bool want))) K) (K ((s.put (some d) (sc (.bool (!want)))).put o.dst (.tup [])))
   |.tup []=>K (s.put o.dst (.tup []))
   |_=>False
  |none=>False
section
variable {P:Program} {cs:CT} {all:List Oper}
def ajE(P:Program)(all:List Oper)(i:Nat)(fz:Bool)(s:S)(K:S->Prop):Prop:=
 match all[i]? with
 |none=>False
 |some o=>gK all o s (λs=>(fz=true->gG s o)/\qK P o s λv=>K (s.put o.dst v)) K
end
theorem ahV(b:a8):rS.enc b=[.str b]:=rfl
theorem ahT(k:IntKind)(n:Int):(rI k).enc n=[.int k n]:=rfl
theorem agH(k:IntKind)(n:Int):(cI k).enc n=.c (.d (.int k n)):=rfl
theorem agG(b:Bool):cB.enc b=.c (.d (.bool b)):=rfl
theorem agM(b:a8):cS.enc b=.c (.d (.str b)):=rfl
theorem agK{α:Type}(c:Rw α)(l:List α):(cL c).enc l=.c (.d (.li (l.map c.enc))):=rfl
theorem agE{α:Type}(c:Rw α)(x:α):(cA c).enc x=.agg ((c.enc x).map T.d):=rfl
theorem agF(b:Bool):cB.dec (.c (.d (.bool b)))=some b:=rfl
theorem agL(b:a8):cS.dec (.c (.d (.str b)))=some b:=rfl
theorem agJ{α:Type}(c:Rw α)(l:List (List D)):(cL c).dec (.c (.d (.li l)))=dk c l:=rfl
theorem agD{α:Type}(c:Rw α)(ts:List T):(cA c).dec (.agg ts)=match tds ts with
  |some l=>c.dec l
  |none=>none:=rfl
theorem ajV(x:D):sc x=.one (.c (.d x)):=rfl
attribute [push_cast] oz List.append_eq decide_false decide_true akS ur ka eqD TD Option.isSome_some List.toList_toArray T.owned T.ment T.toD pW iz List.set_cons_zero List.set_cons_succ mkT inK aV mN ic sJ qU jo ki Jw aU bk Jv thr Pl.offs Option.map_some Option.map_none am4 List.replicate_zero List.zipWith_cons_cons List.zipWith_nil_left List.zipIdx_cons List.zipIdx_nil amU alV List.append_nil s4 T.frz LD Sh.isFr TK.isSS bne List.isPrefixOf List.cons_beq_cons Nm.loc.injEq Nm.gh.injEq Nm.out.injEq gsel ne_eq not_false_eq_true not_true_eq_false Nat.one_ne_zero akV ajD opK ev cst rQ cO aW tw S.put Zo ite_true if_true if_false akY ak7 q9 xy Ks Mz vW am7 alT amN Bool.and_false ak9 alX Bool.or_true Bool.or_false Bool.true_or Bool.false_or Bool.not_not amD List.getElem?_cons_succ true_and and_true forall_const Option.bind_some K0 gH gF uJ false_and and_false false_implies true_implies implies_true decide_eq_true_eq decide_eq_false_iff_not alA Bool.not_eq_false' beq_self_eq_true afE S.cut S.drops S.one List.map_cons List.map_nil ajV ahV ahT agH agG agM agK agE agF agL agJ agD tds dk ahU CT.get fn0 fn1 fn2 fn3 o1 o2 o3 pc Jx Xu Dw AV.isFz AV1.isFz T.isFz AV.map AV1.map T.canon ak2 anA S.drop nu aM AV.kill AV1.kill T.kill bm bQ ah cz S.fresh S.root ajE gK ahL qK gG JO kU unK wU okv okvs List.drop_zero List.take_zero List.drop_succ_cons List.take_succ_cons List.take_nil List.drop_nil ahW wO il p5 fR wN Sf ff T.sure vS wT dG jc room tf Pl.add atK ve Cr Yt QL nE gR lg jX overw chunk T.fz
def T.ren(a b:Nm):T->T
 |.pl p=>.pl ⟨if p.root=a then b else p.root,p.off,p.path⟩
 |t=>t
def T.self(a:Nm):T->Bool
 |.pl p=>decide (p.root=a)&&p.path.isEmpty
 |.rf _=>false
 |_=>true
def mz(r:Nm)(rf:Bool)(p:Pl):Bool:=decide (p.root=r)&&(rf||!p.path.isEmpty)
def ai7(j:Nat)(P:Program)(s:S)(rs:List ResultVar)(K:AV->List T->Prop):Prop:=
 match ah (il s rs).m (.out j)with
 |some ⟨true,cells⟩=>wO P s rs (λv=>K v cells)
 |_=>False
def ajU(j:Nat)(b:List AV->List T->(AV->List T->Prop)->Prop):CK1:=λs ops k=>
 match ops with
 |[]=>False
 |o::os=>
  let s1:=pc s (os.map (ev s))
  match ev s1 o with
  |.one (.c (.pl ⟨r,0,[]⟩))=>match ah s1.m r with
   |some ⟨true,cells⟩=>(Nm.out j).tyd=r.tyd/\cells.all (T.self r)=true/\(os.map (ev s1)).all AV.isFz=true /\
     b (os.map λx=>(ev s1 x).map T.canon) (cells.map (T.ren r (.out j))) (λres a=>a.length=cells.length/\a.all (T.self (.out j))=true /\
      k ⟨nu (mz r) s1.t,(r,⟨true,a.map (T.ren (.out j) r)⟩)::aM (bm r) (bQ s1.m r)⟩ res)
   |_=>False
  |_=>False
variable{n:Nm}{r:Root}
section
variable {w w':World} {H H':FH} {γ γ':Gam} {m m':Mm}
theorem vQ{n':Nm}{cells:List T}{f:Fp}{b:Nat}(h:bv w H γ m n ⟨true,cells⟩ f)(hn:n'.tyd=n.tyd)(hs:cells.all (T.self n)=true)(A:γ n=.blk b)(hm:ah m n=some ⟨true,cells⟩)
  (k:γ' n'=.blk b) (s:∃i,ah m' n'=some ⟨true,i⟩/\i.length=cells.length):bv w H γ' m' n' ⟨true,cells.map (T.ren n n')⟩ f:=by
 unfold bv at h|-;rw[if_pos rfl]at h|-;obtain⟨b0,cs,ty,fz,g,h1,h2,h3,h4,h5,h6⟩:=h;rw[A]at h1;obtain rfl:b=b0:=by grind
 refine⟨b,cs,ty,fz,g,k,h2,⟨h3.1,λt F=>h3.2 t (by grind)⟩,by grind,?_,h6⟩;unfold Ts at h5|-;rw[akV];obtain⟨i,y,E⟩:=s;have key:∀(j:List Unit)(xs:List T)(f:Fp)(vs:List Value),xs.all (T.self n)=true->Cs (λ_ t=>TR w H γ m t) j xs f vs->Cs (λ_ t=>TR w H γ' m' t) j (xs.map (T.ren n n')) f vs:=by
  intro j xs;induction xs generalizing j with
  |nil=>intro f vs _ h;cases j<;>exact h
  |cons x xs ih=>
   intro f vs hx h;simp only[ak2,akP]at hx;cases j with
   |nil=>exact h.elim
   |cons u j=>
    obtain⟨v,r,f1,B,hv,hf,k1,k2⟩:=h;refine⟨v,r,f1,B,hv,hf,?_,ih j B r hx.2 k2⟩;cases x with
    |pl p=>
     obtain⟨root,off,path⟩:=p;have hp:=hx.1
     simp only[T.self,akP,decide_eq_true_eq,List.isEmpty_iff]at hp;obtain⟨rfl,rfl⟩:=hp;obtain⟨z,q,a,ha,e⟩:=k1;simp only[T.ren,if_true];refine⟨z,?_,a,?_,e⟩
     .rw[ay]at q|-;obtain⟨r0,C,q2⟩:=q;rw[hm]at C;obtain rfl:=Option.some.inj C;exact⟨_,y,by
       have D:off<cells.length:=q2
       show off<i.length
       omega⟩
     grind [plA]
    |rf p=>grind [T.self]
    |d x=>exact k1
    |nil=>exact k1
    |ow sub l=>exact k1
    |mp l=>exact k1
    |it c l=>exact k1
    |el row o=>exact k1
    |any=>exact k1
 grind
theorem ms{F:Nm->Fp}{m:Mm}(hk:ah m n=some r)(c:Nat):tot F (bQ m n) c+F n c=tot F m c:=by induction m<;>grind [ah,bQ,eY]
theorem JA{m:Mm}(hk:(m.map (·.1)).Nodup):ah (aM (bm n) (bQ m n)) n=none:=by grind [wm,oL,rv]
end
section
variable {P:Program}
theorem Y3{g:G}{s:S}{a:Act}{w:World}{H:FH}{γ:Gam}{F:Nm->Fp}(h:RX g s a w H γ F)(f:g.ex=none){fn:Func}{k:AV->Prop}(hk:wO P s fn.results.toList k) :
  ∃y v H' F',(results fn a.tmps).run P w=.ok y w/\RX g (il s fn.results.toList) a w H' γ F'/\AR w H' γ (il s fn.results.toList).m v y/\v.isFz=true/\k (v.map T.canon):=by
 unfold wO at hk;obtain⟨H1,F1,h1⟩:=sF fn.results.toList s H F h;obtain⟨c,xs,p,d,b,l⟩:=th h1 f hk;have e:(results fn a.tmps).run P w=.ok (if h:c.toArray.size=1 then c.toArray[0]else .tuple c.toArray) w:=by simp_all[lr,Array.mapM_eq_mapM_toList]
 refine⟨_,(match xs with|[x]=>.one x|xs=>.tup xs),H1,F1,e,h1,?_⟩
 match xs,c,d,b with
 |[],[],d,b=>exact⟨⟨#[],by simp,trivial⟩,b.1,b.2⟩
 |[x],[y],d,b=>exact⟨d.1,b.1,b.2⟩
 |n::o::xs,i::j::c,d,b=>exact⟨⟨(i::j::c).toArray,by simp,by omega⟩,b.1,b.2⟩
end
section
variable {w:World} {H:FH} {γ:Gam} {m:Mm} {F:Nm->Fp}
theorem yM{α β:Type}{R:α->β->Fp->Value->Prop}{x':β}:∀{a:List α}{xs:List β}{f:Fp}{vs:List Value}{k:Nat}{x:β},xs[k]? = some x->(∀s g v,R s x g v->R s x' g v)->Cs R a xs f vs->Cs R a (xs.set k x') f vs
 |[],[],_,_,_,_,hx,_,_=>by grind
 |s::a,y::xs,f,vs,0,x,hx,b,h=>by obtain⟨v,r,f1,c,hv,hf,h1,h2⟩:=h;simp only[amD,akO]at hx;subst hx;exact⟨v,r,f1,c,hv,hf,b _ _ _ h1,h2⟩
 |s::a,y::xs,f,vs,k+1,x,hx,b,h=>by obtain⟨v,r,f1,c,hv,hf,h1,h2⟩:=h;simp only[List.getElem?_cons_succ]at hx;exact⟨v,r,f1,c,hv,hf,h1,yM hx b h2⟩
 |[],_::_,_,_,_,_,_,_,h=>h.elim
 |_::_,[],_,_,_,_,_,_,h=>h.elim
theorem Il{cells:List T}{bl:Bool}(hr:ah m n=some ⟨bl,cells⟩){off:Nat}(hc:cells[off]? = some .nil)(sub:List Sh):Keeps w γ m w γ (cz m n ⟨bl,cells.set off (.ow sub [])⟩):=by
 constructor
 .intro q hq;refine⟨?_,rfl⟩;rw[ay]at hq|-;obtain⟨r,h1,h2⟩:=hq;rw[fM hr];by_cases hn:n=q.root
  .subst hn;rw[if_pos rfl];rw[hr]at h1;obtain rfl:=Option.some.inj h1;refine⟨_,rfl,?_⟩;obtain⟨d,a,b⟩:=q;cases b with
   |nil=>
    have c:a<cells.length:=h2
    show a < (cells.set off (.ow sub [])).length
    grind
   |cons st u=>grind [aS]
  grind
 intro q hq;refine⟨?_,rfl⟩;rw[bV]at hq|-;obtain⟨r,h1,h2⟩:=hq;rw[fM hr];by_cases hn:n=q.root
 .subst hn;rw[if_pos rfl];rw[hr]at h1;obtain rfl:=Option.some.inj h1;refine⟨_,rfl,?_⟩;obtain⟨d,a,b⟩:=q;dsimp only[bz]at h2|-
  grind
 grind
end
def S.ownR(n:Nm)(off:Nat)(sub:List Sh)(s:S):S:=
 match ah s.m n with
 |some ⟨true,cells⟩=>match cells[off]? with
  |some .nil=>⟨s.t,cz s.m n ⟨true,cells.set off (.ow sub [])⟩⟩
  |_=>s
 |_=>s
theorem Z1{g:G}{s:S}{a:Act}{w:World}{H:FH}{γ:Gam}{F:Nm->Fp}(h:RX g s a w H γ F)(n:Nm)(off:Nat)(sub:List Sh):RX g (s.ownR n off sub) a w H γ F:=by
 unfold S.ownR;split
 .rename_i cells hr;split
  .rename_i hc;have c:=Il (w:=w) (γ:=γ) hr hc sub
   have hm:=h.mem
   refine⟨⟨hm.agree,λx hx=>?_,?_,λb=>?_,λb hb=>?_,λb hb=>?_⟩,⟨h.fr.size,h.fr.os,h.fr.tape,h.fr.output,h.fr.block,h.fr.hold,h.fr.hnew,λb hb=>?_,h.fr.nz⟩,h.nt,h.df,λi=>dw c (λ_ _ _ h=>h) (h.t i)⟩
   .rcases qf hm.keys hx with⟨_,hy⟩|rfl
    .exact aZ c (λ_ _ _ h=>h) rfl (λ_ _=>rfl) (hm.roots x hy)
    have h1:=aZ c (λ_ _ _ h=>h) rfl (λ_ _=>rfl) (hm.roots _ (aj hr))
    unfold bv at h1|-;dsimp only at h1|-;rw[if_pos rfl]at h1|-;obtain⟨b,cs,ty,fz,g',k1,k2,k3,k4,k5,k6⟩:=h1;refine⟨b,cs,ty,fz,g',k1,k2,k3,by grind,?_,k6⟩;unfold Ts at k5|-;rw[amG];refine yM hc (λ_ f v hv=>?_) k5;obtain⟨z,rfl⟩:=hv;exact⟨1,fo.2 (.inl ⟨rfl,rfl,z⟩)⟩
   .rw[np];exact hm.keys
   .rw[dH];exact hm.le1 b
   .rw[dH]at hb;exact hm.lt b hb
   .rw[dH]at hb;exact hm.nofz b hb
   rw[dH]at hb;exact h.fr.tt b hb
  omega
 omega
def S.mvR(n:Nm)(s:S):S:=
 match ah s.m n with
 |some r=>⟨s.t,(n,r)::bQ s.m n⟩
 |none=>s
def Uj(t:Nat)(n':Nm)(sub:List Sh)(s:S):S:=
 match aW s.t t with
 |.one (.c .nil)=>match ah (s.fresh n').m n',n'.isOut with
  |none,false=>⟨tw (s.fresh n').t t (.one (.c (.rf ⟨n',0,[]⟩))),(n',⟨false,[.ow sub []]⟩)::(s.fresh n').m⟩
  |_,_=>s
 |.one (.c (.rf ⟨n,0,[]⟩))=>match ah s.m n with
  |some ⟨false,[.ow a l]⟩=>match n'.isOut with
   |false=>⟨tw ((s.drop n).fresh n').t t (.one (.c (.rf ⟨n',0,[]⟩))),(n',⟨false,[.ow a l]⟩)::((s.drop n).fresh n').m⟩
   |_=>s
  |_=>s
 |_=>s
def S.own:List (Nat×Nm×List Sh)->S->S
 |[],s=>s
 |(t,n,sub)::r,s=>S.own r (if 2000000<=t then s.mvR n else if 1000000<=t then s.ownR n (t - 1000000) sub else Uj t n sub s)
section
variable {g:G} {s:S} {a:Act} {w:World} {H:FH} {γ:Gam} {F:Nm->Fp}
theorem P8(h:RX g s a w H γ F){t:Nat}{v:AV}(hv:AR w H γ s.m v (g.tv a t)):RX g ⟨tw s.t t v,s.m⟩ a w H γ F:=by
 refine⟨h.mem,h.fr,h.nt,h.df,λi=>?_⟩
 grind [iT,RX.t]
theorem Y7{m:Mm}{sub:List Sh}{l:List (List D)}{v:Value}(hr:r=⟨false,[.ow sub l]⟩)(a:γ n=.gh v):AR w H γ ((n,r)::m) (.one (.c (.rf ⟨n,0,[]⟩))) v:=by
 subst hr;refine⟨λ_=>rfl,?_,?_⟩
 .simp_all[bV,ah,bz]
 show aH w (γ n) 0=some v
 rw[a];rfl
theorem P7(h:RX g s a w H γ F)(t:Nat)(n':Nm)(sub:List Sh):∃γ' F',RX g (Uj t n' sub s) a w H γ' F':=by
 unfold Uj;split
 .rename_i i;split
  .rename_i c hno;have h1:=cY h n'
   have hv:=h.t t
   rw[i]at hv;obtain⟨_,hv⟩:=hv;obtain⟨γ',F',h2,p⟩:=dR h1 hno c (v:=.slice none 0 0) (t:=.ow sub []) (f:=λ_=>0) ⟨1,fo.2 (.inl ⟨rfl,rfl,λ_=>rfl⟩)⟩ (λb=>by have:=h1.mem.le1 b;omega) (λb hb=>absurd rfl hb) (λb hb=>absurd rfl hb);exact⟨γ',F',P8 h2 (by grind [Y7])⟩
  grind
 .rename_i n q
  .split
   .rename_i e l d;split
    .rename_i hno;obtain⟨v,f,r,k,hd,j⟩:=Ir h d;have h1:=cY hd n'
     have o:∀b,tot F ((s.drop n).fresh n').m b<=tot F (s.drop n).m b:=by
      intro b;unfold S.fresh;split
      .omega
      show tot F (aM _ _) b<=_
      rw[bg];exact gp
     have hv:=h.t t
     rw[q]at hv;obtain⟨_,_,hv⟩:=hv;have u:v=g.tv a t:=by grind [plV,aH]
     obtain⟨γ',F',h2,p⟩:=dR h1 hno (b9 hd n') (v:=v) (t:=.ow e l) (f:=f) (k _) (λb=>by have:=o b;have:=j b;have:=h.mem.le1 b;omega)
      (λb hb=>⟨h.mem.lt b (by grind),h.mem.nofz b (by grind)⟩) (λb hb=>h.fr.tt b (by grind))
     exact⟨γ',F',P8 h2 (by grind [Y7])⟩
    grind
   grind
 grind
def S.cutO(ns:List (Nat×Nm×List Sh))(ks:List Nat)(ds:List Nm)(s:S):S:=(s.own ns).cut ks ds
variable {P:Program} {Q:Exit->S->Prop}
def aeZ:List D->Option UInt8
 |[.int .u8 n]=>if 0<=n/\n < 256 then some (UInt8.ofNat n.toNat)else none
 |_=>none
def rB:Rw UInt8 where
 enc b:=[.int .u8 (b.toNat:Int)]
 dec:=aeZ
 inv l x h:=by
  unfold aeZ at h
  grind [UInt8.toNat_ofNat']
theorem adL(b:a8):(b.map λc=>[D.int .u8 (c.toNat:Int)])=b.map rB.enc:=rfl
theorem FJ(a:Nat)(l:List Nat):(([]:List Nat)==a::l)=false:=rfl
theorem ES(a:Nat)(l:List Nat):((a::l)==([]:List Nat))=false:=rfl
attribute [push_cast] FJ ES adL S.own Uj S.ownR S.mvR bQ S.cutO Nm.isOut D.sure
end
def QQ(cells:List T)(off:Nat)(sub:List Sh):List T:=
 match cells[off]? with
 |some .nil=>cells.set off (.ow sub [])
 |_=>cells
def A4:List (Nat×List Sh)->List T->List T
 |[],cells=>cells
 |(off,sub)::r,cells=>A4 r (QQ cells off sub)
section
variable {w:World} {H:FH} {γ:Gam} {m:Mm} {F:Nm->Fp}
end
section
variable {g:G} {a:Act} {w:World} {H:FH} {γ:Gam} {F:Nm->Fp}
end
structure Cs1 (σ:Type) where
 j:Nat
 enc:σ->List T
 dec:List T->Option σ
 offs:List (Nat×List Sh)
 inv:∀l x,dec l=some x->A4 offs l=enc x
 self:∀x,(enc x).all (T.self (.out j))=true
 ren:∀l x n,dec l=some x->dec (l.map (T.ren n (.out j)))=some x
section
variable {α β γ' ρ σ:Type}
def fp0(c:Cs1 σ)(r:ρ->AV)(pre:σ->Prop)(f:σ->ρ×σ):List AV->List T->(AV->List T->Prop)->Prop
 |[],cells,K=>match c.dec cells with
  |some s=>pre s/\K (r (f s).1) (c.enc (f s).2)
  |none=>False
 |_,_,_=>False
def fp1(c:Cs1 σ)(a:Cd α)(r:ρ->AV)(pre:σ->α->Prop)(f:σ->α->ρ×σ):List AV->List T->(AV->List T->Prop)->Prop
 |[.one x],cells,K=>match c.dec cells,a.dec x with
  |some s,some x=>pre s x/\K (r (f s x).1) (c.enc (f s x).2)
  |_,_=>False
 |_,_,_=>False
def fp2(c:Cs1 σ)(a:Cd α)(b:Cd β)(r:ρ->AV)(pre:σ->α->β->Prop)(f:σ->α->β->ρ×σ):List AV->List T->(AV->List T->Prop)->Prop
 |[.one x,.one y],cells,K=>match c.dec cells,a.dec x,b.dec y with
  |some s,some x,some y=>pre s x y/\K (r (f s x y).1) (c.enc (f s x y).2)
  |_,_,_=>False
 |_,_,_=>False
variable {P:Program} {f:Nat} {fn:Func} {co:Code}
end
attribute [push_cast] akR List.isEmpty_nil List.isEmpty_cons ajU fp0 fp1 fp2 T.ren T.self mz QQ A4 ai7
attribute [push_cast] lJ Nm.tyd
section
variable {P:Program} {cs:CT} {all:List Oper} {g:G} {Q:Exit->S->Prop}
end
def T.isD:T->Bool
 |.d _=>true
 |_=>false
def T.frB(n:Nm)(row:List D):T->T
 |.pl p=>match p.path with
  |[]=>if p.root=n then .el row p.off else .pl p
  |_=>(T.pl p).kill (bm n)
 |t=>t.kill (bm n)
def S.frzB(n:Nm)(s:S):S:=
 match ah s.m n with
 |some ⟨true,cells⟩=>if cells.all T.isD=true then⟨s4 (AV.map (T.frB n (cells.map T.toD))) s.t,aM (bm n) (bQ s.m n)⟩else s
 |_=>s
theorem CD{H:FH}{row:List D}{b o:Nat}(h:∀j,j<row.length->∃y:Value,H b (o+j)=some y/\FDx H (row.getD j default) y):∃m,BP H m row b o:=by
 have key:∀n,n<=row.length->∃m,∀j,j<n->∃y:Value,H b (o+j)=some y/\FD H m (row.getD j default) y:=by
  intro n;induction n with
  |zero=>simp_all
  |succ n ih=>
   intro hn;obtain⟨e,h1⟩:=ih kQ1;obtain⟨y,hy,c,hf⟩:=h n kQ1;refine⟨e+c,λj hj=>?_⟩;by_cases a:j=n
   .subst a;exact⟨y,hy,gq (λ_ _ _ h=>h) _ _ _ _ kQ1 hf⟩
   obtain⟨z,d,hf⟩:=h1 j kQ1;exact⟨z,d,gq (λ_ _ _ h=>h) _ _ _ _ kQ1 hf⟩
 exact key row.length (akR _)
section
variable {P:Program} {g:G} {s:S} {a:Act} {w:World} {H:FH} {γ:Gam} {F:Nm->Fp}
theorem BJ{F:Nm->Fp}{m:Mm}(hk:ah m n=some r)(c:Nat):tot F (bQ m n) c+F n c=tot F m c:=by induction m<;>grind [ah,bQ,eY]
theorem ZY(h:RX g s a w H γ F)(n:Nm):∃H',RX g (s.frzB n) a w H' γ F:=by
 unfold S.frzB;split
 rotate_left
 .grind
 rename_i cells hr;split
 rotate_left
 .grind
 rename_i A;have O:=h.mem.roots _ (aj hr)
 unfold bv at O;rw[if_pos rfl]at O;obtain⟨b,cs,ty,fz,f,X,P,Z,U,R,Y⟩:=O;dsimp only at X U R Y;have hd:=tY h n
 have N:(s.drop n).m=aM (bm n) (bQ s.m n):=rfl
 have I:∀c,tot F (aM (bm n) (bQ s.m n)) c+F n c=tot F s.m c:=λc=>by grind [bg,BJ]
 let H':FH:=λk o=>if k=b then(w.cell? ⟨k,o,none⟩).map HV.c else H k o
 have W:F n b≠0:=by grind
 have E:tot F s.m b≠0:=by grind
 have J:∀k o y,H k o=some y->H' k o=some y:=by
  intro k o y hy;simp only[H'];split
  .rename_i e;subst e;rw[h.mem.nofz _ E o]at hy;cases hy
  omega
 have M:∀k o y,H' k o=some y->RdV w k o y:=by
  intro k o y hy;simp only[H']at hy;split at hy
  .obtain⟨z,hz,rfl⟩:=ak5.1 hy;exact hz
  exact h.mem.agree k o y hy
 have r:=hd.mem
 rw[N]at r;have K:Keeps w γ (aM (bm n) (bQ s.m n)) w γ (aM (bm n) (bQ s.m n)):=⟨λq hq=>⟨hq,rfl⟩,λq hq=>⟨hq,rfl⟩⟩
 have L:∀j,w.cell? ⟨b,j,none⟩=cs[j]? := λj=>by simp[World.cell?,P]
 have C:∃m,BP H' m (cells.map T.toD) b 0:=by
  refine CD (λj hj=>?_);rw[akV]at hj;have B:cells[j]? = some cells[j]:=akQ hj
  obtain⟨v,q,v1,Q,_⟩:=EA R B;have D:=ak0.1 A cells[j] (amK hj)
  refine⟨v,?_,?_⟩
  .grind
  rw[List.getD,akT,B];simp only[Option.map_some,alK];generalize cells[j]=t at Q D;cases t with
  |d x=>exact eL J Q.2
  |_=>grind [T.isD]
 refine⟨H',⟨?_,?_,h.nt,h.df,λi=>?_⟩⟩
 .refine⟨M,λx hx=>aZ K J rfl (λ_ _=>rfl) (r.roots x hx),r.keys,r.le1,r.lt,λk hk o=>?_⟩;have u:k≠b:=by intro e;subst e;have h1:=I k;have h2:=h.mem.le1 k;grind
  simp only[H'];rw[if_neg u];exact r.nofz k hk o
 .refine⟨h.fr.size,h.fr.os,h.fr.tape,h.fr.output,h.fr.block,λk o y hy=>J _ _ _ (h.fr.hold k o y hy),λk o h1 h2=>?_,λk hk=>h.fr.tt k ?_,h.fr.nz.1,λk o x l c h1 h2=>?_⟩
  rotate_left 2
  .by_cases u:k=b
   .subst u;have e0:fz=(0,0):=Z.1
    subst e0;exact⟨_,_,P⟩
   simp only[H']at h1;rw[if_neg u]at h1;exact h.fr.nz.2 k o x l c h1 h2
  .by_cases u:k=b
   .subst u;exact h.fr.tt k E
   simp only[H']at h1;rw[if_neg u]at h1;exact h.fr.hnew k o h1 h2
  grind
 show AR w H' γ _ (aW (s4 _ s.t) i) _
 rw[q8 rfl];refine iG (λt y G=>?_) (h.t i);have hk:=λ(t:T) (G:TR w H γ s.m t (λ_=>0) y)=>qR (eD (n:=n)) J (λ_ hb=>absurd rfl hb) G
 cases t with
 |pl p=>
  obtain⟨pn,po,pp⟩:=p;cases pp with
  |nil=>
   simp only[T.frB];split
   .rename_i hc;subst hc;obtain⟨_,_,ad,V,hy⟩:=G;obtain⟨m,hm⟩:=C;have:ad=⟨b,po,none⟩:=by grind [plA]
    subst this;exact⟨λ_=>rfl,b,0,m,by grind,hm⟩
   grind [bm,T.kill]
  |cons st q=>exact hk _ G
 |_=>exact hk _ G
variable {Q:Exit->S->Prop}
end
def tI(k:IntKind)(n:Int):T:=.d (.int k n)
theorem Zk(k:IntKind)(n:Int):(tI k n).owned=false:=rfl
attribute [push_cast] Pl.at xH bG bX okO
attribute [push_cast high] Zk
attribute [push_cast] T.isD T.frB S.frzB s4 oz amB anK Nat.mul_one Nat.sub_zero T.toD am4 List.replicate_zero
section
variable {P:Program} {cs:CT} {all:List Oper} {g:G} {Q:Exit->S->Prop}
end
end Go.Am
end

section
open Go Go.Am
namespace Lt
structure Var where
 Name:a8
 Type_:a8
 deriving Inhabited,DecidableEq
def Var.enc(x:Var):List D:=[.str x.Name,.str x.Type_]
def Var.dec:List D->Option Var
 |[.str v0,.str v1]=>some ⟨v0,v1⟩
 |_=>none
theorem Var.dec_inv:∀(l:List D)(x:Var),Var.dec l=some x->l=x.enc:=by
 intro l x h;unfold Var.dec at h;split at h
 .simp only[akO]at h;subst h;rfl
 simp at h
def Var.rw:Rw Var:=⟨Var.enc,Var.dec,Var.dec_inv⟩
theorem Var.rows(l:List Var):(∀x∈l.map Var.enc,x.length=2)=True:=by simp[Var.enc]
attribute [push_cast] Var.enc Var.dec Var.rows
structure Class where
 Name:a8
 Fields:List Var
 deriving Inhabited,DecidableEq
def Class.enc(x:Class):List D:=[.str x.Name,.li (x.Fields.map Var.enc)]
def Class.dec:List D->Option Class
 |[.str v0,.li v1]=>(dk Var.rw v1).bind λw1=>some ⟨v0,w1⟩
 |_=>none
theorem Class.dec_inv:∀(l:List D)(x:Class),Class.dec l=some x->l=x.enc:=by
 intro l x h;unfold Class.dec at h;split at h
 .simp only[alB,akO]at h;obtain⟨w1,hw1,rfl⟩:=h;rw[aC hw1];rfl
 simp at h
def Class.rw:Rw Class:=⟨Class.enc,Class.dec,Class.dec_inv⟩
theorem Class.rows(l:List Class):(∀x∈l.map Class.enc,x.length=2)=True:=by simp[Class.enc]
attribute [push_cast] Class.enc Class.dec Class.rows
structure Extern where
 Name:a8
 N:Int
 deriving Inhabited,DecidableEq
def Extern.enc(x:Extern):List D:=[.str x.Name,.int .i64 x.N]
def Extern.dec:List D->Option Extern
 |[.str v0,.int .i64 v1]=>some ⟨v0,v1⟩
 |_=>none
theorem Extern.dec_inv:∀(l:List D)(x:Extern),Extern.dec l=some x->l=x.enc:=by
 intro l x h;unfold Extern.dec at h;split at h
 .simp only[akO]at h;subst h;rfl
 simp at h
def Extern.rw:Rw Extern:=⟨Extern.enc,Extern.dec,Extern.dec_inv⟩
theorem Extern.rows(l:List Extern):(∀x∈l.map Extern.enc,x.length=2)=True:=by simp[Extern.enc]
attribute [push_cast] Extern.enc Extern.dec Extern.rows
structure Arg where
 Kind:Int
 S:a8
 N:Int
 deriving Inhabited,DecidableEq
def Arg.enc(x:Arg):List D:=[.int .i64 x.Kind,.str x.S,.int .i64 x.N]
def Arg.dec:List D->Option Arg
 |[.int .i64 v0,.str v1,.int .i64 v2]=>some ⟨v0,v1,v2⟩
 |_=>none
theorem Arg.dec_inv:∀(l:List D)(x:Arg),Arg.dec l=some x->l=x.enc:=by
 intro l x h;unfold Arg.dec at h;split at h
 .simp only[akO]at h;subst h;rfl
 simp at h
def Arg.rw:Rw Arg:=⟨Arg.enc,Arg.dec,Arg.dec_inv⟩
theorem Arg.rows(l:List Arg):(∀x∈l.map Arg.enc,x.length=3)=True:=by simp[Arg.enc]
attribute [push_cast] Arg.enc Arg.dec Arg.rows
structure In where
 Block:a8
 A:Arg
 deriving Inhabited,DecidableEq
def In.enc(x:In):List D:=[.str x.Block,.int .i64 x.A.Kind,.str x.A.S,.int .i64 x.A.N]
def In.dec:List D->Option In
 |[.str v0,.int .i64 v1,.str v2,.int .i64 v3]=>some ⟨v0,⟨v1,v2,v3⟩⟩
 |_=>none
theorem In.dec_inv:∀(l:List D)(x:In),In.dec l=some x->l=x.enc:=by
 intro l x h;unfold In.dec at h;split at h
 .simp only[akO]at h;subst h;rfl
 simp at h
def In.rw:Rw In:=⟨In.enc,In.dec,In.dec_inv⟩
theorem In.rows(l:List In):(∀x∈l.map In.enc,x.length=4)=True:=by simp[In.enc]
attribute [push_cast] In.enc In.dec In.rows
structure Phi where
 Dst:List UInt8
 Ins:List In
 deriving Inhabited,DecidableEq
def Phi.enc(x:Phi):List D:=[.str x.Dst,.li (x.Ins.map In.enc)]
def Phi.dec:List D->Option Phi
 |[.str v0,.li v1]=>(dk In.rw v1).bind λw1=>some ⟨v0,w1⟩
 |_=>none
theorem Phi.dec_inv:∀(l:List D)(x:Phi),Phi.dec l=some x->l=x.enc:=by
 intro l x h;unfold Phi.dec at h;split at h
 .simp only[alB,akO]at h;obtain⟨w1,hw1,rfl⟩:=h;rw[aC hw1];rfl
 simp at h
def Phi.rw:Rw Phi:=⟨Phi.enc,Phi.dec,Phi.dec_inv⟩
theorem Phi.rows(l:List Phi):(∀x∈l.map Phi.enc,x.length=2)=True:=by simp[Phi.enc]
attribute [push_cast] Phi.enc Phi.dec Phi.rows
structure Bind where
 Name:a8
 A:Arg
 deriving Inhabited,DecidableEq
def Bind.enc(x:Bind):List D:=[.str x.Name,.int .i64 x.A.Kind,.str x.A.S,.int .i64 x.A.N]
def Bind.dec:List D->Option Bind
 |[.str v0,.int .i64 v1,.str v2,.int .i64 v3]=>some ⟨v0,⟨v1,v2,v3⟩⟩
 |_=>none
theorem Bind.dec_inv:∀(l:List D)(x:Bind),Bind.dec l=some x->l=x.enc:=by
 intro l x h;unfold Bind.dec at h;split at h
 .simp only[akO]at h;subst h;rfl
 simp at h
def Bind.rw:Rw Bind:=⟨Bind.enc,Bind.dec,Bind.dec_inv⟩
theorem Bind.rows(l:List Bind):(∀x∈l.map Bind.enc,x.length=4)=True:=by simp[Bind.enc]
attribute [push_cast] Bind.enc Bind.dec Bind.rows
structure Frame where
 Func:a8
 Block:a8
 At:Int
 Vars:List Bind
 deriving Inhabited,DecidableEq
def Frame.enc(x:Frame):List D:=[.str x.Func,.str x.Block,.int .i64 x.At,.li (x.Vars.map Bind.enc)]
def Frame.dec:List D->Option Frame
 |[.str v0,.str v1,.int .i64 v2,.li v3]=>(dk Bind.rw v3).bind λw3=>some ⟨v0,v1,v2,w3⟩
 |_=>none
theorem Frame.dec_inv:∀(l:List D)(x:Frame),Frame.dec l=some x->l=x.enc:=by
 intro l x h;unfold Frame.dec at h;split at h
 .simp only[alB,akO]at h;obtain⟨w3,hw3,rfl⟩:=h;rw[aC hw3];rfl
 simp at h
def Frame.rw:Rw Frame:=⟨Frame.enc,Frame.dec,Frame.dec_inv⟩
theorem Frame.rows(l:List Frame):(∀x∈l.map Frame.enc,x.length=4)=True:=by simp[Frame.enc]
attribute [push_cast] Frame.enc Frame.dec Frame.rows
structure Virt where
 Class:a8
 Vals:List Arg
 deriving Inhabited,DecidableEq
def Virt.enc(x:Virt):List D:=[.str x.Class,.li (x.Vals.map Arg.enc)]
def Virt.dec:List D->Option Virt
 |[.str v0,.li v1]=>(dk Arg.rw v1).bind λw1=>some ⟨v0,w1⟩
 |_=>none
theorem Virt.dec_inv:∀(l:List D)(x:Virt),Virt.dec l=some x->l=x.enc:=by
 intro l x h;unfold Virt.dec at h;split at h
 .simp only[alB,akO]at h;obtain⟨w1,hw1,rfl⟩:=h;rw[aC hw1];rfl
 simp at h
def Virt.rw:Rw Virt:=⟨Virt.enc,Virt.dec,Virt.dec_inv⟩
theorem Virt.rows(l:List Virt):(∀x∈l.map Virt.enc,x.length=2)=True:=by simp[Virt.enc]
attribute [push_cast] Virt.enc Virt.dec Virt.rows
structure Instr where
 Op:Int
 Dst:List UInt8
 Name:a8
 Args:List Arg
 Frames:List Frame
 Objs:List Virt
 deriving Inhabited,DecidableEq
def Instr.enc(x:Instr):List D:=[.int .i64 x.Op,.str x.Dst,.str x.Name,.li (x.Args.map Arg.enc),.li (x.Frames.map Frame.enc),.li (x.Objs.map Virt.enc)]
def Instr.dec:List D->Option Instr
 |[.int .i64 v0,.str v1,.str v2,.li v3,.li v4,.li v5]=>(dk Arg.rw v3).bind λw3=>(dk Frame.rw v4).bind λw4=>(dk Virt.rw v5).bind λw5=>some ⟨v0,v1,v2,w3,w4,w5⟩
 |_=>none
theorem Instr.dec_inv:∀(l:List D)(x:Instr),Instr.dec l=some x->l=x.enc:=by
 intro l x h;unfold Instr.dec at h;split at h
 .simp only[alB,akO]at h;obtain⟨w3,hw3,w4,hw4,w5,hw5,rfl⟩:=h;rw[aC hw3,aC hw4,aC hw5];rfl
 simp at h
def Instr.rw:Rw Instr:=⟨Instr.enc,Instr.dec,Instr.dec_inv⟩
theorem Instr.rows(l:List Instr):(∀x∈l.map Instr.enc,x.length=6)=True:=by simp[Instr.enc]
attribute [push_cast] Instr.enc Instr.dec Instr.rows
structure Term where
 Kind:Int
 A:Arg
 To:List a8
 N:Int
 deriving Inhabited,DecidableEq
def Term.enc(x:Term):List D:=[.int .i64 x.Kind,.int .i64 x.A.Kind,.str x.A.S,.int .i64 x.A.N,.li (x.To.map rS.enc),.int .i64 x.N]
def Term.dec:List D->Option Term
 |[.int .i64 v0,.int .i64 v1,.str v2,.int .i64 v3,.li v4,.int .i64 v5]=>(dk rS v4).bind λw4=>some ⟨v0,⟨v1,v2,v3⟩,w4,v5⟩
 |_=>none
theorem Term.dec_inv:∀(l:List D)(x:Term),Term.dec l=some x->l=x.enc:=by
 intro l x h;unfold Term.dec at h;split at h
 .simp only[alB,akO]at h;obtain⟨w4,hw4,rfl⟩:=h;rw[aC hw4];rfl
 simp at h
def Term.rw:Rw Term:=⟨Term.enc,Term.dec,Term.dec_inv⟩
theorem Term.rows(l:List Term):(∀x∈l.map Term.enc,x.length=6)=True:=by simp[Term.enc]
attribute [push_cast] Term.enc Term.dec Term.rows
structure Block where
 Name:a8
 Phis:List Phi
 Code:List Instr
 End:Term
 deriving Inhabited,DecidableEq
def Block.enc(x:Block):List D:=[.str x.Name,.li (x.Phis.map Phi.enc),.li (x.Code.map Instr.enc),.int .i64 x.End.Kind,.int .i64 x.End.A.Kind,.str x.End.A.S,.int .i64 x.End.A.N,.li (x.End.To.map rS.enc),.int .i64 x.End.N]
def Block.dec:List D->Option Block
 |[.str v0,.li v1,.li v2,.int .i64 v3,.int .i64 v4,.str v5,.int .i64 v6,.li v7,.int .i64 v8]=>(dk Phi.rw v1).bind λw1=>(dk Instr.rw v2).bind λw2=>(dk rS v7).bind λw7=>some ⟨v0,w1,w2,⟨v3,⟨v4,v5,v6⟩,w7,v8⟩⟩
 |_=>none
theorem Block.dec_inv:∀(l:List D)(x:Block),Block.dec l=some x->l=x.enc:=by
 intro l x h;unfold Block.dec at h;split at h
 .simp only[alB,akO]at h;obtain⟨w1,hw1,w2,hw2,w7,hw7,rfl⟩:=h;rw[aC hw1,aC hw2,aC hw7];rfl
 simp at h
def Block.rw:Rw Block:=⟨Block.enc,Block.dec,Block.dec_inv⟩
theorem Block.rows(l:List Block):(∀x∈l.map Block.enc,x.length=9)=True:=by simp[Block.enc]
attribute [push_cast] Block.enc Block.dec Block.rows
structure Func where
 Name:a8
 Result:List UInt8
 Params:List Var
 Vars:List Var
 Blocks:List Block
 deriving Inhabited,DecidableEq
def Func.enc(x:Func):List D:=[.str x.Name,.str x.Result,.li (x.Params.map Var.enc),.li (x.Vars.map Var.enc),.li (x.Blocks.map Block.enc)]
def Func.dec:List D->Option Func
 |[.str v0,.str v1,.li v2,.li v3,.li v4]=>(dk Var.rw v2).bind λw2=>(dk Var.rw v3).bind λw3=>(dk Block.rw v4).bind λw4=>some ⟨v0,v1,w2,w3,w4⟩
 |_=>none
theorem Func.dec_inv:∀(l:List D)(x:Func),Func.dec l=some x->l=x.enc:=by
 intro l x h;unfold Func.dec at h;split at h
 .simp only[alB,akO]at h;obtain⟨w2,hw2,w3,hw3,w4,hw4,rfl⟩:=h;rw[aC hw2,aC hw3,aC hw4];rfl
 simp at h
def Func.rw:Rw Func:=⟨Func.enc,Func.dec,Func.dec_inv⟩
theorem Func.rows(l:List Func):(∀x∈l.map Func.enc,x.length=5)=True:=by simp[Func.enc]
attribute [push_cast] Func.enc Func.dec Func.rows
structure Program where
 SSA:Bool
 Classes:List Class
 Globals:List Var
 Externs:List Extern
 Funcs:List Func
 deriving Inhabited,DecidableEq
def Program.enc(x:Program):List D:=[.bool x.SSA,.li (x.Classes.map Class.enc),.li (x.Globals.map Var.enc),.li (x.Externs.map Extern.enc),.li (x.Funcs.map Func.enc)]
def Program.dec:List D->Option Program
 |[.bool v0,.li v1,.li v2,.li v3,.li v4]=>(dk Class.rw v1).bind λw1=>(dk Var.rw v2).bind λw2=>(dk Extern.rw v3).bind λw3=>(dk Func.rw v4).bind λw4=>some ⟨v0,w1,w2,w3,w4⟩
 |_=>none
theorem Program.dec_inv:∀(l:List D)(x:Program),Program.dec l=some x->l=x.enc:=by
 intro l x h;unfold Program.dec at h;split at h
 .simp only[alB,akO]at h;obtain⟨w1,hw1,w2,hw2,w3,hw3,w4,hw4,rfl⟩:=h;rw[aC hw1,aC hw2,aC hw3,aC hw4];rfl
 simp at h
def Program.rw:Rw Program:=⟨Program.enc,Program.dec,Program.dec_inv⟩
theorem Program.rows(l:List Program):(∀x∈l.map Program.enc,x.length=5)=True:=by simp[Program.enc]
attribute [push_cast] Program.enc Program.dec Program.rows
structure Reader where
 p:Program
 at_:Int
 where_:Int
 first:Bool
 long:Int
 deriving Inhabited,DecidableEq
def Reader.enc(x:Reader):List D:=[.bool x.p.SSA,.li (x.p.Classes.map Class.enc),.li (x.p.Globals.map Var.enc),.li (x.p.Externs.map Extern.enc),.li (x.p.Funcs.map Func.enc),.int .i64 x.at_,.int .i64 x.where_,.bool x.first,.int .i64 x.long]
def Reader.dec:List D->Option Reader
 |[.bool v0,.li v1,.li v2,.li v3,.li v4,.int .i64 v5,.int .i64 v6,.bool v7,.int .i64 v8]=>(dk Class.rw v1).bind λw1=>(dk Var.rw v2).bind λw2=>(dk Extern.rw v3).bind λw3=>(dk Func.rw v4).bind λw4=>some ⟨⟨v0,w1,w2,w3,w4⟩,v5,v6,v7,v8⟩
 |_=>none
theorem Reader.dec_inv:∀(l:List D)(x:Reader),Reader.dec l=some x->l=x.enc:=by
 intro l x h;unfold Reader.dec at h;split at h
 .simp only[alB,akO]at h;obtain⟨w1,hw1,w2,hw2,w3,hw3,w4,hw4,rfl⟩:=h;rw[aC hw1,aC hw2,aC hw3,aC hw4];rfl
 simp at h
def Reader.rw:Rw Reader:=⟨Reader.enc,Reader.dec,Reader.dec_inv⟩
theorem Reader.rows(l:List Reader):(∀x∈l.map Reader.enc,x.length=9)=True:=by simp[Reader.enc]
attribute [push_cast] Reader.enc Reader.dec Reader.rows
structure Fault where
 e:Int
 deriving Inhabited,DecidableEq
def Fault.enc(x:Fault):List D:=[.int .i64 x.e]
def Fault.dec:List D->Option Fault
 |[.int .i64 v0]=>some ⟨v0⟩
 |_=>none
theorem Fault.dec_inv:∀(l:List D)(x:Fault),Fault.dec l=some x->l=x.enc:=by
 intro l x h;unfold Fault.dec at h;split at h
 .simp only[akO]at h;subst h;rfl
 simp at h
def Fault.rw:Rw Fault:=⟨Fault.enc,Fault.dec,Fault.dec_inv⟩
theorem Fault.rows(l:List Fault):(∀x∈l.map Fault.enc,x.length=1)=True:=by simp[Fault.enc]
attribute [push_cast] Fault.enc Fault.dec Fault.rows
structure Line where
 N:Int
 Words:List a8
 deriving Inhabited,DecidableEq
def Line.enc(x:Line):List D:=[.int .i64 x.N,.li (x.Words.map rS.enc)]
def Line.dec:List D->Option Line
 |[.int .i64 v0,.li v1]=>(dk rS v1).bind λw1=>some ⟨v0,w1⟩
 |_=>none
theorem Line.dec_inv:∀(l:List D)(x:Line),Line.dec l=some x->l=x.enc:=by
 intro l x h;unfold Line.dec at h;split at h
 .simp only[alB,akO]at h;obtain⟨w1,hw1,rfl⟩:=h;rw[aC hw1];rfl
 simp at h
def Line.rw:Rw Line:=⟨Line.enc,Line.dec,Line.dec_inv⟩
theorem Line.eta(x:Line):(⟨x.N,x.Words⟩:Line)=x:=rfl
theorem Line.rwe(x:Line):Line.rw.enc x=x.enc:=rfl
theorem Line.rwd(l:List D):Line.rw.dec l=Line.dec l:=rfl
theorem Line.rwm:Line.rw.enc=Line.enc:=rfl
theorem Line.rows(l:List Line):(∀x∈l.map Line.enc,x.length=2)=True:=by simp[Line.enc]
attribute [push_cast] Line.enc Line.dec Line.eta Line.rwe Line.rwd Line.rwm Line.rows
structure RForm where
 Word:a8
 Dst:Bool
 Named:Bool
 Least:Int
 Most:Int
 deriving Inhabited,DecidableEq
def RForm.enc(x:RForm):List D:=[.str x.Word,.bool x.Dst,.bool x.Named,.int .i64 x.Least,.int .i64 x.Most]
def RForm.dec:List D->Option RForm
 |[.str v0,.bool v1,.bool v2,.int .i64 v3,.int .i64 v4]=>some ⟨v0,v1,v2,v3,v4⟩
 |_=>none
theorem RForm.dec_inv:∀(l:List D)(x:RForm),RForm.dec l=some x->l=x.enc:=by
 intro l x h;unfold RForm.dec at h;split at h
 .simp only[akO]at h;subst h;rfl
 simp at h
def RForm.rw:Rw RForm:=⟨RForm.enc,RForm.dec,RForm.dec_inv⟩
theorem RForm.rows(l:List RForm):(∀x∈l.map RForm.enc,x.length=5)=True:=by simp[RForm.enc]
attribute [push_cast] RForm.enc RForm.dec RForm.rows
structure asked where
 p:Program
 i:Instr
 dst:List UInt8
 args:List a8
 deriving Inhabited,DecidableEq
def asked.enc(x:asked):List D:=[.bool x.p.SSA,.li (x.p.Classes.map Class.enc),.li (x.p.Globals.map Var.enc),.li (x.p.Externs.map Extern.enc),.li (x.p.Funcs.map Func.enc),.int .i64 x.i.Op,.str x.i.Dst,.str x.i.Name,.li (x.i.Args.map Arg.enc),.li (x.i.Frames.map Frame.enc),.li (x.i.Objs.map Virt.enc),.str x.dst,.li (x.args.map rS.enc)]
def asked.dec:List D->Option asked
 |[.bool v0,.li v1,.li v2,.li v3,.li v4,.int .i64 v5,.str v6,.str v7,.li v8,.li v9,.li v10,.str v11,.li v12]=>(dk Class.rw v1).bind λw1=>(dk Var.rw v2).bind λw2=>(dk Extern.rw v3).bind λw3=>(dk Func.rw v4).bind λw4=>(dk Arg.rw v8).bind λw8=>(dk Frame.rw v9).bind λw9=>(dk Virt.rw v10).bind λw10=>(dk rS v12).bind λw12=>some ⟨⟨v0,w1,w2,w3,w4⟩,⟨v5,v6,v7,w8,w9,w10⟩,v11,w12⟩
 |_=>none
theorem asked.dec_inv:∀(l:List D)(x:asked),asked.dec l=some x->l=x.enc:=by
 intro l x h;unfold asked.dec at h;split at h
 .simp only[alB,akO]at h;obtain⟨w1,hw1,w2,hw2,w3,hw3,w4,hw4,w8,hw8,w9,hw9,w10,hw10,w12,hw12,rfl⟩:=h;rw[aC hw1,aC hw2,aC hw3,aC hw4,aC hw8,aC hw9,aC hw10,aC hw12];rfl
 simp at h
def asked.rw:Rw asked:=⟨asked.enc,asked.dec,asked.dec_inv⟩
theorem asked.rows(l:List asked):(∀x∈l.map asked.enc,x.length=13)=True:=by simp[asked.enc]
attribute [push_cast] asked.enc asked.dec asked.rows
structure Read where
 P:Program
 Where:Int
 Long:Int
 deriving Inhabited,DecidableEq
def Read.enc(x:Read):List D:=[.bool x.P.SSA,.li (x.P.Classes.map Class.enc),.li (x.P.Globals.map Var.enc),.li (x.P.Externs.map Extern.enc),.li (x.P.Funcs.map Func.enc),.int .i64 x.Where,.int .i64 x.Long]
def Read.dec:List D->Option Read
 |[.bool v0,.li v1,.li v2,.li v3,.li v4,.int .i64 v5,.int .i64 v6]=>(dk Class.rw v1).bind λw1=>(dk Var.rw v2).bind λw2=>(dk Extern.rw v3).bind λw3=>(dk Func.rw v4).bind λw4=>some ⟨⟨v0,w1,w2,w3,w4⟩,v5,v6⟩
 |_=>none
theorem Read.dec_inv:∀(l:List D)(x:Read),Read.dec l=some x->l=x.enc:=by
 intro l x h;unfold Read.dec at h;split at h
 .simp only[alB,akO]at h;obtain⟨w1,hw1,w2,hw2,w3,hw3,w4,hw4,rfl⟩:=h;rw[aC hw1,aC hw2,aC hw3,aC hw4];rfl
 simp at h
def Read.rw:Rw Read:=⟨Read.enc,Read.dec,Read.dec_inv⟩
theorem Read.rows(l:List Read):(∀x∈l.map Read.enc,x.length=7)=True:=by simp[Read.enc]
attribute [push_cast] Read.enc Read.dec Read.rows
structure RLine where
 N:Int
 Words:List a8
 deriving Inhabited,DecidableEq
def RLine.enc(x:RLine):List D:=[.int .i64 x.N,.li (x.Words.map rS.enc)]
def RLine.dec:List D->Option RLine
 |[.int .i64 v0,.li v1]=>(dk rS v1).bind λw1=>some ⟨v0,w1⟩
 |_=>none
theorem RLine.dec_inv:∀(l:List D)(x:RLine),RLine.dec l=some x->l=x.enc:=by
 intro l x h;unfold RLine.dec at h;split at h
 .simp only[alB,akO]at h;obtain⟨w1,hw1,rfl⟩:=h;rw[aC hw1];rfl
 simp at h
def RLine.rw:Rw RLine:=⟨RLine.enc,RLine.dec,RLine.dec_inv⟩
theorem RLine.rows(l:List RLine):(∀x∈l.map RLine.enc,x.length=2)=True:=by simp[RLine.enc]
attribute [push_cast] RLine.enc RLine.dec RLine.rows
structure Form where
 Word:a8
 Dst:Bool
 Named:Bool
 Least:Int
 Most:Int
 deriving Inhabited,DecidableEq
def Form.enc(x:Form):List D:=[.str x.Word,.bool x.Dst,.bool x.Named,.int .i64 x.Least,.int .i64 x.Most]
def Form.dec:List D->Option Form
 |[.str v0,.bool v1,.bool v2,.int .i64 v3,.int .i64 v4]=>some ⟨v0,v1,v2,v3,v4⟩
 |_=>none
theorem Form.dec_inv:∀(l:List D)(x:Form),Form.dec l=some x->l=x.enc:=by
 intro l x h;unfold Form.dec at h;split at h
 .simp only[akO]at h;subst h;rfl
 simp at h
def Form.rw:Rw Form:=⟨Form.enc,Form.dec,Form.dec_inv⟩
theorem Form.rows(l:List Form):(∀x∈l.map Form.enc,x.length=5)=True:=by simp[Form.enc]
attribute [push_cast] Form.enc Form.dec Form.rows
structure step where
 at_:Int
 next:Int
 deriving Inhabited,DecidableEq
def step.enc(x:step):List D:=[.int .i64 x.at_,.int .i64 x.next]
def step.dec:List D->Option step
 |[.int .i64 v0,.int .i64 v1]=>some ⟨v0,v1⟩
 |_=>none
theorem step.dec_inv:∀(l:List D)(x:step),step.dec l=some x->l=x.enc:=by
 intro l x h;unfold step.dec at h;split at h
 .simp only[akO]at h;subst h;rfl
 simp at h
def step.rw:Rw step:=⟨step.enc,step.dec,step.dec_inv⟩
theorem step.rows(l:List step):(∀x∈l.map step.enc,x.length=2)=True:=by simp[step.enc]
attribute [push_cast] step.enc step.dec step.rows
inductive Cap where
 deriving DecidableEq
def Cap.enc:Cap->List D
 |x=>by cases x
structure Clo where
 fn:Nat
 caps:List Cap
 deriving Inhabited,DecidableEq
end Lt
end

section
namespace Go.Am
open Go
inductive Sn where
 |Var|Class|Extern|Arg|In|Phi|Bind|Frame|Virt|Instr|Term|Block|Func|Program|Reader|Fault|Line|RForm|asked|Read|RLine|Form|step
 deriving DecidableEq,Inhabited
inductive U where
 |i (k:IntKind)|b8|bo|s|sl (u:U)|mp (k v:U)|fn|st (n:Sn)
 deriving DecidableEq,Inhabited
abbrev RM:Sn->Type
 |.Var=>Lt.Var
 |.Class=>Lt.Class
 |.Extern=>Lt.Extern
 |.Arg=>Lt.Arg
 |.In=>Lt.In
 |.Phi=>Lt.Phi
 |.Bind=>Lt.Bind
 |.Frame=>Lt.Frame
 |.Virt=>Lt.Virt
 |.Instr=>Lt.Instr
 |.Term=>Lt.Term
 |.Block=>Lt.Block
 |.Func=>Lt.Func
 |.Program=>Lt.Program
 |.Reader=>Lt.Reader
 |.Fault=>Lt.Fault
 |.Line=>Lt.Line
 |.RForm=>Lt.RForm
 |.asked=>Lt.asked
 |.Read=>Lt.Read
 |.RLine=>Lt.RLine
 |.Form=>Lt.Form
 |.step=>Lt.step
abbrev El:U->Type
 |.i _=>Int
 |.b8=>UInt8
 |.bo=>Bool
 |.s=>a8
 |.sl u=>List (El u)
 |.mp k v=>Option (List (El k×El v))
 |.fn=>Lt.Clo
 |.st n=>RM n
abbrev Fl:List U->Type
 |[]=>Unit
 |[u]=>El u
 |u::v::r=>El u×Fl (v::r)
def Fl.cons:(u:U)->(us:List U)->El u->Fl us->Fl (u::us)
 |_,[],x,_=>x
 |_,_::_,x,y=>(x,y)
def Fl.hd:(u:U)->(us:List U)->Fl (u::us)->El u
 |_,[],x=>x
 |_,_::_,x=>x.1
def Fl.tl:(u:U)->(us:List U)->Fl (u::us)->Fl us
 |_,[],_=>()
 |_,_::_,x=>x.2
structure SD (α:Type) where
 fs:List U
 mkF:Fl fs->α
 un:α->Fl fs
 l1:∀x,mkF (un x)=x
 l2:∀y,un (mkF y)=y
 enc:α->List D
 df:α
def sd:(n:Sn)->SD (RM n)
 |.Var=>⟨[.s,.s],λx=>⟨x.1,x.2⟩,λx=>(x.Name,x.Type_),λ_=>rfl,λ_=>rfl,Lt.Var.enc,default⟩
 |.Class=>⟨[.s,(.sl (.st .Var))],λx=>⟨x.1,x.2⟩,λx=>(x.Name,x.Fields),λ_=>rfl,λ_=>rfl,Lt.Class.enc,default⟩
 |.Extern=>⟨[.s,.i .i64],λx=>⟨x.1,x.2⟩,λx=>(x.Name,x.N),λ_=>rfl,λ_=>rfl,Lt.Extern.enc,default⟩
 |.Arg=>⟨[.i .i64,.s,.i .i64],λx=>⟨x.1,x.2.1,x.2.2⟩,λx=>(x.Kind,x.S,x.N),λ_=>rfl,λ_=>rfl,Lt.Arg.enc,default⟩
 |.In=>⟨[.s,.i .i64,.s,.i .i64],λx=>⟨x.1,⟨x.2.1,x.2.2.1,x.2.2.2⟩⟩,λx=>(x.Block,x.A.Kind,x.A.S,x.A.N),λ_=>rfl,λ_=>rfl,Lt.In.enc,default⟩
 |.Phi=>⟨[.s,(.sl (.st .In))],λx=>⟨x.1,x.2⟩,λx=>(x.Dst,x.Ins),λ_=>rfl,λ_=>rfl,Lt.Phi.enc,default⟩
 |.Bind=>⟨[.s,.i .i64,.s,.i .i64],λx=>⟨x.1,⟨x.2.1,x.2.2.1,x.2.2.2⟩⟩,λx=>(x.Name,x.A.Kind,x.A.S,x.A.N),λ_=>rfl,λ_=>rfl,Lt.Bind.enc,default⟩
 |.Frame=>⟨[.s,.s,.i .i64,(.sl (.st .Bind))],λx=>⟨x.1,x.2.1,x.2.2.1,x.2.2.2⟩,λx=>(x.Func,x.Block,x.At,x.Vars),λ_=>rfl,λ_=>rfl,Lt.Frame.enc,default⟩
 |.Virt=>⟨[.s,(.sl (.st .Arg))],λx=>⟨x.1,x.2⟩,λx=>(x.Class,x.Vals),λ_=>rfl,λ_=>rfl,Lt.Virt.enc,default⟩
 |.Instr=>⟨[.i .i64,.s,.s,(.sl (.st .Arg)),(.sl (.st .Frame)),(.sl (.st .Virt))],λx=>⟨x.1,x.2.1,x.2.2.1,x.2.2.2.1,x.2.2.2.2.1,x.2.2.2.2.2⟩,λx=>(x.Op,x.Dst,x.Name,x.Args,x.Frames,x.Objs),λ_=>rfl,λ_=>rfl,Lt.Instr.enc,default⟩
 |.Term=>⟨[.i .i64,.i .i64,.s,.i .i64,.sl .s,.i .i64],λx=>⟨x.1,⟨x.2.1,x.2.2.1,x.2.2.2.1⟩,x.2.2.2.2.1,x.2.2.2.2.2⟩,λx=>(x.Kind,x.A.Kind,x.A.S,x.A.N,x.To,x.N),λ_=>rfl,λ_=>rfl,Lt.Term.enc,default⟩
 |.Block=>⟨[.s,(.sl (.st .Phi)),(.sl (.st .Instr)),.i .i64,.i .i64,.s,.i .i64,.sl .s,.i .i64],λx=>⟨x.1,x.2.1,x.2.2.1,⟨x.2.2.2.1,⟨x.2.2.2.2.1,x.2.2.2.2.2.1,x.2.2.2.2.2.2.1⟩,x.2.2.2.2.2.2.2.1,x.2.2.2.2.2.2.2.2⟩⟩,λx=>(x.Name,x.Phis,x.Code,x.End.Kind,x.End.A.Kind,x.End.A.S,x.End.A.N,x.End.To,x.End.N),λ_=>rfl,λ_=>rfl,Lt.Block.enc,default⟩
 |.Func=>⟨[.s,.s,(.sl (.st .Var)),(.sl (.st .Var)),(.sl (.st .Block))],λx=>⟨x.1,x.2.1,x.2.2.1,x.2.2.2.1,x.2.2.2.2⟩,λx=>(x.Name,x.Result,x.Params,x.Vars,x.Blocks),λ_=>rfl,λ_=>rfl,Lt.Func.enc,default⟩
 |.Program=>⟨[.bo,(.sl (.st .Class)),(.sl (.st .Var)),(.sl (.st .Extern)),(.sl (.st .Func))],λx=>⟨x.1,x.2.1,x.2.2.1,x.2.2.2.1,x.2.2.2.2⟩,λx=>(x.SSA,x.Classes,x.Globals,x.Externs,x.Funcs),λ_=>rfl,λ_=>rfl,Lt.Program.enc,default⟩
 |.Reader=>⟨[.bo,(.sl (.st .Class)),(.sl (.st .Var)),(.sl (.st .Extern)),(.sl (.st .Func)),.i .i64,.i .i64,.bo,.i .i64],λx=>⟨⟨x.1,x.2.1,x.2.2.1,x.2.2.2.1,x.2.2.2.2.1⟩,x.2.2.2.2.2.1,x.2.2.2.2.2.2.1,x.2.2.2.2.2.2.2.1,x.2.2.2.2.2.2.2.2⟩,λx=>(x.p.SSA,x.p.Classes,x.p.Globals,x.p.Externs,x.p.Funcs,x.at_,x.where_,x.first,x.long),λ_=>rfl,λ_=>rfl,Lt.Reader.enc,default⟩
 |.Fault=>⟨[.i .i64],λx=>⟨x⟩,λx=>x.e,λ_=>rfl,λ_=>rfl,Lt.Fault.enc,default⟩
 |.Line=>⟨[.i .i64,.sl .s],λx=>⟨x.1,x.2⟩,λx=>(x.N,x.Words),λ_=>rfl,λ_=>rfl,Lt.Line.enc,default⟩
 |.RForm=>⟨[.s,.bo,.bo,.i .i64,.i .i64],λx=>⟨x.1,x.2.1,x.2.2.1,x.2.2.2.1,x.2.2.2.2⟩,λx=>(x.Word,x.Dst,x.Named,x.Least,x.Most),λ_=>rfl,λ_=>rfl,Lt.RForm.enc,default⟩
 |.asked=>⟨[.bo,(.sl (.st .Class)),(.sl (.st .Var)),(.sl (.st .Extern)),(.sl (.st .Func)),.i .i64,.s,.s,(.sl (.st .Arg)),(.sl (.st .Frame)),(.sl (.st .Virt)),.s,.sl .s],λx=>⟨⟨x.1,x.2.1,x.2.2.1,x.2.2.2.1,x.2.2.2.2.1⟩,⟨x.2.2.2.2.2.1,x.2.2.2.2.2.2.1,x.2.2.2.2.2.2.2.1,x.2.2.2.2.2.2.2.2.1,x.2.2.2.2.2.2.2.2.2.1,x.2.2.2.2.2.2.2.2.2.2.1⟩,x.2.2.2.2.2.2.2.2.2.2.2.1,x.2.2.2.2.2.2.2.2.2.2.2.2⟩,λx=>(x.p.SSA,x.p.Classes,x.p.Globals,x.p.Externs,x.p.Funcs,x.i.Op,x.i.Dst,x.i.Name,x.i.Args,x.i.Frames,x.i.Objs,x.dst,x.args),λ_=>rfl,λ_=>rfl,Lt.asked.enc,default⟩
 |.Read=>⟨[.bo,(.sl (.st .Class)),(.sl (.st .Var)),(.sl (.st .Extern)),(.sl (.st .Func)),.i .i64,.i .i64],λx=>⟨⟨x.1,x.2.1,x.2.2.1,x.2.2.2.1,x.2.2.2.2.1⟩,x.2.2.2.2.2.1,x.2.2.2.2.2.2⟩,λx=>(x.P.SSA,x.P.Classes,x.P.Globals,x.P.Externs,x.P.Funcs,x.Where,x.Long),λ_=>rfl,λ_=>rfl,Lt.Read.enc,default⟩
 |.RLine=>⟨[.i .i64,.sl .s],λx=>⟨x.1,x.2⟩,λx=>(x.N,x.Words),λ_=>rfl,λ_=>rfl,Lt.RLine.enc,default⟩
 |.Form=>⟨[.s,.bo,.bo,.i .i64,.i .i64],λx=>⟨x.1,x.2.1,x.2.2.1,x.2.2.2.1,x.2.2.2.2⟩,λx=>(x.Word,x.Dst,x.Named,x.Least,x.Most),λ_=>rfl,λ_=>rfl,Lt.Form.enc,default⟩
 |.step=>⟨[.i .i64,.i .i64],λx=>⟨x.1,x.2⟩,λx=>(x.at_,x.next),λ_=>rfl,λ_=>rfl,Lt.step.enc,default⟩
def agX:Lt.Cap->(n:Sn)×RM n
 |x=>by cases x
def aiX:(n:Sn)->RM n->Option Lt.Cap
 |_,_=>none
def ajS:List Sn:=[]
theorem abK{n:Sn}{x:RM n}{c:Lt.Cap}(h:aiX n x=some c):agX c=⟨n,x⟩/\c.enc=(sd n).enc x:=by cases n<;>first|(cases h;exact⟨rfl,rfl⟩)|cases h
end Go.Am
end

section
namespace Go.Am
open Go.MapKept
def nl:D->D->Bool
 |.int k a,.int k' b=>decide (k=k')&&decide (a=b)
 |.bool a,.bool b=>a==b
 |.str a,.str b=>decide (a=b)
 |_,_=>false
def jO:TK->D->Bool
 |.int k,.int k' _=>decide (k'=k)
 |.bool,.bool _=>true
 |.str,.str _=>true
 |_,_=>false
def pe:List (D×Sh×D)->D->Option (Sh×D)
 |[],_=>none
 |x::l,k=>match nl x.1 k with
  |true=>some x.2
  |false=>pe l k
def jN:List (D×Sh×D)->D->Sh×D->List (D×Sh×D)
 |[],k,v=>[(k,v)]
 |x::l,k,v=>match nl x.1 k with
  |true=>(k,v)::l
  |false=>x::jN l k v
def EV:List (D×Sh×D)->D->List (D×Sh×D)
 |[],_=>[]
 |x::l,k=>match nl x.1 k with
  |true=>l
  |false=>x::EV l k
variable{d:TypeDesc}{k:D}{v:Value}
theorem nj{P:Program}{k':D}{b:Value}{H:FH}(hk:jO (gn P d) k=true)(a:jO (gn P d) k'=true)(h:FDx H k v)(h':FDx H k' b):IsKey d v/\(nl k k'=true ↔ v=b):=by
 cases d<;>simp only[gn]at hk a<;>cases k<;>simp only[jO]at hk<;>(first|(cases hk;done)|skip)<;>cases k'<;>simp only[jO]at a<;>(first|(cases a;done)|skip)
 .obtain rfl:=jh h;obtain rfl:=jh h';exact⟨trivial,by simp[nl]⟩
 .obtain⟨rfl,_⟩:=fJ h;obtain⟨rfl,_⟩:=fJ h';simp only[decide_eq_true_eq]at hk a;subst hk;subst a;exact⟨rfl,by simp[nl]⟩
 obtain⟨rfl,_⟩:=ia h;obtain⟨rfl,_⟩:=ia h';exact⟨trivial,by simp[nl]⟩
theorem oH{κ:TK}(h:jO κ k=true):k.isKey=true:=by cases κ<;>cases k<;>first|rfl|cases h
variable{kv:Value}
theorem yr{P:Program}{w:World}{H:FH}(hk:jO (gn P d) k=true)(a:FDx H k kv):∀(l:List (D×Sh×D))(es:List MapEntry)(i:Nat)(f:Fp),MpO w H l es f->(l.all λx=>jO (gn P d) x.1)=true ->
  (pe l k=none/\EV l k=l/\Instr.findNow d kv es i=some none/\(∀e∈es,e.key≠kv)/\∀w' v vv b n(fv:Fp),(∀b,f b≠0->w'.heap[b]? = w.heap[b]?)->OD w' H n v.1 v.2 fv vv->MpO w' H (jN l k v) (es++[⟨kv,vv,b⟩]) (λb=>fv b+f b)) \/
  ∃j x e n,∃f1 c:Fp,pe l k=some x/\Instr.findNow d kv es i=some (some (i+j,e.val))/\OD w H n x.1 x.2 f1 e.val/\(∀b,f b=f1 b+c b)/\es[j]? = some e/\e.key=kv /\
   (∀w' v vv n(fv:Fp),(∀b,c b≠0->w'.heap[b]? = w.heap[b]?)->OD w' H n v.1 v.2 fv vv->MpO w' H (jN l k v) (es.set j { e with key:=kv,val:=vv }) (λb=>fv b+c b))/\MpO w H (EV l k) (es.eraseIdx j) c
 |[],[],i,f,h,_=>.inl ⟨rfl,rfl,rfl,by simp,λw' v vv b n fv hw h'=>⟨⟨oH hk,a⟩,fv,f,n,λ_=>rfl,h',h⟩⟩
 |x::l,e::es,i,f,h,ha=>by
  simp only[ak2,akP]at ha;obtain⟨⟨h1,h2⟩,g1,g2,n,h3,h4,hr⟩:=h;obtain⟨t,q2⟩:=nj (P:=P) ha.1 hk h2 a;obtain⟨s,_⟩:=nj (P:=P) hk hk a a;obtain⟨r,u,p⟩:=sameNow_of_keys s t;cases r with
  |true=>
   have g:=p.1 rfl
   have hq:=q2.2 g.symm
   refine .inr ⟨0,x.2,e,n,g1,g2,by grind [pe],by simp[Instr.findNow,u],h4,h3,rfl,g.symm,λw' v vv n fv hw hv=>?_,?_⟩
   .simp only[jN,hq,List.set_cons_zero];exact⟨⟨oH hk,a⟩,fv,g2,n,λ_=>rfl,hv,kn (λ_ _ _ h=>h) hw hr⟩
   grind [EV]
  |false=>
   have o:kv≠e.key:=λq=>by grind
   have hq:nl x.1 k=false:=by grind
   rcases yr hk a l es (i+1) g2 hr ha.2 with⟨k1,k0,k2,k3,k4⟩|⟨j,x',e',n',f1,c,k1,k2,k3,k4,k5,k6,k7,k8⟩
   .refine .inl ⟨by grind [pe],by grind [EV],by grind [Instr.findNow],λy hy=>?_,λw' v vv b n' fv hw hv=>?_⟩
    .grind
    simp only[jN,hq];exact⟨⟨h1,h2⟩,g1,λb=>fv b+g2 b,n,λb=>by grind,cK (λ_ _ _ h=>h) n n _ _ _ _ (akR _) (λb hb=>hw b (by grind)) h4,k4 w' v vv b n' fv (λb hb=>hw b (by grind)) hv⟩
   refine .inr ⟨j+1,x',e',n',f1,λb=>g1 b+c b,by grind [pe],by grind [Instr.findNow],k3,λb=>by grind,by grind,k6,λw' v vv m fv hw hv=>?_,?_⟩
   .simp only[jN,hq,List.set_cons_succ];exact⟨⟨h1,h2⟩,g1,λb=>fv b+c b,n,λb=>by grind,cK (λ_ _ _ h=>h) n n _ _ _ _ (akR _) (λb hb=>hw b (by grind)) h4,k7 w' v vv m fv (λb hb=>hw b (by grind)) hv⟩
   simp only[EV,hq,List.eraseIdx_cons_succ];exact⟨⟨h1,h2⟩,g1,c,n,λ_=>rfl,h4,k8⟩
 |[],_::_,_,_,h,_=>h.elim
 |_::_,[],_,_,h,_=>h.elim
variable{b ck:Nat}{es:Array MapEntry}{et kt mt:TypeId}{f:Fp}{l:List (D×Sh×D)}
section
variable {P:Program} {w:World} {H:FH}
theorem N9{j:Nat}{e:MapEntry}(h:es[j]? = some e)(f:MapEntry->MapEntry):(es.modify j f).toList=es.toList.set j (f e):=by
 apply al1
 grind
theorem Bu{vv:Value}(hm:P.underlying mt=some (.map kt et))(hd:P.underlying kt=some d)(hb:w.heap[b]? = some (.map es ck))(hs:Stamped es ck)
  (hl:MpO w H l es.toList f) (o:f b=0) (ha:(l.all λx=>jO (gn P d) x.1)=true) (hk:jO (gn P d) k=true) (g:FDx H k kv) {v:Sh×D} {n:Nat} {fv:Fp} (p:fv b=0) (hv:OD w H n v.1 v.2 fv vv) :
  ∃es' ck',∃i:Fp,(Instr.mapUpdate mt (.map (some b)) kv vv).run P w=.ok () { w with heap:=w.heap.setIfInBounds b (.map es' ck') }/\Stamped es' ck'/\(∀c,i c<=f c)/\MpO { w with heap:=w.heap.setIfInBounds b (.map es' ck') } H (jN l k v) es'.toList (λc=>fv c+i c):=by
 have a:IsKey d kv:=(nj (P:=P) hk hk g g).1
 have m:∀es' ck' c,c≠b->({ w with heap:=w.heap.setIfInBounds b (.map es' ck') }:World).heap[c]? = w.heap[c]? := λes' ck' c hc=>(heap_set hb).2 c hc
 have r:∀es' ck',OD { w with heap:=w.heap.setIfInBounds b (.map es' ck') } H n v.1 v.2 fv vv:=λes' ck'=>cK (λ_ _ _ h=>h) n n _ _ _ _ (akR _) (λc hc=>m es' ck' c (λe=>by grind)) hv
 rcases yr hk g l es.toList 0 f hl ha with⟨_,_,g2,g3,g4⟩|⟨j,x,e,n',f1,i,_,g2,_,g3,g4,g5,g6,_⟩
 .refine⟨es.push ⟨kv,vv,ck⟩,ck+1,f,?_,stamped_push hs g3,λ_=>akR _,?_⟩
  .simp[Instr.mapUpdate,run_underlying hm,MapKept.run_getObj_map hb,run_checkKey hd a,run_findKey hd g2,run_setObj_map _ hb,Result.andThen]
  grind
 have hj:es[j]? = some e:=by grind
 rw[amB]at g2;refine⟨es.modify j λe=>{ e with key:=kv,val:=vv },ck,i,?_,stamped_modify hs _ _ (λ_ _=>rfl) (λe' _ q=>by grind),λc=>by grind,?_⟩
 .simp[Instr.mapUpdate,run_underlying hm,MapKept.run_getObj_map hb,run_checkKey hd a,run_findKey hd g2,hj,g5,run_keyThatStays a,run_setObj_map _ hb,Result.andThen]
 grind [N9]
theorem OM{ty:TypeId}(hm:P.underlying mt=some (.map kt et))(hd:P.underlying kt=some d)(hb:w.heap[b]? = some (.map es ck))(hs:Stamped es ck)
  (hl:MpO w H l es.toList f) (s:f b=0) (ha:(l.all λx=>jO (gn P d) x.1)=true) (hk:jO (gn P d) k=true) (i:FDx H k kv) (p:Array TypeId) (q:p[0]? = some mt) :
  ∃es',∃a:Fp,(Builtin.delete_ p ty #[.map (some b),kv]).run P w=.ok (.tuple #[]) { w with heap:=w.heap.setIfInBounds b (.map es' ck) }/\Stamped es' ck/\(∀c,a c<=f c)/\MpO { w with heap:=w.heap.setIfInBounds b (.map es' ck) } H (EV l k) es'.toList a:=by
 have g:IsKey d kv:=(nj (P:=P) hk hk i i).1
 have r:∀es'(a:Fp),(∀c,a c<=f c)->∀{l':List (D×Sh×D)}{m:List MapEntry},MpO w H l' m a->MpO { w with heap:=w.heap.setIfInBounds b (.map es' ck) } H l' m a:=λes' a t _ _ h=>kn (λ_ _ _ h=>h) (λc hc=>(heap_set hb).2 c (λe=>by grind)) h
 rcases yr hk i l es.toList 0 f hl ha with⟨_,g1,g2,_,_⟩|⟨j,x,e,n',f1,a,_,g2,_,g3,g4,_,_,g5⟩
 .refine⟨es,f,?_,hs,λ_=>akR _,r _ _ (λ_=>akR _) (by grind)⟩;simp[Builtin.delete_,q,run_underlying hm,MapKept.run_getObj_map hb,run_checkKey hd g,run_findKey hd g2,run_setObj_map _ hb,Result.andThen]
 rw[amB]at g2;have o:∀c,a c<=f c:=λc=>by grind
 refine⟨es.eraseIdxIfInBounds j,a,?_,stamped_erase hs j,o,r _ _ o ?_⟩
 .simp[Builtin.delete_,q,run_underlying hm,MapKept.run_getObj_map hb,run_checkKey hd g,run_findKey hd g2,run_setObj_map _ hb,Result.andThen]
 simp_all
theorem tu{z:Value}(hm:P.underlying mt=some (.map kt et))(hd:P.underlying kt=some d)(hb:w.heap[b]? = some (.map es ck))
  (hl:MpO w H l es.toList f) (ha:(l.all λx=>jO (gn P d) x.1)=true) (hk:jO (gn P d) k=true) (m:FDx H k kv) (r:(zeroValue et).run P w=.ok z w) (ok:Bool) :
  ∃v,(Instr.lookup mt (.map (some b)) kv ok).run P w=.ok (if ok then .tuple #[v,.bool (pe l k).isSome]else v) w /\
   (match pe l k with|some x=>∃n,∃f1 p:Fp,OD w H n x.1 x.2 f1 v/\(∀c,f c=f1 c+p c)/\MpO w H (jN l k (x.1,.any)) es.toList p|none=>v=z/\MpO w H l es.toList f):=by
 have g:IsKey d kv:=(nj (P:=P) hk hk m m).1
 rcases yr hk m l es.toList 0 f hl ha with⟨g1,_,g2,_,_⟩|⟨j,x,e,n,f1,p,g1,g2,g3,g4,g5,g6,g7,_⟩
 .refine⟨z,?_,by grind⟩;rw[g1];simp[Instr.lookup,run_underlying hm,MapKept.run_getObj_map hb,run_checkKey hd g,run_findKey hd g2,r,Result.andThen]
 refine⟨e.val,?_,?_⟩
 .rw[g1];simp[Instr.lookup,run_underlying hm,MapKept.run_getObj_map hb,run_checkKey hd g,run_findKey hd g2,Result.andThen]
 rw[g1];refine⟨n,f1,p,g3,g4,?_⟩;have o:OD w H (n+1) x.1 .any (λ_=>0) e.val:=by
  cases x.1 with
  |fr=>exact fV.2 ⟨λ_=>rfl,0,trivial⟩
  |ow sub=>exact λ_=>rfl
 have h:=g7 w (x.1,.any) e.val (n+1) (λ_=>0) (λ_ _=>rfl) o
 have s:es.toList.set j { e with key:=kv,val:=e.val }=es.toList:=by
  refine al1 λi=>?_
  rw[List.getElem?_set];split
  .rename_i q;subst q;rw[g5];split
   .obtain⟨a,b,c⟩:=e;grind
   grind
  rfl
 grind
end
variable{f':Fp}{n:Nm}
theorem LI{F:Nm->Fp}:∀{m:Mm},n ∉ m.map (·.1)->∀c,tot (upd F n f') m c=tot F m c
 |[],_,_=>rfl
 |x::m,h,c=>by simp only[List.map_cons,akX,not_or]at h;simp only[tot];rw[mO (λe=>h.1 e.symm),LI h.2]
theorem BK{F:Nm->Fp}{f':Fp}:∀{m:Mm}{r:Root},ah m n=some r->(m.map (·.1)).Nodup->∀c,tot (upd F n f') m c+F n c=tot F m c+f' c
 |[],_,h,_,_=>by simp[ah]at h
 |(k,x)::m,r,h,hk,c=>by
  simp only[List.map_cons,alG]at hk;simp only[tot];by_cases e:k=n
  .subst e;rw[dZ,LI hk.1];omega
  simp only[ah]at h;rw[if_neg e]at h;rw[mO e];have:=BK h hk.2 c (F:=F) (f':=f')
  omega
def T.gh:T->Bool
 |.mp _=>true
 |.it _ _=>true
 |_=>false
variable{p:List Step}{t:T}
theorem Oc(h:t.gh=true){off:Nat}(hc:aS [t] off p):p=[]:=by cases p<;>grind [aS,T.gh]
theorem FO(h:t.gh=true){off:Nat}(hc:bz [t] off p):off=0/\p=[]:=by
 unfold bz at hc
 grind [T.gh]
theorem ab6(h:t.gh=true):bz [t] 0 []:=by cases t<;>first|trivial|(simp[T.gh]at h)
variable{H':FH}{es':Array MapEntry}{l':List (D×Sh×D)}{w':World}
section
variable {P:Program} {g:G} {s:S} {a:Act} {w:World} {H:FH} {γ:Gam} {F:Nm->Fp}
theorem VX(h:RX g s a w H γ F){t':T}(D:t.gh=true)(V:t'.gh=true)(hr:ah s.m n=some ⟨false,[t]⟩)(A:γ n=.gh v)
  (hT:TR w' H' γ s.m t' f' v) (O:∀c,tot F s.m c+f' c<=F n c+1) (N:∀c,f' c≠0->c<w.heap.size/\(∀o,H' c o=none)/\(g.own0 c≠0\/g.w0.heap.size<=c))
  (p:w'.heap.size=w.heap.size) (R:w'.os=w.os) (W:w'.tape=w.tape) (J:w'.output=w.output)
  (hb:∀c,F n c=0->w'.heap[c]? = w.heap[c]?) (I:∀b o y,H b o=some y->H' b o=some y) (E:∀b o y,H' b o=some y->RdV w' b o y)
  (hnew:∀b o,H' b o≠none->H b o=none->F n b≠0/\f' b=0)
  (C:(∀b,Thawed w b->Thawed w' b)/\∀b o x l c,H' b o=some (.c (.slice x l c))->H b o=none->Thawed w' b) :
  RX g ⟨s.t,cz s.m n ⟨false,[t']⟩⟩ a w' H' γ (upd F n f'):=by
 have P:∀k,ah (cz s.m n ⟨false,[t']⟩) k=if n=k then some ⟨false,[t']⟩else ah s.m k:=λk=>fM hr
 have K:Keeps w γ s.m w' γ (cz s.m n ⟨false,[t']⟩):=by
  have fr:∀q,bU s.m q->q.root≠n->plA w' γ q=plA w γ q/\plV w' γ q=plV w γ q:=λq hq G=>wG h.mem hq (λc hc=>hb c (by
   obtain⟨M,h1,_⟩:=ay.1 hq;have:=vB (F:=F) (aj hr) (aj h1) (λe=>G e.symm) c
   have:=h.mem.le1 c
   grind))
  constructor
  .grind [ay,Oc,aS,plA]
  intro q hq;by_cases e:q.root=n
  .obtain⟨M,h1,h2⟩:=bV.1 hq;rw[e,hr]at h1;obtain rfl:=Option.some.inj h1;obtain⟨X,hp⟩:=FO D h2;refine⟨?_,?_⟩
   .grind [bV,ab6]
   unfold plV;rw[hp,e,A];rfl
  grind [bV,fA]
 have u:∀c,tot (upd F n f') (⟨s.t,cz s.m n ⟨false,[t']⟩⟩:S).m c+F n c=tot F s.m c+f' c:=λc=>by
  show tot (upd F n f') (cz s.m n ⟨false,[t']⟩) c+F n c=_
  rw[dH];exact BK hr h.mem.keys c
 have Q:∀c,F n c<=tot F s.m c:=λc=>bD (F:=F) (aj hr) c
 refine⟨⟨E,λx hx=>?_,by rw[np];exact h.mem.keys,λc=>by grind,λc hc=>?_,λc hc o=>?_⟩,?_,h.nt,h.df,λi=>dw K I (h.t i)⟩
 .rcases qf h.mem.keys hx with⟨hn,hx⟩|rfl
  .rw[mO hn];exact aZ K I rfl (λc hc=>hb c (by
    have:=vB (F:=F) (aj hr) hx (λe=>hn e.symm) c
    have:=h.mem.le1 c
    grind)) (h.mem.roots x hx)
  unfold bv;dsimp only;rw[if_neg (by simp)];refine⟨v,_,A,rfl,?_⟩;rw[dZ];cases t'<;>first|exact hT|grind [T.gh]
 .rw[p];by_cases hf:f' c=0
  .exact h.mem.lt c (by grind)
  grind
 .cases U:H' c o with
  |none=>rfl
  |some y=>
   exfalso
   by_cases hf:f' c=0
   .cases B:H c o with
    |some z=>
     have:tot F s.m c=0:=by
      rcases alO (tot F s.m c)with h'|h'
      .exact h'
      have:=h.mem.nofz c kQ1 o;grind
     grind
    |none=>
     have h3:=(hnew c o (by grind) B).1
     have:=u c;have:=h.mem.le1 c;omega
   grind
 have d:=h.fr
 have L:∀c,F n c≠0->g.own0 c≠0\/g.w0.heap.size<=c:=λc hc=>d.tt c (by grind)
 refine⟨by rw[p];exact d.size,by grind [Fr.os],by grind [Fr.tape],by grind [Fr.output],λk hk h0=>?_,λb o y hy=>I _ _ _ (d.hold b o y hy),λb o h1 h2=>?_,λb j=>?_,λb j=>C.1 b (d.nz.1 b j),λb o x l2 c h1 h2=>?_⟩
 .grind [Fr.block]
 .cases hc:H b o with
  |some z=>exact d.hnew b o (by grind) h2
  |none=>grind
 .grind [Fr.tt]
 cases hc:H b o<;>grind [Fr.nz]
theorem Mc(h:RX g s a w H γ F)(hr:ah s.m n=some ⟨false,[.mp l]⟩)(r:γ n=.gh v)
  (hT:TR w' H' γ s.m (.mp l') f' v) (p:∀c,tot F s.m c+f' c<=F n c+1) (j:∀c,f' c≠0->c<w.heap.size/\(∀o,H' c o=none)/\(g.own0 c≠0\/g.w0.heap.size<=c))
  (u:w'.heap.size=w.heap.size) (k:w'.os=w.os) (e:w'.tape=w.tape) (d:w'.output=w.output)
  (hb:∀c,F n c=0->w'.heap[c]? = w.heap[c]?) (z:∀b o y,H b o=some y->H' b o=some y) (i:∀b o y,H' b o=some y->RdV w' b o y)
  (hnew:∀b o,H' b o≠none->H b o=none->F n b≠0/\f' b=0)
  (q:(∀b,Thawed w b->Thawed w' b)/\∀b o x l c,H' b o=some (.c (.slice x l c))->H b o=none->Thawed w' b) :
  RX g ⟨s.t,cz s.m n ⟨false,[.mp l']⟩⟩ a w' H' γ (upd F n f'):=VX h rfl rfl hr r hT p j u k e d hb z i hnew q
theorem Yl(h:Mem w H γ s.m F)(hr:ah s.m n=some ⟨false,[.mp l]⟩) :
  ∃b es ck,∃f:Fp,γ n=.gh (.map (some b))/\w.heap[b]? = some (.map es ck)/\Stamped es ck/\MpO w H l es.toList f/\(∀c,F n c=f c+if c=b then 1 else 0)/\f b=0:=by
 have a:=h.roots _ (aj hr)
 unfold bv at a;dsimp only at a;rw[if_neg (by simp)]at a;obtain⟨v,t,h1,h2,h3⟩:=a;obtain rfl:t=.mp l:=by grind
 obtain⟨b,es,ck,f,rfl,k2,k3,k4,k5⟩:=h3;refine⟨b,es,ck,f,h1,k2,k3,k4,k5,?_⟩;have:=k5 b
 rw[if_pos rfl]at this;have:=h.le1 b
 have:=bD (F:=F) (aj hr) b
 grind
theorem O2{ck':Nat}(hb:w.heap[b]? = some (.map es ck)):∀c,Thawed w c->Thawed { w with heap:=w.heap.setIfInBounds b (.map es' ck') } c:=λc h0=>h0.of_block ((heap_set hb).2 c (λe=>by
 obtain⟨cs,ty,a⟩:=h0
 grind))
theorem W8{w:World}{ck':Nat}(hb:w.heap[b]? = some (.map es ck))(a:Addr):({ w with heap:=w.heap.setIfInBounds b (.map es' ck') }:World).cell? a=w.cell? a:=by grind [World.cell?]
theorem vO(h:RX g s a w H γ F)(hr:ah s.m n=some ⟨false,[.mp l]⟩){ck':Nat}{es':Array MapEntry}(q:γ n=.gh (.map (some b)))(hb:w.heap[b]? = some (.map es ck))(v:∀c,F n c=f c+if c=b then 1 else 0)
  (p:Stamped es' ck') (k:MpO { w with heap:=w.heap.setIfInBounds b (.map es' ck') } H l' es'.toList f') (u:∀c,tot F s.m c+f' c<=f c+1) (r:∀c,f' c≠0->c<w.heap.size/\(∀o,H c o=none)/\(g.own0 c≠0\/g.w0.heap.size<=c)) :
  RX g ⟨s.t,cz s.m n ⟨false,[.mp l']⟩⟩ a { w with heap:=w.heap.setIfInBounds b (.map es' ck') } H γ (upd F n (λc=>f' c+if c=b then 1 else 0)):=by
 have j:=λa=>W8 (es':=es') (ck':=ck') hb a
 have d:=heap_set (o':=.map es' ck') hb
 have i:tot F s.m b≠0:=by have:=bD (F:=F) (aj hr) b;grind
 refine Mc h hr q ⟨b,es',ck',f',rfl,d.1,p,k,λ_=>rfl⟩ (λc=>by grind) (λc hc=>?_) (by simp) rfl rfl rfl (λc hc=>d.2 c (λe=>by grind)) (λ_ _ _ h=>h) (λb' o y hy=>(h.mem.agree b' o y hy).frame (d.2 b' (λe=>by subst e;rw[h.mem.nofz _ i o]at hy;cases hy))) (λb o h1 h2=>absurd h2 h1) ⟨O2 hb,λc o x y z h1 h2=>by grind⟩;by_cases e:c=b
 .subst e;exact⟨h.mem.lt c i,h.mem.nofz c i,h.fr.tt c i⟩
 grind
theorem RA(h:RX g s a w H γ F)(hno:n.isOut=false)(hn:ah s.m n=none) :
  ∃γ' F',RX g ⟨s.t,(n,⟨false,[.mp []]⟩)::s.m⟩ a (w.alloc (.map #[] 0)) H γ' F'/\γ' n=.gh (.map (some w.heap.size)):=by
 have hold:∀k,k<w.heap.size->(w.alloc (.map #[] 0)).heap[k]? = w.heap[k]? := λk hk=>cW hk
 have h1:=pB h (w':=w.alloc (.map #[] 0)) (by simp) rfl rfl rfl (λb hb=>.inl (hold b hb))
 have c:tot F s.m w.heap.size=0:=by
  rcases alO (tot F s.m w.heap.size)with h'|h'
  .exact h'
  have:=h.mem.lt w.heap.size kQ1;omega
 refine dR h1 hno hn (v:=.map (some w.heap.size)) (t:=.mp []) (f:=λb=>if b=w.heap.size then 1 else 0) ⟨w.heap.size,#[],0,λ_=>0,rfl,bw,stamped_empty 0,λ_=>rfl,λ_=>(amB _).symm⟩ (λb=>?_) (λb hb=>?_) (λb hb=>?_)
 .by_cases e:b=w.heap.size
  .grind
  rw[if_neg e];have:=h.mem.le1 b;omega
 .have e:b=w.heap.size:=by grind
  subst e;refine⟨by simp,λo=>?_⟩;cases hc:H w.heap.size o with
  |none=>rfl
  |some y=>have:=(h.mem.agree _ _ _ hc).lt;omega
 right
 have e:b=w.heap.size:=by grind
 have:=h.fr.size
 omega
theorem vI{m:Mm}(hn:ah m n=some ⟨false,[.mp l]⟩)(a:γ n=.gh v):AR w H γ m (.one (.c (.rf ⟨n,0,[]⟩))) v:=by
 refine⟨λ_=>rfl,?_,?_⟩
 .rw[bV];exact⟨_,hn,trivial⟩
 unfold plV;dsimp only;rw[a];rfl
theorem RB(h:RX g s a w H γ F)(hr:ah s.m n=some ⟨false,[.mp l]⟩){f f1 d:Fp}(j:γ n=.gh (.map (some b)))(hb:w.heap[b]? = some (.map es ck))(hs:Stamped es ck)(q:∀c,F n c=f c+if c=b then 1 else 0)
  (hf:∀c,f c=f1 c+d c) (i:MpO w H l' es.toList d) {n2:Nm} (hno:n2.isOut=false) (x:ah s.m n2=none) {sub:List Sh} {rows:List (List D)} {k:Nat} {v:Value} (p:OD w H k (.ow sub) (.li rows) f1 v) :
  ∃γ' F',RX g ⟨s.t,(n2,⟨false,[.ow sub rows]⟩)::cz s.m n ⟨false,[.mp l']⟩⟩ a w H γ' F'/\γ' n2=.gh v:=by
 have u:∀c,F n c<=tot F s.m c:=λc=>bD (F:=F) (aj hr) c
 have h1:RX g ⟨s.t,cz s.m n ⟨false,[.mp l']⟩⟩ a w H γ (upd F n (λc=>d c+if c=b then 1 else 0)):=
  Mc h hr j ⟨b,es,ck,d,rfl,hb,hs,i,λ_=>rfl⟩ (λc=>by have:=q c;have:=hf c;have:=h.mem.le1 c;omega) (λc hc=>by
   have h3:tot F s.m c≠0:=by grind
   exact⟨h.mem.lt c h3,h.mem.nofz c h3,h.fr.tt c h3⟩) rfl rfl rfl rfl (λ_ _=>rfl) (λ_ _ _ h=>h) h.mem.agree (λb o h1 h2=>absurd h2 h1) oO
 have r:n≠n2:=λe=>by grind
 refine dR h1 hno (by grind [fM]) (v:=v) (t:=.ow sub rows) (f:=f1) ⟨k,p⟩ (λc=>?_) (λc hc=>?_) (λc hc=>?_)
 .have h3:tot (upd F n (λc=>d c+if c=b then 1 else 0)) (cz s.m n ⟨false,[.mp l']⟩) c+F n c=tot F s.m c+(d c+if c=b then 1 else 0):=by rw[dH];exact BK hr h.mem.keys c
  have:=q c;have:=hf c;have:=h.mem.le1 c
  grind
 .have h3:tot F s.m c≠0:=by grind
  exact⟨h.mem.lt c h3,h.mem.nofz c h3⟩
 have h3:tot F s.m c≠0:=by grind
 exact h.fr.tt c h3
def ag5(l:List (D×Sh×D)):List (D×Sh×D):=l.map λx=>(x.1,.fr,x.2.2)
theorem P2(a:∀b o y,H b o=some y->H' b o=some y):∀{l:List (D×Sh×D)}{es:List MapEntry}{f:Fp},MpO w H l es f->(∀b,f b≠0->∀o z,w.cell? ⟨b,o,none⟩=some z->H' b o=some z)->MpO w H' (ag5 l) es (λ_=>0)
 |[],[],_,_,_=>λ_=>rfl
 |x::l,e::es,f,h,hc=>by obtain⟨⟨h1,h2⟩,f1,c,k,h3,h4,h5⟩:=h;exact⟨⟨h1,eL a h2⟩,λ_=>0,λ_=>0,k,λ_=>rfl,fV.2 ⟨λ_=>rfl,VS a k _ _ _ _ h4 (λb hb=>hc b (by grind))⟩,P2 a h5 (λb hb=>hc b (by grind))⟩
 |[],_::_,_,h,_=>h.elim
 |_::_,[],_,h,_=>h.elim
theorem Im:∀{l:List (D×Sh×D)}{es:List MapEntry}{f:Fp},MpO w H l es f->∀b,f b≠0->Thawed w b
 |[],[],_,h,b,hb=>absurd (h b) hb
 |x::l,e::es,f,h,b,hb=>by
  obtain⟨_,f1,a,k,h3,h4,h5⟩:=h;by_cases h0:f1 b=0
  .exact Im h5 b (by grind)
  grind [P5]
 |[],_::_,_,h,_,_=>h.elim
 |_::_,[],_,h,_,_=>h.elim
theorem VZ(h:RX g s a w H γ F)(hr:ah s.m n=some ⟨false,[.mp l]⟩):∃H' F',RX g ⟨s.t,cz s.m n ⟨false,[.mp (ag5 l)]⟩⟩ a w H' γ F':=by
 obtain⟨b,es,ck,f,h1,h2,h3,h4,h5,h6⟩:=Yl h.mem hr;have r:∀c,F n c<=tot F s.m c:=λc=>bD (F:=F) (aj hr) c
 have j:∀c,f c≠0->tot F s.m c≠0:=λc hc=>by grind
 let H':FH:=λb o=>if f b≠0 then(w.cell? ⟨b,o,none⟩).map HV.c else H b o
 have p:∀b o y,H b o=some y->H' b o=some y:=by
  intro b o y hy;simp only[H'];split
  .rename_i e;rw[h.mem.nofz b (j b e) o]at hy;cases hy
  omega
 have i:∀b o y,H' b o=some y->RdV w b o y:=by
  intro b o y hy;simp only[H']at hy;split at hy
  .obtain⟨z,k,rfl⟩:=ak5.1 hy;exact k
  exact h.mem.agree b o y hy
 have d:tot F s.m b≠0:=by grind
 refine⟨H',_,Mc h hr h1 ⟨b,es,ck,λ_=>0,rfl,h2,h3,P2 p h4 (λb hb o z k=>by grind),λ_=>rfl⟩ (λc=>by have:=h5 c;have:=h.mem.le1 c;grind) (λc hc=>?_) rfl rfl rfl rfl (λ_ _=>rfl) p i (λc o k1 k2=>?_) ⟨λ_ h=>h,λc o x l2 q k1 k2=>?_⟩⟩
 .have e:c=b:=by grind
  subst e;refine⟨h.mem.lt c d,λo=>?_,h.fr.tt c d⟩;simp only[H'];rw[if_neg kQ1];exact h.mem.nofz c d o
 all_goals grind [Im]
end
end Go.Am
end

section
namespace Go.Am
open MapKept
def mpD(l:List (D×Sh×D)):D:=.mp (some (l.map λe=>(e.1,e.2.2)))
def esV(es:List MapEntry):List (Value×Value):=es.map λe=>(e.key,e.val)
def frL(l:List (D×Sh×D)):Bool:=l.all λe=>match e.2.1 with
 |.fr=>true
 |_=>false
def T.frm(n:Nm)(x:D):T->T
 |.rf p=>if p.root=n then(match p with
  |⟨_,0,[]⟩=>.d x
  |_=>.any)else .rf p
 |t=>t.kill (bm n)
def frzm(s:S)(n:Nm)(x:D):S:=⟨s4 (AV.map (T.frm n x)) s.t,aM (bm n) (bQ s.m n)⟩
theorem VQ{w:World}{H:FH}:∀{l:List (D×Sh×D)}{es:List MapEntry}{f:Fp},frL l=true->MpO w H l es f->(esV es).length=l.length/\∃m,∀(i:Nat)(x:D×D)(y:Value×Value),(l.map λe=>(e.1,e.2.2))[i]? = some x->(esV es)[i]? = some y->FD H m x.1 y.1/\FD H m x.2 y.2
 |[],[],_,_,_=>⟨rfl,0,λi x y h _=>by simp at h⟩
 |a::l,e::es,f,hf,h=>by
  obtain⟨⟨_,⟨b,h1⟩⟩,f1,n,k,h2,h3,h4⟩:=h;simp only[frL,ak2,akP]at hf;obtain⟨o,c,j⟩:=VQ (by grind [frL]) h4;have hs:a.2.1=.fr:=by grind
  rw[hs]at h3;obtain⟨_,g,h5⟩:=fV.1 h3;refine⟨by grind [esV],b+c+g,λi x y hx hy=>?_⟩;have mono:=λ{m:Nat}(hm:m<=b+c+g){d:D}{v:Value}(h:FD H m d v)=>gq (λ_ _ _ h=>h) m (b+c+g) d v hm h
  grind [esV]
 |[],_::_,_,_,h=>h.elim
 |_::_,[],_,_,h=>h.elim
section
variable {g:G} {s:S} {a:Act} {w:World} {H:FH} {γ:Gam} {F:Nm->Fp}
theorem ZZ(h:RX g s a w H γ F){n:Nm}{l:List (D×Sh×D)}(hr:ah s.m n=some ⟨false,[.mp l]⟩)(hl:frL l=true):∃H' F',RX g (frzm s n (mpD l)) a w H' γ F':=by
 obtain⟨b,es,ck,f,h1,h2,h3,h4,h5,h6⟩:=Yl h.mem hr;have G:∀c,F n c<=tot F s.m c:=λc=>bD (F:=F) (aj hr) c
 have j:tot F s.m b≠0:=by grind
 let H':FH:=λc o=>if c=b/\o=0 then some (.m es ck)else H c o
 have r:∀c o y,H c o=some y->H' c o=some y:=by intro c o y hy;simp only[H'];rw[if_neg (λe=>by rw[e.1,h.mem.nofz b j o]at hy;cases hy)];exact hy
 have v:∀c o y,H' c o=some y->RdV w c o y:=by
  intro c o y hy;simp only[H']at hy;split at hy
  .rename_i e;obtain rfl:=Option.some.inj hy;rw[e.1];exact⟨h2,h3⟩
  exact h.mem.agree c o y hy
 have hd:=Es h.mem n
 have d:∀c,tot F (aM (bm n) (bQ s.m n)) c+F n c=tot F s.m c:=λc=>by grind [bg,BJ]
 have z:tot F (aM (bm n) (bQ s.m n)) b=0:=by have:=d b;have:=h.mem.le1 b;grind
 have u:Keeps w γ (aM (bm n) (bQ s.m n)) w γ (aM (bm n) (bQ s.m n)):=⟨λq hq=>⟨hq,rfl⟩,λq hq=>⟨hq,rfl⟩⟩
 have hx:FDx H' (mpD l) (.map (some b)):=by obtain⟨I,m,C⟩:=VQ hl h4;refine⟨m+1,b,es,ck,rfl,by simp[H'],by grind [esV],λi x y hx hy=>?_⟩;obtain⟨E,B⟩:=C i x (y.key,y.val) hx (by grind [esV]);exact⟨gq r _ _ _ _ (akR _) E,gq r _ _ _ _ (akR _) B⟩
 refine⟨H',F,⟨⟨v,λx hx=>aZ u r rfl (λ_ _=>rfl) (hd.roots x hx),hd.keys,hd.le1,hd.lt,λc hc o=>?_⟩,?_,h.nt,h.df,λi=>?_⟩⟩
 .simp only[H'];rw[if_neg (λe=>hc (by rw[e.1];exact z))];exact hd.nofz c hc o
 .refine⟨h.fr.size,h.fr.os,h.fr.tape,h.fr.output,h.fr.block,λc o y hy=>r _ _ _ (h.fr.hold c o y hy),λc o k1 k2=>?_,λc hc=>h.fr.tt c ?_,h.fr.nz.1,λc o x l' q k1 k2=>?_⟩
  .simp only[H']at k1;split at k1
   .rename_i e;rw[e.1];exact h.fr.tt b j
   exact h.fr.hnew c o k1 k2
  .have:=d c
   have hc:tot F (aM (bm n) (bQ s.m n)) c≠0:=hc
   omega
  simp only[H']at k1;split at k1
  .cases k1
  exact h.fr.nz.2 c o x l' q k1 k2
 show AR w H' γ _ (aW (s4 _ s.t) i) _
 rw[q8 rfl];refine iG (λt y k=>?_) (h.t i);have hk:=λ(t:T) (k:TR w H γ s.m t (λ_=>0) y)=>qR (eD (n:=n)) r (λ_ hb=>absurd rfl hb) k
 cases t with
 |rf p=>
  simp only[T.frm];split
  .rename_i e;split
   .rename_i q;subst e;obtain⟨_,_,hv⟩:=k;have A:aH w (γ q) 0=some y:=hv
    rw[h1]at A;obtain rfl:Value.map (some b)=y:=by grind [aH]
    exact⟨λ_=>rfl,hx⟩
   exact λ_=>rfl
  rename_i e;have:=hk _ k
  simp only[T.kill]at this;rw[if_neg (by simp[bm,e])]at this;exact this
 |_=>exact hk _ k
end
theorem Br{P:Program}{w:World}{H:FH}{mt kt et:TypeId}{d:TypeDesc}{k:D}{kv z:Value}(hm:P.underlying mt=some (.map kt et))(hd:P.underlying kt=some d)(hk:jO (gn P d) k=true)(a:FDx H k kv)(c:(zeroValue et).run P w=.ok z w)(ok:Bool) :
  (Instr.lookup mt (.map none) kv ok).run P w=.ok (if ok then .tuple #[z,.bool false]else z) w:=by
 have b:IsKey d kv:=(nj (P:=P) hk hk a a).1
 simp_all[Instr.lookup,run_underlying,run_checkKey,Instr.findKey,Instr.findNow]
theorem VR{w:World}{H:FH}{m:Nat}:∀{l:List (D×D)}{es:List MapEntry},(esV es).length=l.length->(∀(i:Nat)(x:D×D)(y:Value×Value),l[i]? = some x->(esV es)[i]? = some y->FD H m x.1 y.1/\FD H m x.2 y.2)->(∀e∈l,e.1.isKey=true)->MpO w H (l.map λe=>(e.1,Sh.fr,e.2)) es (λ_=>0)
 |[],[],_,_,_=>λ_=>rfl
 |x::l,e::es,hl,h,hk=>by
  have h0:=h 0 x (e.key,e.val) rfl rfl
  refine⟨⟨hk x (by simp),m,h0.1⟩,λ_=>0,λ_=>0,0,λ_=>rfl,fV.2 ⟨λ_=>rfl,m,h0.2⟩,VR (by grind [esV]) (λi a b ha hb=>h (i+1) a b (by grind) (by grind [esV])) (λa ha=>hk a (by simp[ha]))⟩
 |[],_::_,h,_,_=>by simp[esV]at h
 |_::_,[],h,_,_=>by simp[esV]at h
theorem Vn{w:World}{H:FH}{l:List (D×D)}{y:Value}(a:∀b o y,H b o=some y->RdV w b o y)(hk:∀e∈l,e.1.isKey=true)(h:FDx H (.mp (some l)) y) :
  ∃b es ck,y=.map (some b)/\w.heap[b]? = some (.map es ck)/\Stamped es ck/\MpO w H (l.map λe=>(e.1,Sh.fr,e.2)) es.toList (λ_=>0):=by
 obtain⟨m,h⟩:=h;cases m with
 |zero=>exact h.elim
 |succ m=>
  obtain⟨b,es,ck,h1,h2,h3,h4⟩:=h;obtain⟨h5,h6⟩:=a b 0 _ h2;refine⟨b,es,ck,h1,h5,h6,VR (m:=m) (by grind [esV]) (λi x y hx hy=>?_) hk⟩
  grind [esV]
end Go.Am
end

section
namespace Go.Am
inductive C where
 |i (k:IntKind) (n:Int)
 |b (x:UInt8)
 |bo (x:Bool)
 |s (l:a8)
 |li (u:U) (l:List (El u))
 |mp (k v:U) (l:Option (List (El k×El v)))
 |nm
 |fn (c:Lt.Clo)
 |v (x:Value)
 |any
 deriving Inhabited
def dflt:(u:U)->El u
 |.i _=>(default:Int)
 |.b8=>(default:UInt8)
 |.bo=>(default:Bool)
 |.s=>(default:List UInt8)
 |.sl _=>[]
 |.mp _ _=>none
 |.fn=>default
 |.st n=>(sd n).df
def r7(u' u:U)(l:List (El u')):Option (List (El u)):=if h:u'=u then some (cast (by rw[h]) l)else none
variable{u:U}
theorem js{u':U}{l:List (El u')}{x:List (El u)}(h:r7 u' u l=some x):∃e:u'=u,x=e ▸ l:=by grind [r7]
def W6(k' a k v:U)(l:Option (List (El k'×El a))):Option (Option (List (El k×El v))):=if h:k'=k/\a=v then some (cast (by grind) l)else none
theorem W7{k' a k v:U}{l:Option (List (El k'×El a))}{x:Option (List (El k×El v))}(h:W6 k' a k v l=some x):∃e:k'=k,∃b:a=v,x=e ▸ b ▸ l:=by grind [W6]
def ao:(u:U)->El u->C
 |.i k,n=>.i k n
 |.b8,x=>.b x
 |.bo,x=>.bo x
 |.s,l=>.s l
 |.sl u,l=>.li u l
 |.mp k v,l=>.mp k v l
 |.fn,x=>.fn x
 |.st _,_=>.any
def fY:(u:U)->C->Option (El u)
 |.i k,.i k' n=>if k'=k then some n else none
 |.b8,.b x=>some x
 |.bo,.bo x=>some x
 |.s,.s l=>some l
 |.sl u,.li u' l=>r7 u' u l
 |.mp k v,.mp k' a l=>W6 k' a k v l
 |.fn,.fn c=>some c
 |_,_=>none
def leaf:U->Bool
 |.st _=>false
 |_=>true
theorem dW{c:C}{x:El u}(h:fY u c=some x):c=ao u x:=by
 unfold fY at h;split at h
 .split at h
  .rename_i e;subst e;rw[<- Option.some.inj h];rfl
  grind
 .rw[<- Option.some.inj h];rfl
 .rw[<- Option.some.inj h];rfl
 .rw[<- Option.some.inj h];rfl
 .obtain⟨e,rfl⟩:=js h;subst e;rfl
 .obtain⟨e,a,rfl⟩:=W7 h;subst e a;rfl
 .rw[<- Option.some.inj h];rfl
 grind
def fq:(us:List U)->Fl us->List C
 |[],_=>[]
 |u::r,x=>ao u (Fl.hd u r x)::fq r (Fl.tl u r x)
def mj:(us:List U)->List C->Option (Fl us)
 |[],[]=>some ()
 |u::r,c::cs=>match fY u c,mj r cs with
  |some x,some y=>some (Fl.cons u r x y)
  |_,_=>none
 |_,_=>none
theorem uB(u:U)(us:List U)(x:El u)(y:Fl us):Fl.hd u us (Fl.cons u us x y)=x:=by cases us<;>rfl
theorem vw(u:U)(us:List U)(x:El u)(y:Fl us):Fl.tl u us (Fl.cons u us x y)=y:=by cases us<;>rfl
theorem AT:∀{us:List U}{cs:List C}{x:Fl us},mj us cs=some x->cs=fq us x
 |[],[],_,_=>rfl
 |u::r,c::cs,x,h=>by
  simp only[mj]at h;cases h1:fY u c with
  |none=>grind
  |some a=>
   cases h2:mj r cs with
   |none=>grind
   |some b=>rw[h1,h2]at h;simp only[akO]at h;subst h;rw[fq,uB,vw,<- dW h1,<- AT h2]
 |[],_::_,_,h=>by simp[mj]at h
 |_::_,[],_,h=>by simp[mj]at h
def flat:(u:U)->El u->List C
 |.st n,x=>fq (sd n).fs ((sd n).un x)
 |.i k,x=>[.i k x]
 |.b8,x=>[.b x]
 |.bo,x=>[.bo x]
 |.s,x=>[.s x]
 |.sl u,x=>[.li u x]
 |.mp k v,x=>[.mp k v x]
 |.fn,x=>[.fn x]
def unflat:(u:U)->List C->Option (El u)
 |.st n,cs=>match mj (sd n).fs cs with
  |some y=>some ((sd n).mkF y)
  |none=>none
 |u,[c]=>fY u c
 |_,_=>none
theorem kp:∀{u:U}(_:leaf u=true)(x:El u),flat u x=[ao u x]
 |.i _,_,_=>rfl
 |.b8,_,_=>rfl
 |.bo,_,_=>rfl
 |.s,_,_=>rfl
 |.sl _,_,_=>rfl
 |.mp _ _,_,_=>rfl
 |.fn,_,_=>rfl
 |.st _,h,_=>by cases h
theorem wV{cs:List C}{x:El u}(h:unflat u cs=some x):cs=flat u x:=by
 cases u with
 |st n=>
  simp only[unflat]at h;cases h1:mj (sd n).fs cs with
  |none=>grind
  |some y=>
   rw[h1]at h;have hx:=Option.some.inj h
   subst hx;show cs=fq (sd n).fs ((sd n).un ((sd n).mkF y))
   rw[(sd n).l2,<- AT h1]
 |_=>
  cases cs with
  |nil=>cases h
  |cons c r=>cases r with
   |nil=>rw[kp rfl,<- dW h]
   |cons _ _=>cases h
def nc:U->Nat
 |.st n=>(sd n).fs.length
 |_=>1
theorem r8:∀(us:List U)(x:Fl us),(fq us x).length=us.length
 |[],_=>rfl
 |u::r,x=>by simp only[fq,akY,r8 r]
theorem xt(x:El u):(flat u x).length=nc u:=by
 cases u with
 |st n=>exact r8 _ _
 |_=>rfl
def ap:(u:U)->El u->List D
 |.i k,n=>[.int k n]
 |.b8,x=>[.int .u8 (x.toNat:Int)]
 |.bo,x=>[.bool x]
 |.s,l=>[.str l]
 |.sl u,l=>[.li (l.map (ap u))]
 |.mp k v,l=>[.mp (l.map λl=>l.map λx=>((ap k x.1).headD .any,(ap v x.2).headD .any))]
 |.fn,x=>[.fn x.fn (x.caps.map Lt.Cap.enc)]
 |.st n,x=>(sd n).enc x
def C.toD:C->D
 |.i k n=>.int k n
 |.b x=>.int .u8 (x.toNat:Int)
 |.bo x=>.bool x
 |.s l=>.str l
 |.li u l=>.li (l.map (ap u))
 |.mp ku vu l=>.mp (l.map λl=>l.map λx=>((ap ku x.1).headD .any,(ap vu x.2).headD .any))
 |.nm=>.mp none
 |.fn c=>.fn c.fn (c.caps.map Lt.Cap.enc)
 |.v x=>.v x
 |.any=>.any
theorem ahX:∀(n:Sn)(x:RM n),(fq (sd n).fs ((sd n).un x)).map C.toD=(sd n).enc x:=by intro n;cases n<;>intro x<;>rfl
theorem bZ(x:El u):(flat u x).map C.toD=ap u x:=by
 cases u with
 |st n=>exact ahX n x
 |_=>rfl
theorem lZ(x:El u):(ap u x).length=nc u:=by rw[<- bZ,akV,xt]
inductive Tt where
 |d (c:C)
 |nil
 |ow (sh:List Sh) (u:U) (l:List (El u))
 |mp (ku vu:U) (l:List (El ku×El vu))
 |mo (ku u:U) (l:List (El ku×List (El u))) (h:Option (El ku))
 |it (ku vu:U) (cur:Option (El ku×El vu)) (rest:List (El ku×El vu))
 |el (row:List C) (off:Nat)
 |ga (u:U) (l:List (El u)) (i:Nat)
 |pl (p:Pl)
 |rf (p:Pl)
 |any
 deriving Inhabited
def Xg(ku u:U)(x:El ku×List (El u)):D×Sh×D:=((ao ku x.1).toD,.ow (List.replicate (nc u) .fr),.li (x.2.map (ap u)))
def BS(l:List (D×Sh×D))(k:D):List (D×Sh×D):=match pe l k with
 |some x=>jN l k (x.1,.any)
 |none=>l
def moD(ku u:U)(l:List (El ku×List (El u))):Option (El ku)->List (D×Sh×D)
 |none=>l.map (Xg ku u)
 |some k=>BS (l.map (Xg ku u)) (ao ku k).toD
def rT(ku vu:U)(x:El ku×El vu):D×D:=((ao ku x.1).toD,(ao vu x.2).toD)
def Tt.toT:Tt->T
 |.d c=>.d c.toD
 |.nil=>.nil
 |.ow sh u l=>.ow sh (l.map (ap u))
 |.mp ku vu l=>.mp (l.map λx=>((ao ku x.1).toD,.fr,(ao vu x.2).toD))
 |.mo ku u l h=>.mp (moD ku u l h)
 |.it ku vu cur rest=>.it (cur.map (rT ku vu)) (rest.map (rT ku vu))
 |.el row off=>.el (row.map C.toD) off
 |.ga u l i=>.el (l.map λx=>(ao u x).toD) i
 |.pl p=>.pl p
 |.rf p=>.rf p
 |.any=>.any
inductive A1 where
 |c (t:Tt)
 |agg (ts:List Tt)
 deriving Inhabited
def A1.toV:A1->AV1
 |.c t=>.c t.toT
 |.agg ts=>.agg (ts.map Tt.toT)
inductive At where
 |one (x:A1)
 |tup (vs:List A1)
 |any
 deriving Inhabited
def At.toV:At->AV
 |.one x=>.one x.toV
 |.tup vs=>.tup (vs.map A1.toV)
 |.any=>.any
structure Rt where
 blk:Bool
 cells:List Tt
 hole:Option (Nat×Step×List Step)
def holed(cells:List T):Option (Nat×Step×List Step)->List T
 |none=>cells
 |some (off,st,q)=>match cells[off]? with
  |some (.ow sub l)=>cells.set off (.ow sub (bX sub l .any (st::q)))
  |_=>cells
def Rt.toR(r:Rt):Root:=⟨r.blk,holed (r.cells.map Tt.toT) r.hole⟩
structure St where
 nx:Nat
 t:List (Nat×Nat×At)
 m:List (Nm×Nat×Rt)
def St.toS(s:St):S:=⟨s.t.map λx=>(x.1,x.2.2.toV),s.m.map λx=>(x.1,x.2.2.toR)⟩
def gtA:List (Nat×Nat×At)->Nat->At
 |[],_=>.any
 |(k,_,v)::t,i=>match Nat.beq k i with
  |true=>v
  |false=>gtA t i
def bK:List (Nm×Nat×Rt)->Nm->Option Rt
 |[],_=>none
 |(k,_,r)::m,n=>if k=n then some r else bK m n
def dv:List (Nm×Nat×Rt)->Nm->Nat->Rt->List (Nm×Nat×Rt)
 |[],_,_,_=>[]
 |(k,j,x)::m,n,i,r=>if k=n then(k,i,r)::m else(k,j,x)::dv m n i r
def e8:List (Nm×Nat×Rt)->Nm->List (Nm×Nat×Rt)
 |[],_=>[]
 |(k,j,x)::m,n=>if k=n then e8 m n else(k,j,x)::e8 m n
theorem dP(i:Nat):∀t:List (Nat×Nat×At),aW (t.map λx=>(x.1,x.2.2.toV)) i=(gtA t i).toV
 |[]=>rfl
 |(k,j,v)::t=>by
  simp only[List.map_cons,aW,gtA];by_cases h:k=i
  .grind [Nat.beq_refl]
  rw[if_neg h];have:Nat.beq k i=false:=by grind [akU]
  rw[this];exact dP i t
abbrev toM(m:List (Nm×Nat×Rt)):Mm:=m.map λx=>(x.1,x.2.2.toR)
theorem uz(n:Nm):∀m:List (Nm×Nat×Rt),ah (toM m) n=(bK m n).map Rt.toR
 |[]=>rfl
 |(k,j,v)::m=>by
  simp only[toM,List.map_cons,ah,bK];by_cases h:k=n
  .grind
  rw[if_neg h,if_neg h];exact uz n m
theorem fH(n:Nm)(i:Nat)(r:Rt):∀m:List (Nm×Nat×Rt),toM (dv m n i r)=cz (toM m) n r.toR
 |[]=>rfl
 |(k,j,v)::m=>by
  simp only[toM,List.map_cons,cz,dv];by_cases h:k=n
  .grind
  rw[if_neg h,if_neg h,List.map_cons];exact congrArg _ (fH n i r m)
abbrev ND(m:List (Nm×Nat×Rt)):Prop:=(m.map (·.1)).Nodup
theorem Qp(n:Nm):∀m:List (Nm×Nat×Rt),n ∉ m.map (·.1)->e8 m n=m
 |[],_=>rfl
 |(k,j,v)::m,h=>by simp only[List.map_cons,akX,not_or]at h;simp only[e8];rw[if_neg (λe=>h.1 e.symm),Qp n m h.2]
theorem m8(n:Nm):∀m:List (Nm×Nat×Rt),ND m->toM (e8 m n)=bQ (toM m) n
 |[],_=>rfl
 |(k,j,v)::m,hn=>by
  have hn':k ∉ m.map (·.1)/\(m.map (·.1)).Nodup:=by grind
  simp only[toM,List.map_cons,bQ,e8];by_cases h:k=n
  .grind [Qp]
  rw[if_neg h,if_neg h,List.map_cons];exact congrArg _ (m8 n m hn'.2)
def St.put(s:St):Option Tmp->At->St
 |none,_=>s
 |some d,v=>⟨s.nx+1,(d,s.nx,v)::s.t,s.m⟩
def Tt.kill(bad:Bool->Pl->Bool):Tt->Tt
 |.pl p=>if bad false p then .any else .pl p
 |.rf p=>if bad true p then .any else .rf p
 |t=>t
def A1.kill(bad:Bool->Pl->Bool):A1->A1
 |.c t=>.c (t.kill bad)
 |.agg ts=>.agg (ts.map (·.kill bad))
def At.kill(bad:Bool->Pl->Bool):At->At
 |.one x=>.one (x.kill bad)
 |.tup xs=>.tup (xs.map (·.kill bad))
 |.any=>.any
def Tt.ment(n:Nm):Tt->Bool
 |.pl p=>decide (p.root=n)
 |.rf p=>decide (p.root=n)
 |_=>false
def Tt.hit(bad:Bool->Pl->Bool):Tt->Bool
 |.pl p=>bad false p
 |.rf p=>bad true p
 |_=>false
def A1.hit(bad:Bool->Pl->Bool):A1->Bool
 |.c t=>t.hit bad
 |.agg ts=>ts.any (·.hit bad)
def At.hit(bad:Bool->Pl->Bool):At->Bool
 |.one x=>x.hit bad
 |.tup xs=>xs.any (·.hit bad)
 |.any=>false
def Rt.kill(bad:Bool->Pl->Bool)(r:Rt):Rt:=⟨r.blk,r.cells.map (·.kill bad),r.hole⟩
def stp:Bool->Nat->Nat->Nat
 |true,i,_=>i
 |false,_,j=>j
def lb(bad:Bool->Pl->Bool)(nx:Nat)(t:List (Nat×Nat×At)):List (Nat×Nat×At):=t.map λx=>(x.1,stp (x.2.2.hit bad) nx x.2.1,x.2.2.kill bad)
def cc(bad:Bool->Pl->Bool)(nx:Nat)(m:List (Nm×Nat×Rt)):List (Nm×Nat×Rt):=m.map λx=>(x.1,stp (x.2.2.cells.any (·.hit bad)) nx x.2.1,x.2.2.kill bad)
def St.drop(s:St)(n:Nm):St:=⟨s.nx+1,lb (bm n) s.nx s.t,cc (bm n) s.nx (e8 s.m n)⟩
def St.fresh(s:St)(n:Nm):St:=match bK s.m n with
 |none=>s
 |some _=>s.drop n
def St.root(s:St)(n:Nm)(r:Rt):St:=⟨s.nx+1,s.t,(n,s.nx,r)::s.m⟩
def Tt.frz(q:Pl)(u:U)(l:List (El u)):Tt->Tt
 |.rf p=>match p with
  |⟨n,o,[]⟩=>if n=q.root/\o=q.off then .d (.li u l)else(Tt.rf ⟨n,o,[]⟩).kill (thr q)
  |p=>(Tt.rf p).kill (thr q)
 |t=>t.kill (thr q)
def A1.map(f:Tt->Tt):A1->A1
 |.c t=>.c (f t)
 |.agg ts=>.agg (ts.map f)
def At.map(f:Tt->Tt):At->At
 |.one x=>.one (x.map f)
 |.tup xs=>.tup (xs.map (·.map f))
 |.any=>.any
def setCell(m:List (Nm×Nat×Rt))(n:Nm)(i:Nat)(off:Nat)(t:Tt):List (Nm×Nat×Rt):=match bK m n with
 |some r=>dv m n i { r with cells:=r.cells.set off t }
 |none=>m
def O3(q:Pl)(rf:Bool)(p:Pl):Bool:=thr q rf p||(rf&&decide (p.root=q.root/\p.off=q.off))
def Tt.frm(n:Nm)(c:C):Tt->Tt
 |.rf p=>if p.root=n then(match p with
  |⟨_,0,[]⟩=>.d c
  |_=>.any)else .rf p
 |t=>t.kill (bm n)
def Xt(s:St)(n:Nm)(c:C):St:=⟨s.nx+1,s.t.map λx=>(x.1,stp (x.2.2.hit (bm n)) s.nx x.2.1,x.2.2.map (Tt.frm n c)),cc (bm n) s.nx (e8 s.m n)⟩
def uy(s:St)(q:Pl):St:=
 match q.path,bK s.m q.root with
 |[],some r=>match r.hole,r.cells[q.off]? with
  |none,some (.ow _ u l)=>⟨s.nx+1,s.t.map λx=>(x.1,stp (x.2.2.hit (O3 q)) s.nx x.2.1,x.2.2.map (Tt.frz q u l)),
    setCell (cc (thr q) s.nx (setCell s.m q.root s.nx q.off .any)) q.root s.nx q.off (.d (.li u l))⟩
  |none,some (.mp ku vu l)=>match r.blk,r.cells,leaf ku&&leaf vu with
   |false,[_],true=>Xt s q.root (.mp ku vu (some l))
   |_,_,_=>s
  |_,_=>s
 |_,_=>s
def Qw(s:St):Tt->St
 |.rf p=>uy s p
 |_=>s
def E0:St->List Tt->St
 |s,[]=>s
 |s,t::ts=>E0 (Qw s t) ts
def fW(s:St):At->St
 |.one (.c t)=>Qw s t
 |.one (.agg ts)=>E0 s ts
 |_=>s
def cR(s:St):List At->St
 |[]=>s
 |v::vs=>cR (fW s v) vs
def mkC(k:IntKind)(n:Int):C:=match k with
 |.u8=>.b (UInt8.ofNat n.toNat)
 |k=>.i k n
def kZ:C->Option (IntKind×Int)
 |.i k n=>match k with
  |.u8=>none
  |k=>some (k,n)
 |.b x=>some (.u8,(x.toNat:Int))
 |_=>none
def pR:Value->Tt
 |.bool b=>.d (.bo b)
 |.int k n=>match k with
  |.u8=>if 0<=n/\n < 256 then .d (.b (UInt8.ofNat n.toNat))else .any
  |k=>.d (.i k n)
 |.string s=>.d (.s s.data.toList)
 |.slice none 0 0=>.nil
 |.pointer none=>.d (.v (.pointer none))
 |.map none=>.d .nm
 |.nilFunc=>.d (.v .nilFunc)
 |.nilIface=>.d (.v .nilIface)
 |.func f a b=>.d (.v (.func f a b))
 |_=>.any
def agY:Value->At
 |.agg cs=>.one (.agg (cs.toList.map pR))
 |v=>.one (.c (pR v))
abbrev sct(x:C):At:=.one (.c (.d x))
def ae7(k:Nat):Option (List a8):=match sf k with
 |none=>none
 |some _=>some gw
def evA(s:St):Operand->At
 |.tmp t=>gtA s.t t
 |.const v=>agY v
 |.func f=>sct (.fn ⟨f,[]⟩)
 |.global g=>match ae7 g with
  |some l=>.one (.c (.ga .s l 0))
  |none=>.any
def xD(c x y:At)(k:At->Prop):Prop:=
 match c with
 |.one (.c (.d (.bo b)))=>if b then k x else k y
 |_=>False
def Ob(op:BinOp)(k:IntKind)(a b:Int)(K:C->Prop):Prop:=
 match op with
 |.add=>K (mkC k (k.wrap (a+b)))
 |.sub=>K (mkC k (k.wrap (a-b)))
 |.mul=>K (mkC k (k.wrap (a*b)))
 |.quo=>b≠0/\K (mkC k (k.wrap (a.tdiv b)))
 |.rem=>b≠0/\K (mkC k (a.tmod b))
 |.and=>K (mkC k (k.wrap (BitVec.ofInt k.bits a &&& BitVec.ofInt k.bits b).toNat))
 |.or=>K (mkC k (k.wrap (BitVec.ofInt k.bits a ||| BitVec.ofInt k.bits b).toNat))
 |.xor=>K (mkC k (k.wrap (BitVec.ofInt k.bits a ^^^ BitVec.ofInt k.bits b).toNat))
 |.andNot=>K (mkC k (k.wrap (BitVec.ofInt k.bits a &&& ~~~BitVec.ofInt k.bits b).toNat))
 |.shl=>0<=b/\K (mkC k (k.wrap (a*2 ^ (min b.toNat k.bits))))
 |.shr=>0<=b/\K (mkC k (a.fdiv (2 ^ (min b.toNat k.bits))))
 |.eql=>K (.bo (decide (a=b)))
 |.neq=>K (.bo (!decide (a=b)))
 |.lss=>K (.bo (decide (a<b)))
 |.leq=>K (.bo (decide (a<=b)))
 |.gtr=>K (.bo (decide (b<a)))
 |.geq=>K (.bo (decide (b<=a)))
def ahB:BinOp->Bool
 |.shl=>true
 |.shr=>true
 |_=>false
def BT(op:BinOp)(x y:C)(K:C->Prop):Prop:=
 match x,y with
 |.s a,.s b=>match op with
  |.add=>a.length+b.length<=4611686018427387904/\K (.s (a++b))
  |.eql=>K (.bo (decide (a=b)))
  |.neq=>K (.bo (!decide (a=b)))
  |.lss=>K (.bo (Op.bytesLess a b))
  |.leq=>K (.bo (Op.bytesLess a b||decide (a=b)))
  |.gtr=>K (.bo (!(Op.bytesLess a b||decide (a=b))))
  |.geq=>K (.bo (!Op.bytesLess a b))
  |_=>False
 |x,y=>match kZ x,kZ y with
  |some (k,a),some (k',b)=>if ahB op=true\/k=k' then Ob op k a b K else False
  |_,_=>False
def eqC(ck:CK)(x y:C):Option Bool:=
 match ck with
 |.i=>match kZ x,kZ y with
  |some (k,a),some (k',b)=>if k=k' then some (decide (a=b))else none
  |_,_=>none
 |.s=>match x,y with
  |.s a,.s b=>some (decide (a=b))
  |_,_=>none
 |.b=>match x,y with
  |.bo a,.bo b=>some (a==b)
  |_,_=>none
def S3:List (Nat×CK)->List C->List C->Option Bool
 |[],_,_=>some true
 |(o,ck)::l,xs,a=>match xs[o]?,a[o]? with
  |some x,some y=>match eqC ck x y,l with
   |some b,[]=>some b
   |some b,l=>match S3 l xs a with
    |some r=>some (b&&r)
    |none=>none
   |none,_=>none
  |_,_=>none
def TC:Tt->C
 |.d c=>c
 |_=>.any
def ahF:C->Option Bool
 |.mp _ _ z=>some z.isNone
 |.nm=>some true
 |_=>none
def IK(P:Program)(op:BinOp)(t:TypeId)(x y:At)(k:At->Prop):Prop:=
 match x,y with
 |.one (.c (.d (.bo a))),.one (.c (.d (.bo b)))=>match(ty P t).k with
  |.bool=>match op with
   |.eql=>k (sct (.bo (a==b)))
   |.neq=>k (sct (.bo (!(a==b))))
   |_=>False
  |_=>False
 |.one (.c (.d a)),.one (.c (.d .nm))=>match(ty P t).k,ahF a with
  |.mp _ _,some z=>match op with
   |.eql=>k (sct (.bo z))
   |.neq=>k (sct (.bo (!z)))
   |_=>False
  |_,_=>False
 |.one (.c (.d a)),.one (.c (.d b))=>BT op a b λd=>k (sct d)
 |.one (.agg xs),.one (.agg e)=>match Jf P t with
  |some l=>match S3 l (xs.map TC) (e.map TC),op with
   |some b,.eql=>k (sct (.bo b))
   |some b,.neq=>k (sct (.bo (!b)))
   |_,_=>False
  |none=>False
 |_,_=>False
def unT(op:UnOp)(x:At)(k:At->Prop):Prop:=
 match op,x with
 |.not,.one (.c (.d (.bo b)))=>k (sct (.bo (!b)))
 |.neg,.one (.c (.d c))=>match kZ c with
  |some (κ,n)=>k (sct (mkC κ (κ.wrap (0-n))))
  |none=>False
 |.xor,.one (.c (.d c))=>match kZ c with
  |some (κ,n)=>k (sct (mkC κ (κ.wrap (BitVec.ofInt κ.bits (if κ.signed then -1 else κ.max) ^^^ BitVec.ofInt κ.bits n).toNat)))
  |none=>False
 |_,_=>False
def jt(x:At)(i:Nat)(k:At->Prop):Prop:=
 match x with
 |.tup vs=>match vs[i]? with
  |some v=>k (.one v)
  |none=>False
 |_=>False
def inT(sub:List Sh)(u:U)(l:List (El u))(n:Nat):List Step->Option (List Tt)
 |[]=>none
 |[st]=>match Nat.ble (st.off+n) sub.length with
  |true=>some (List.zipWith (λs c=>match s,c with
    |Sh.fr,x=>Tt.d x
    |Sh.ow s,C.li u' l'=>Tt.ow s u' l'
    |_,_=>Tt.any) ((sub.drop st.off).take n) (((flat u (l.getD st.idx (dflt u))).drop st.off).take n))
  |false=>none
 |st::a::r=>match sub[st.off]?,(flat u (l.getD st.idx (dflt u)))[st.off]? with
  |some (.ow s),some (.li u' l')=>inT s u' l' n (a::r)
  |_,_=>none
def ahK:Option (Nat×Step×List Step)->List Step->Bool
 |none,_=>true
 |some (_,_,a),p=>Nat.blt p.length (a.length+1)
def atT(m:List (Nm×Nat×Rt))(p:Pl)(n:Nat):Option (List Tt):=
 match bK m p.root with
 |none=>none
 |some r=>match p.path with
  |[]=>match Nat.ble (p.off+n) r.cells.length with
   |true=>some ((r.cells.drop p.off).take n)
   |false=>none
  |st::q=>match ahK r.hole (st::q),r.cells[p.off]? with
   |true,some (.ow sub u l)=>inT sub u l n (st::q)
   |_,_=>none
def Lb(q:Pl):Tt->Tt
 |.ow _ _ _=>.rf q
 |.mp _ _ _=>.rf q
 |.mo _ _ _ _=>.rf q
 |.it _ _ _ _=>.rf q
 |t=>t
def Bl(p:Pl)(ts:List Tt):List Tt:=ts.zipIdx.map λx=>Lb (p.add x.2) x.1
def sliceAt(m:List (Nm×Nat×Rt))(p:Pl):Option ((_:List Sh)×(u:U)×List (El u)):=
 match atT m p 1 with
 |some [.ow sh u l]=>some ⟨sh,u,l⟩
 |_=>none
def gift:Option (Nat×Bool)->Nat->Prop->Prop
 |none,n,q=>n<=4611686018427387904->q
 |some _,_,q=>q
def Ku(gd:Option (Nat×Bool))(m:List (Nm×Nat×Rt))(x:At)(k:Nat->Prop):Prop:=
 match x with
 |.one (.c (.d (.s l)))=>gift gd l.length (k l.length)
 |.one (.c (.d (.li _ l)))=>gift gd l.length (k l.length)
 |.one (.c .nil)=>k 0
 |.one (.c (.rf p))=>match sliceAt m p with
  |some ⟨_,_,l⟩=>gift gd l.length (k l.length)
  |_=>False
 |_=>False
def qE(x i:At)(k:At->Prop):Prop:=
 match x,i with
 |.one (.c (.d (.s l))),.one (.c (.d (.i _ n)))=>(0<=n/\n.toNat<l.length)/\k (sct (.b (l.getD n.toNat 0)))
 |_,_=>False
def fX(x:Option At)(d:Nat)(k:Nat->Prop):Prop:=
 match x with
 |none=>k d
 |some (.one (.c (.d (.i _ n))))=>0<=n/\k n.toNat
 |_=>False
def qC(P:Program)(t:TypeId)(x:At)(lo hi:Option At)(k:At->Prop):Prop:=
 match x with
 |.one (.c (.d (.s l)))=>match(ty P t).k with
  |.str=>fX lo 0 λa=>fX hi l.length λb=>(a<=b/\b<=l.length)/\k (sct (.s ((l.drop a).take (b-a))))
  |_=>False
 |.one (.c (.d (.li u l)))=>match(ty P t).k with
  |.sl e=>match(ty P e).ok&&Nat.beq (nc u) (ty P e).size with
   |true=>fX lo 0 λa=>fX hi l.length λb=>(a<=b/\b<=l.length)/\k (sct (.li u ((l.drop a).take (b-a))))
   |false=>False
  |_=>False
 |.one (.c .nil)=>match(ty P t).k with
  |.sl e=>match(ty P e).ok with
   |true=>fX lo 0 λa=>fX hi 0 λb=>a<=b/\b<=0/\k (.one (.c .nil))
   |false=>False
  |_=>False
 |_=>False
def jx(m:List (Nm×Nat×Rt))(p:Pl)(n:Nat):Bool:=
 match bK m p.root with
 |none=>false
 |some r=>match p.path,r.cells[p.off]? with
  |[],_=>Nat.ble (n+1) (r.cells.length-p.off)
  |st::q,some (.ow sub _ _)=>match xH sub (st::q)with
   |some k=>Nat.ble (n+1) k
   |none=>false
  |_,_=>false
def fu(P:Program)(m:List (Nm×Nat×Rt))(t:TypeId)(x:At)(i:Nat)(k:At->Prop):Prop:=
 match(ty P t).k with
 |.st fs=>match fs[i]? with
  |some (off,size+1,_)=>match x with
   |.one (.c (.pl p))=>match jx m p off with
    |true=>k (.one (.c (.pl (p.add off))))
    |false=>False
   |.one (.c (.el row o))=>k (.one (.c (.el row (o+off))))
   |_=>False
  |_=>False
 |_=>False
def eG(P:Program)(m:List (Nm×Nat×Rt))(t:TypeId)(x i:At)(k:At->Prop):Prop:=
 match i with
 |.one (.c (.d (.i _ n)))=>match(ty P t).k with
  |.sl e=>match x with
   |.one (.c (.d (.li u l)))=>match(ty P e).ok&&Nat.beq (nc u) (ty P e).size with
    |true=>(0<=n/\n.toNat<l.length)/\k (.one (.c (.el (flat u (l.getD n.toNat (dflt u))) 0)))
    |false=>False
   |.one (.c (.rf p))=>match(ty P e).ok&&Nat.ble 1 (ty P e).size with
    |true=>match sliceAt m p with
     |some ⟨sh,_,l⟩=>match Nat.beq sh.length (ty P e).size with
      |true=>(0<=n/\n < (l.length:Int))/\k (.one (.c (.pl (p.at n.toNat (ty P e).size))))
      |false=>False
     |_=>False
    |false=>False
   |_=>False
  |.ar N e=>match x with
   |.one (.c (.ga u l i))=>match(ty P e).ok&&Nat.beq (ty P e).size 1&&leaf u with
    |true=>(0<=n/\n < (N:Int))/\k (.one (.c (.ga u l (n.toNat+i))))
    |false=>False
   |.one (.c (.pl p))=>match(ty P e).ok&&jx m p (n.toNat*(ty P e).size)with
    |true=>(0<=n/\n < (N:Int))/\k (.one (.c (.pl (p.add (n.toNat*(ty P e).size)))))
    |false=>False
   |_=>False
  |_=>False
 |_=>False
def lc(P:Program)(m:List (Nm×Nat×Rt))(t:TypeId)(x:At)(k:At->Prop):Prop:=
 match(ty P t).ok with
 |true=>match x with
  |.one (.c (.el row o))=>match(ty P t).agg with
   |true=>match Nat.ble (o+(ty P t).size) row.length with
    |true=>k (.one (.agg (((row.drop o).take (ty P t).size).map Tt.d)))
    |false=>False
   |false=>match row[o]? with
    |some c=>k (sct c)
    |none=>False
  |.one (.c (.ga u l i))=>match(ty P t).agg,leaf u with
   |false,true=>i<l.length/\k (sct (ao u (l.getD i (dflt u))))
   |_,_=>False
  |.one (.c (.pl p))=>match(ty P t).agg with
   |true=>match atT m p (ty P t).size with
    |some ts=>k (.one (.agg (Bl p ts)))
    |none=>False
   |false=>match atT m p 1 with
    |some [t']=>k (.one (.c (Lb p t')))
    |_=>False
  |_=>False
 |false=>False
def pV(P:Program)(t:TypeId)(x:At)(i:Nat)(k:At->Prop):Prop:=
 match(ty P t).k,x with
 |.st fs,.one (.agg ts)=>match fs[i]? with
  |some (off,_,some false)=>match ts[off]? with
   |some t'=>k (.one (.c t'))
   |none=>False
  |some (off,size,some true)=>match Nat.ble (off+size) ts.length with
   |true=>k (.one (.agg ((ts.drop off).take size)))
   |false=>False
  |_=>False
 |_,_=>False
def gW(x:At)(k:At->Prop):Prop:=
 match x with
 |.one (.c (.pl _))=>k x
 |.one (.c (.el _ _))=>k x
 |.one (.c (.ga _ _ _))=>k x
 |_=>False
def Tt.sure:Tt->Bool
 |.any=>false
 |.d .any=>false
 |_=>true
def lU:At->Option (List Tt)
 |.one (.c t)=>some [t]
 |.one (.agg ts)=>some ts
 |_=>none
def mF(pl:Nat->Option (Nat×Nat)):List Tt->List (Nat×At)->Option (List Tt)
 |ts,[]=>some ts
 |ts,(i,x)::r=>match pl i,lU x with
  |some (off,size),some cs=>match Nat.beq cs.length size&&Nat.ble (off+cs.length) ts.length&&cs.all Tt.sure with
   |true=>mF pl (overw ts off cs) r
   |false=>none
  |_,_=>none
def fB(s:St)(ps:Array (Nat×Operand)):List (Nat×At):=ps.toList.map λx=>(x.1,evA s x.2)
def pL(P:Program)(t:TypeId)(b:List (Nat×At))(k:At->Prop):Prop:=
 match zst P t with
 |some (zs,a)=>match mF (a[·]?) (zs.map pR) b with
  |some ts=>k (.one (.agg ts))
  |none=>False
 |none=>False
def xp(P:Program)(b a:TypeId)(x:At)(k:At->Prop):Prop:=
 match(ty P b).k,(ty P a).k with
 |.int _,.int κ=>match x with
  |.one (.c (.d c))=>match kZ c with
   |some (_,n)=>k (sct (mkC κ (κ.wrap n)))
   |none=>False
  |_=>False
 |.sl e,.str=>match(ty P e).k with
  |.int .u8=>match x with
   |.one (.c (.d (.li .b8 l)))=>k (sct (.s l))
   |.one (.c .nil)=>k (sct (.s []))
   |_=>False
  |_=>False
 |_,_=>False
def pH(P:Program)(s:St)(t:TypeId)(d:Tmp)(k:St->Prop):Prop:=
 match zcells P t with
 |some (z::zs)=>match Nat.blt d 1000000 with
  |true=>k (((s.fresh (lJ t d)).root (lJ t d) ⟨true,(z::zs).map pR,none⟩).put (some d) (.one (.c (.pl ⟨lJ t d,0,[]⟩))))
  |false=>False
 |_=>False
def IP(s:St)(x:Operand)(d:Tmp)(k:St->Prop):Prop:=
 match lU (evA (s.fresh (.loc d)) x)with
 |some (t::ts)=>match(t::ts).all Tt.sure&&Nat.blt d 1000000 with
  |true=>k (((s.fresh (.loc d)).root (.loc d) ⟨true,t::ts,none⟩).put (some d) (.one (.c (.pl ⟨.loc d,0,[]⟩))))
  |false=>False
 |_=>False
def Ut:=List (TypeId×U)
def Ut.get:Ut->TypeId->Option U
 |[],_=>none
 |(t,u)::r,i=>match Nat.beq t i with
  |true=>some u
  |false=>Ut.get r i
def BU(u:U)(c:Tt):Option (El u):=
 match c with
 |.d .nm=>match u with
  |.mp _ _=>some none
  |_=>none
 |.d c=>fY u c
 |.nil=>match u with
  |.sl _=>some []
  |_=>none
 |_=>none
def lS:(us:List U)->List Tt->Option (Fl us)
 |[],[]=>some ()
 |u::r,c::cs=>match BU u c,lS r cs with
  |some x,some y=>some (Fl.cons u r x y)
  |_,_=>none
 |_,_=>none
def lI(u:U)(ts:List Tt):Option (El u):=
 match u with
 |.st n=>match lS (sd n).fs ts with
  |some y=>some ((sd n).mkF y)
  |none=>none
 |u=>match ts with
  |[t]=>BU u t
  |_=>none
def ig(u:U):List (List Tt)->Option (List (El u))
 |[]=>some []
 |r::rs=>match lI u r,ig u rs with
  |some x,some xs=>some (x::xs)
  |_,_=>none
def Tt.noRf:Tt->Bool
 |.rf _=>false
 |_=>true
def At.noRf:At->Bool
 |.one (.c t)=>t.noRf
 |.one (.agg ts)=>ts.all Tt.noRf
 |_=>true
def eh(P:Program)(E:Ut)(s0:St)(t:TypeId)(len:Nat)(ps:Array (Nat×Operand))(d:Tmp)(k:St->Prop):Prop:=
 match(ty P t).k with
 |.sl e=>match E.get e,zcells P e with
  |some u,some _=>match(ty P e).ok&&Nat.beq (nc u) (ty P e).size&&Nat.ble (len*nc u) 16777216&&Nat.ble len 16777216 with
   |true=>
    let s1:=cR s0 (ps.toList.map λx=>evA s0 x.2)
    let s:=s1.fresh (.gh d)
    match mF (λi=>some (i*nc u,nc u)) (List.replicate (len*nc u) .any) (fB s ps),(fB s1 ps).all (λx=>x.2.noRf)with
    |some ts,true=>match ig u (chunk (nc u) len ts)with
     |some l=>k ((s.root (.gh d) ⟨false,[.ow (List.replicate (nc u) .fr) u l],none⟩).put (some d) (.one (.c (.rf ⟨.gh d,0,[]⟩))))
     |none=>False
    |_,_=>False
   |false=>False
  |_,_=>False
 |_=>False
def Tt.owned:Tt->Bool
 |.ow _ _ _=>true
 |.mp _ _ _=>true
 |.mo _ _ _ _=>true
 |.it _ _ _ _=>true
 |_=>false
def Li(u:U)(x:El u)(off:Nat)(c:C):Option (El u):=match(flat u x)[off]? with
 |some _=>unflat u ((flat u x).set off c)
 |none=>none
def Eb(sub:List Sh)(u:U)(l:List (El u))(t:Tt):List Step->Option (List (El u))
 |[]=>none
 |[st]=>match sub[st.off]?,t with
  |some .fr,.d c=>match Li u (l.getD st.idx (dflt u)) st.off c with
   |some x=>some (l.set st.idx x)
   |none=>none
  |some .fr,.nil=>match(flat u (l.getD st.idx (dflt u)))[st.off]? with
   |some (.li u' _)=>match Li u (l.getD st.idx (dflt u)) st.off (.li u' [])with
    |some x=>some (l.set st.idx x)
    |none=>none
   |_=>none
  |_,_=>none
 |st::b::r=>match sub[st.off]?,(flat u (l.getD st.idx (dflt u)))[st.off]? with
  |some (.ow s),some (.li u' l')=>match Eb s u' l' t (b::r)with
   |some a=>match Li u (l.getD st.idx (dflt u)) st.off (.li u' a)with
    |some x=>some (l.set st.idx x)
    |none=>none
   |none=>none
  |_,_=>none
mutual
def Ls:Sh->Sh->Bool
 |.fr,.fr=>true
 |.ow a,.ow b=>jV a b
 |_,_=>false
def jV:List Sh->List Sh->Bool
 |[],[]=>true
 |a::r,b::q=>Ls a b&&jV r q
 |_,_=>false
end
def Dn(sub:List Sh)(u:U)(l:List (El u))(sh:List Sh)(v:U)(c:List (El v)):List Step->Option (List (El u))
 |[]=>none
 |[st]=>match sub[st.off]?,(flat u (l.getD st.idx (dflt u)))[st.off]? with
  |some (.ow s),some _=>match jV s sh,Li u (l.getD st.idx (dflt u)) st.off (.li v c)with
   |true,some x=>some (l.set st.idx x)
   |_,_=>none
  |_,_=>none
 |st::b::r=>match sub[st.off]?,(flat u (l.getD st.idx (dflt u)))[st.off]? with
  |some (.ow s),some (.li u' l')=>match Dn s u' l' sh v c (b::r)with
   |some a=>match Li u (l.getD st.idx (dflt u)) st.off (.li u' a)with
    |some x=>some (l.set st.idx x)
    |none=>none
   |none=>none
  |_,_=>none
def frs(sub:List Sh)(off:Nat):Nat->Bool
 |0=>true
 |n+1=>match sub[off]? with
  |some .fr=>frs sub (off+1) n
  |_=>false
def lf(cs:List C)(off:Nat):List Tt->Option (List C)
 |[]=>some cs
 |.d c::r=>match c,cs[off]? with
  |.any,_=>none
  |c,some _=>lf (cs.set off c) (off+1) r
  |_,none=>none
 |.nil::r=>match cs[off]? with
  |some (.li u' _)=>lf (cs.set off (.li u' [])) (off+1) r
  |_=>none
 |_=>none
def sm(sub:List Sh)(u:U)(l:List (El u))(ts:List Tt):List Step->Option (List (El u))
 |[]=>none
 |[st]=>match frs sub st.off ts.length,lf (flat u (l.getD st.idx (dflt u))) st.off ts with
  |true,some cs=>match unflat u cs with
   |some x=>some (l.set st.idx x)
   |none=>none
  |_,_=>none
 |st::b::r=>match sub[st.off]?,(flat u (l.getD st.idx (dflt u)))[st.off]? with
  |some (.ow s),some (.li u' l')=>match sm s u' l' ts (b::r)with
   |some a=>match Li u (l.getD st.idx (dflt u)) st.off (.li u' a)with
    |some x=>some (l.set st.idx x)
    |none=>none
   |none=>none
  |_,_=>none
def qi(sub:List Sh)(u:U)(l:List (El u)):List Step->Prop->Prop
 |[],_=>False
 |[st],k=>st.idx<l.length/\k
 |st::a::r,k=>match sub[st.off]?,(flat u (l.getD st.idx (dflt u)))[st.off]? with
  |some (.ow s),some (.li u' l')=>st.idx<l.length/\qi s u' l' (a::r) k
  |_,_=>False
def ou:List Step->List Step->Prop->Prop
 |[],[],p=>p
 |a::r,b::q,p=>match Nat.beq a.esz b.esz&&Nat.beq a.off b.off with
  |true=>a.idx=b.idx/\ou r q p
  |false=>False
 |_,_,_=>False
def Cp(s:St)(p:Pl)(t:Tt)(k:St->Prop):Prop:=
 match bK s.m p.root with
 |none=>False
 |some r=>match p.path,r.hole,r.cells[p.off]? with
  |[],none,some t0=>match t0.owned with
   |false=>k ⟨s.nx+1,s.t,dv s.m p.root s.nx { r with cells:=r.cells.set p.off t }⟩
   |true=>False
  |st::q,none,some (.ow sub u l)=>match Eb sub u l t (st::q)with
   |some l'=>qi sub u l (st::q) (k ⟨s.nx+1,s.t,dv s.m p.root s.nx { r with cells:=r.cells.set p.off (.ow sub u l') }⟩)
   |none=>False
  |st::q,some (off,a,b),some (.ow sub u l)=>match Nat.beq off p.off,t with
   |true,.ow sh v c=>match Dn sub u l sh v c (st::q)with
    |some l'=>qi sub u l (st::q) (ou (a::b) (st::q) (k ⟨s.nx+1,s.t,dv s.m p.root s.nx ⟨r.blk,r.cells.set p.off (.ow sub u l'),none⟩⟩))
    |none=>False
   |_,_=>False
  |_,_,_=>False
def ajT:Tt->Bool
 |.d _=>true
 |.nil=>true
 |_=>false
def Y9(p:Pl)(ts:List Tt):Bool:=!p.path.isEmpty&&Nat.blt 1 ts.length&&ts.all ajT
def ml(s:St)(p:Pl)(ts:List Tt)(k:St->Prop):Prop:=
 match bK s.m p.root with
 |none=>False
 |some r=>match p.path,r.hole,r.cells[p.off]? with
  |st::q,none,some (.ow sub u l)=>match sm sub u l ts (st::q)with
   |some l'=>qi sub u l (st::q) (k ⟨s.nx+1,s.t,dv s.m p.root s.nx { r with cells:=r.cells.set p.off (.ow sub u l') }⟩)
   |none=>False
  |_,_,_=>False
def iB(s:St)(p:Pl):List Tt->(St->Prop)->Prop
 |[],k=>k s
 |.rf q::ts,k=>match bK s.m q.root with
  |some ⟨false,[.ow sub u l],none⟩=>match q.path,decide (q.root=p.root),ts.all λt=>!t.ment q.root with
   |[],false,true=>Cp (s.drop q.root) p (.ow sub u l) λs'=>iB s' (p.add 1) ts k
   |_,_,_=>False
  |_=>False
 |.any::_,_=>False
 |.d .any::_,_=>False
 |t::ts,k=>Cp s p t λs'=>iB s' (p.add 1) ts k
def qD(P:Program)(s:St)(t:TypeId)(x v:At)(k:St->Prop):Prop:=
 match x,lU v with
 |.one (.c (.pl p)),some ts=>match(ty P t).ok&&Nat.beq ts.length (ty P t).size&&jx s.m p (ts.length - 1)with
  |true=>match Y9 p ts with
   |true=>ml s p ts k
   |false=>iB s p ts k
  |false=>False
 |_,_=>False
def Zl(s:St)(q:Pl):Option St:=
 match bK s.m q.root with
 |none=>none
 |some r=>match q.path,r.hole with
  |[],none=>some ⟨s.nx+1,lb (thr q) s.nx s.t,cc (thr q) s.nx (dv s.m q.root s.nx { r with cells:=r.cells.set q.off .any })⟩
  |st::p,none=>some ⟨s.nx+1,lb (thr q) s.nx s.t,cc (thr q) s.nx (dv s.m q.root s.nx { r with hole:=some (q.off,st,p) })⟩
  |_,_=>none
def ad0(u:U):At->Option (List (El u))
 |.one (.c .nil)=>some []
 |.one (.c (.d (.li u' l)))=>r7 u' u l
 |.one (.c (.d (.s b)))=>match u with
  |.b8=>some b
  |_=>none
 |_=>none
def kL(s:St)(u:U):At->Option (St×List Sh×List (El u))
 |.one (.c .nil)=>some (s,List.replicate (nc u) .fr,[])
 |.one (.c (.rf q))=>match sliceAt s.m q with
  |some ⟨sub,u',l⟩=>match r7 u' u l,Nat.beq sub.length (nc u),Zl s q with
   |some l',true,some s'=>some (s',sub,l')
   |_,_,_=>none
  |none=>none
 |_=>none
def lP(P:Program)(E:Ut)(a:St)(t u0:TypeId)(x y:Operand)(d:Tmp)(k:St->Prop):Prop:=
 let s:=fW a (evA a y)
 match(ty P t).k with
 |.sl e=>match E.get e,zcells P e with
  |some u,some z=>match(ty P e).ok&&(ty P u0).k.isSS&&Nat.beq z.length (ty P e).size&&Nat.beq (nc u) (ty P e).size with
   |true=>match ad0 u (evA s y),kL s u (evA s x)with
    |some b,some (s1,sub,l)=>match sub.all Sh.isFr with
     |true=>(l.length+b.length<=4611686018427387904/\(l.length+b.length)*(ty P e).bytes<=140737488355328) /\
      k (((s1.fresh (.gh d)).root (.gh d) ⟨false,[.ow sub u (l++b)],none⟩).put (some d) (.one (.c (.rf ⟨.gh d,0,[]⟩))))
     |false=>False
    |_,_=>False
   |false=>False
  |_,_=>False
 |_=>False
def nR:List Sh->List Tt->Bool
 |[],[]=>true
 |.fr::r,_::ts=>nR r ts
 |.ow _::r,.nil::ts=>nR r ts
 |_,_=>false
def dz(P:Program)(E:Ut)(sub:List Sh)(s0:St)(t:TypeId)(len:Nat)(ps:Array (Nat×Operand))(d:Tmp)(k:St->Prop):Prop:=
 match(ty P t).k with
 |.sl e=>match E.get e,zcells P e with
  |some u,some _=>match(ty P e).ok&&Nat.beq (nc u) (ty P e).size&&Nat.ble (len*nc u) 16777216&&Nat.ble len 16777216&&Nat.beq sub.length (nc u)with
   |true=>
    let s1:=cR s0 (ps.toList.map λx=>evA s0 x.2)
    let s:=s1.fresh (.gh d)
    match mF (λi=>some (i*nc u,nc u)) (List.replicate (len*nc u) .any) (fB s ps),(fB s1 ps).all (λx=>x.2.noRf)with
    |some ts,true=>match ig u (chunk (nc u) len ts),nR (List.replicate len sub).flatten ts with
     |some l,true=>k ((s.root (.gh d) ⟨false,[.ow sub u l],none⟩).put (some d) (.one (.c (.rf ⟨.gh d,0,[]⟩))))
     |_,_=>False
    |_,_=>False
   |false=>False
  |_,_=>False
 |_=>False
def Bo:List Tt->Nat->Option (Nat×Pl)
 |[],_=>none
 |.rf q::_,j=>some (j,q)
 |_::r,j=>Bo r (j+1)
def Y5(sub:List Sh)(s:St)(ps:Array (Nat×Operand)):Bool:=match fB s ps with
 |[(0,.one (.agg ts))]=>match Bo ts 0 with
  |some (j,_)=>match sub[j]? with
   |some (.ow _)=>true
   |_=>false
  |none=>false
 |_=>false
def dA(P:Program)(E:Ut)(sub:List Sh)(s:St)(t:TypeId)(len:Nat)(ps:Array (Nat×Operand))(d:Tmp)(k:St->Prop):Prop:=
 match(ty P t).k with
 |.sl e=>match E.get e,zcells P e,fB s ps with
  |some u,some _,[(0,.one (.agg ts))]=>match Bo ts 0 with
   |some (j,q)=>match sub[j]?,sliceAt s.m q with
    |some (.ow b),some ⟨_,u',_⟩=>match kL s u' (.one (.c (.rf q)))with
     |some (s1,a,l')=>match(ty P e).ok&&Nat.beq (nc u) (ty P e).size&&Nat.ble (nc u) 16777216&&Nat.beq len 1&&Nat.beq sub.length (nc u)&&Nat.beq ts.length (nc u)&&(jV a b&&((ts.set j .nil).all Tt.noRf&&nR sub (ts.set j .nil))),ig u [ts.set j (.d (.li u' l'))]with
      |true,some l=>k (((s1.fresh (.gh d)).root (.gh d) ⟨false,[.ow sub u l],none⟩).put (some d) (.one (.c (.rf ⟨.gh d,0,[]⟩))))
      |_,_=>False
     |none=>False
    |_,_=>False
   |none=>False
  |_,_,_=>False
 |_=>False
def jl(P:Program)(E:Ut)(s:St)(t u0:TypeId)(x y:Operand)(d:Tmp)(k:St->Prop):Prop:=
 match(ty P t).k with
 |.sl e=>match E.get e,zcells P e with
  |some u,some z=>match(ty P e).ok&&(ty P u0).k.isSS&&Nat.beq z.length (ty P e).size&&Nat.beq (nc u) (ty P e).size with
   |true=>match kL s u (evA s y)with
    |some (s1,a,b)=>match kL s1 u (evA s1 x)with
     |some (s2,sub,l)=>match jV a sub with
      |true=>(l.length+b.length<=4611686018427387904/\(l.length+b.length)*(ty P e).bytes<=140737488355328) /\
       k (((s2.fresh (.gh d)).root (.gh d) ⟨false,[.ow sub u (l++b)],none⟩).put (some d) (.one (.c (.rf ⟨.gh d,0,[]⟩))))
      |false=>False
     |none=>False
    |none=>False
   |false=>False
  |_,_=>False
 |_=>False
def Yu(s:St):At->Bool
 |.one (.c (.rf q))=>match sliceAt s.m q with
  |some ⟨sub,_,_⟩=>!(sub.all Sh.isFr)
  |none=>false
 |_=>false
def Xq(sub:List Sh):List Step->Bool
 |[]=>false
 |[st]=>match sub[st.off]? with
  |some .fr=>true
  |_=>false
 |st::a::r=>match sub[st.off]? with
  |some (.ow s)=>Xq s (a::r)
  |_=>false
def ag4(m:List (Nm×Nat×Rt))(p:Pl):Bool:=
 match bK m p.root with
 |none=>false
 |some r=>match p.path,r.hole,r.cells[p.off]? with
  |st::q,none,some (.ow sub _ _)=>Xq sub (st::q)
  |_,_,_=>false
def aeX(m:List (Nm×Nat×Rt))(n:Nm):Bool:=
 match bK m n with
 |some r=>r.blk
 |none=>false
def xv(s:St)(p:Pl):List Tt->St
 |[]=>s
 |.rf q::ts=>match ag4 s.m p||aeX s.m q.root with
  |true=>xv (uy s q) (p.add 1) ts
  |false=>xv s (p.add 1) ts
 |_::ts=>xv s (p.add 1) ts
def Dv(s:St)(x v:At):St:=
 match x,lU v with
 |.one (.c (.pl p)),some ts=>xv s p ts
 |_,_=>s
abbrev PKt:=Value->St->Prop
abbrev CKt:=PKt->St->List Operand->(St->At->Prop)->Prop
abbrev CTt:=List (Nat×CKt)
def CTt.get:CTt->Nat->Option CKt
 |[],_=>none
 |(f,c)::r,i=>match Nat.beq f i with
  |true=>some c
  |false=>CTt.get r i
def Nd:At->Bool
 |.one (.c (.d (.s _)))=>true
 |_=>false
structure En where
 P:Program
 E:Ut
 cs:CTt
 sh:List (TypeId×List Sh)
 pk:PKt
def fI:List (TypeId×List Sh)->TypeId->Option (List Sh)
 |[],_=>none
 |(t,u)::r,i=>match Nat.beq t i with
  |true=>some u
  |false=>fI r i
def adW(e:En)(t:TypeId):Option (List Sh):=match(ty e.P t).k with
 |.sl el=>fI e.sh el
 |_=>none
def AP(a:Nat):List Sh->Nat->St->St
 |[],_,s=>s
 |.fr::r,j,s=>AP a r (j+1) s
 |.ow _::r,j,s=>match gtA s.t a with
  |.one (.agg ts)=>match ts[j]? with
   |some (.rf q)=>match q.path,aeX s.m q.root,sliceAt s.m q with
    |[],true,some ⟨_,u,_⟩=>match kL s u (.one (.c (.rf q)))with
     |some (s1,sub,l)=>
      let s2:=(s1.fresh (.gh (700000+j))).root (.gh (700000+j)) ⟨false,[.ow sub u l],none⟩
      match gtA s2.t a with
      |.one (.agg b)=>AP a r (j+1) (s2.put (some a) (.one (.agg (b.set j (.rf ⟨.gh (700000+j),0,[]⟩)))))
      |_=>AP a r (j+1) s2
     |none=>AP a r (j+1) s
    |_,_,_=>AP a r (j+1) s
   |_=>AP a r (j+1) s
  |_=>s
def KO(sh:List (TypeId×List Sh))(s:St)(t:TypeId)(v:Operand):St:=match fI sh (t+1000000),v with
 |some l,.tmp a=>AP a l 0 s
 |_,_=>s
def ab1:At->Option Nat
 |.one (.c (.d (.v (.func (.func f) a b))))=>match a.size,b.size with
  |0,0=>some f
  |_,_=>none
 |.one (.c (.d (.fn c)))=>match c.caps with
  |[]=>some c.fn
  |_=>none
 |_=>none
def Dj:At->Option Nat
 |.one (.c (.d (.fn c)))=>some (c.fn+1000000)
 |_=>none
def tdC:List Tt->Option (List C)
 |[]=>some []
 |.d c::r=>match c with
  |.any=>none
  |c=>(tdC r).map (c::·)
 |_=>none
def Tt.frB(n:Nm)(row:List C):Tt->Tt
 |.pl p=>match p.path with
  |[]=>if p.root=n then .el row p.off else .pl p
  |_=>(Tt.pl p).kill (bm n)
 |t=>t.kill (bm n)
def Ju(s:St)(n:Nm):St:=match bK s.m n with
 |some ⟨true,cells,none⟩=>match tdC cells with
  |some row=>⟨s.nx+1,s.t.map λx=>(x.1,stp (x.2.2.hit (bm n)) s.nx x.2.1,x.2.2.map (Tt.frB n row)),cc (bm n) s.nx (e8 s.m n)⟩
  |none=>s
 |_=>s
def se:St->List At->St
 |s,[]=>s
 |s,.one (.c (.pl ⟨n,_,[]⟩))::r=>se (Ju s n) r
 |s,_::r=>se s r
def I6(row:List C):List Sn->Option Lt.Cap
 |[]=>none
 |n::r=>match unflat (.st n) row with
  |some x=>match aiX n x with
   |some c=>some c
   |none=>I6 row r
  |none=>I6 row r
def ER(s:St):List Operand->Option (List Lt.Cap)
 |[]=>some []
 |x::r=>match evA s x with
  |.one (.c (.el row 0))=>match I6 row ajS,ER s r with
   |some c,some cs=>some (c::cs)
   |_,_=>none
  |_=>none
def kw(s0:St)(f:Nat)(caps:List Operand)(d:Option Tmp)(k:St->Prop):Prop:=
 let s:=se s0 (caps.map (evA s0))
 match ER s caps with
 |some cs=>k (s.put d (sct (.fn ⟨f,cs⟩)))
 |none=>False
def uO1(P:Program)(t:TypeId):Option U:=match(ty P t).k with
 |.str=>some .s
 |.bool=>some .bo
 |.int .u8=>some .b8
 |.int k=>some (.i k)
 |_=>none
def uOf(P:Program)(E:Ut)(t:TypeId):Option U:=match(ty P t).k with
 |.sl e=>match E.get e with
  |some u=>some (.sl u)
  |none=>none
 |.mp k v=>match uO1 P k,uO1 P v with
  |some a,some b=>some (.mp a b)
  |_,_=>none
 |_=>uO1 P t
def gk(P:Program)(t:TypeId):U->Bool
 |.s=>decide ((ty P t).k=.str)
 |.bo=>decide ((ty P t).k=.bool)
 |.i k=>decide ((ty P t).k=.int k)
 |_=>false
def mG:(u:U)->El u->El u->Bool
 |.i _,a,b=>decide ((a:Int)=b)
 |.bo,a,b=>(a:Bool)==b
 |.s,a,b=>decide ((a:a8)=b)
 |_,_,_=>false
variable{β:Type}
def aw(ku:U):List (El ku×β)->El ku->Option β
 |[],_=>none
 |x::l,k=>match mG ku x.1 k with
  |true=>some x.2
  |false=>aw ku l k
def bP(ku:U):List (El ku×β)->El ku->β->List (El ku×β)
 |[],k,v=>[(k,v)]
 |x::l,k,v=>match mG ku x.1 k with
  |true=>(k,v)::l
  |false=>x::bP ku l k v
def zOK(P:Program)(t:TypeId)(u:U):Bool:=match(P.info? t).bind (·.zero),u with
 |some (.int k n),.i k'=>decide (k=k')&&decide (n=0)&&decide (k≠.u8)
 |some (.bool b),.bo=>!b
 |some (.string s),.s=>s.data.toList.isEmpty
 |some (.slice none 0 0),.sl _=>true
 |some (.map none),.mp _ _=>true
 |_,_=>false
def oN(m:List (Nm×Nat×Rt))(p:Pl):Option ((ku:U)×(vu:U)×List (El ku×El vu)):=match p with
 |⟨n,0,[]⟩=>match bK m n with
  |some ⟨false,[.mp ku vu l],none⟩=>some ⟨ku,vu,l⟩
  |_=>none
 |_=>none
def wx(m:List (Nm×Nat×Rt))(n:Nm):Option ((ku:U)×(u:U)×List (El ku×List (El u))×Option (El ku)):=match bK m n with
 |some ⟨false,[.mo ku u l h],none⟩=>some ⟨ku,u,l,h⟩
 |_=>none
def acG(s:St):At->Bool
 |.one (.c (.rf ⟨n,0,[]⟩))=>(wx s.m n).isSome
 |_=>false
def OK(vu:U)(ok:Bool)(r:Option (El vu)):At:=match ok with
 |true=>.tup [.c (.d (ao vu (r.getD (dflt vu)))),.c (.d (.bo r.isSome))]
 |false=>.one (.c (.d (ao vu (r.getD (dflt vu)))))
def gi(P:Program)(E:Ut)(own:Bool)(s:St)(t:TypeId)(d:Tmp)(k:St->Prop):Prop:=match(ty P t).k with
 |.mp kt et=>match uOf P E kt,uOf P E et,own with
  |some ku,some vu,false=>k (((s.fresh (.gh d)).root (.gh d) ⟨false,[.mp ku vu []],none⟩).put (some d) (.one (.c (.rf ⟨.gh d,0,[]⟩))))
  |some ku,some (.sl u),true=>k (((s.fresh (.gh d)).root (.gh d) ⟨false,[.mo ku u [] none],none⟩).put (some d) (.one (.c (.rf ⟨.gh d,0,[]⟩))))
  |_,_,_=>False
 |_=>False
def mf(P:Program)(m:List (Nm×Nat×Rt))(t:TypeId)(x key:At)(ok:Bool)(k:At->Prop):Prop:=match(ty P t).k with
 |.mp kt et=>match x,key with
  |.one (.c (.rf p)),.one (.c (.d c))=>match oN m p with
   |some ⟨ku,vu,l⟩=>match gk P kt ku&&zOK P et vu,fY ku c with
    |true,some kx=>k (OK vu ok (aw ku l kx))
    |_,_=>False
   |none=>False
  |.one (.c (.d (.mp ku vu z))),.one (.c (.d c))=>match gk P kt ku&&(zOK P et vu&&leaf vu),fY ku c with
   |true,some kx=>k (OK vu ok (aw ku (z.getD []) kx))
   |_,_=>False
  |_,_=>False
 |_=>False
def mg(P:Program)(s:St)(t:TypeId)(x key v:At)(k:St->Prop):Prop:=match(ty P t).k with
 |.mp kt _=>match x,key,v with
  |.one (.c (.rf p)),.one (.c (.d c)),.one (.c tv)=>match oN s.m p with
   |some ⟨ku,vu,l⟩=>match gk P kt ku&&leaf vu,fY ku c,lI vu [tv]with
    |true,some kx,some a=>k ⟨s.nx+1,s.t,dv s.m p.root s.nx ⟨false,[.mp ku vu (bP ku l kx a)],none⟩⟩
    |_,_,_=>False
   |none=>False
  |_,_,_=>False
 |_=>False
def rR(ku:U):List (El ku×β)->El ku->List (El ku×β)
 |[],_=>[]
 |x::l,k=>match mG ku x.1 k with
  |true=>l
  |false=>x::rR ku l k
def me(P:Program)(s:St)(t:TypeId)(x key:At)(k:St->Prop):Prop:=match(ty P t).k with
 |.mp kt _=>match x,key with
  |.one (.c (.rf p)),.one (.c (.d c))=>match oN s.m p with
   |some ⟨ku,vu,l⟩=>match gk P kt ku,fY ku c with
    |true,some kx=>k ⟨s.nx+1,s.t,dv s.m p.root s.nx ⟨false,[.mp ku vu (rR ku l kx)],none⟩⟩
    |_,_=>False
   |none=>False
  |_,_=>False
 |_=>False
def nD(P:Program)(s:St)(t:TypeId)(x key:Operand)(d:Tmp)(k:St->Prop):Prop:=match(ty P t).k with
 |.mp kt et=>
  let s1:=s.fresh (.gh d)
  match evA s1 x,evA s1 key with
  |.one (.c (.rf ⟨n,0,[]⟩)),.one (.c (.d c))=>match wx s1.m n with
   |some ⟨ku,u,l,none⟩=>match gk P kt ku&&zOK P et (.sl u),fY ku c with
    |true,some kx=>k (((⟨s1.nx+1,s1.t,dv s1.m n s1.nx ⟨false,[.mo ku u l (some kx)],none⟩⟩:St).root (.gh d) ⟨false,[.ow (List.replicate (nc u) .fr) u ((aw ku l kx).getD [])],none⟩).put (some d) (.one (.c (.rf ⟨.gh d,0,[]⟩))))
    |_,_=>False
   |_=>False
  |_,_=>False
 |_=>False
def rl(P:Program)(s:St)(t:TypeId)(x key v:At)(k:St->Prop):Prop:=match(ty P t).k with
 |.mp kt _=>match x,key,v with
  |.one (.c (.rf ⟨n,0,[]⟩)),.one (.c (.d c)),.one (.c (.rf ⟨q,0,[]⟩))=>match wx s.m n,bK s.m q with
   |some ⟨ku,u,l,h⟩,some ⟨false,[.ow sub u' rows],none⟩=>match gk P kt ku&&(jV sub (List.replicate (nc u) .fr)&&!(decide (q=n))),fY ku c,r7 u' u rows with
    |true,some kx,some a=>(match h with
     |some k0=>kx=k0
     |none=>True)/\(let s1:=s.drop q;k ⟨s1.nx+1,s1.t,dv s1.m n s1.nx ⟨false,[.mo ku u (bP ku l kx a) none],none⟩⟩)
    |_,_,_=>False
   |_,_=>False
  |_,_,_=>False
 |_=>False
def wM(P:Program)(s0:St)(t:TypeId)(x:Operand)(d:Tmp)(k:St->Prop):Prop:=
 let s:=fW s0 (evA s0 x)
 match(ty P t).k with
 |.mp kt _=>match evA (s.fresh (.gh d)) x with
  |.one (.c (.d (.mp ku vu z)))=>match gk P kt ku&&leaf vu with
   |true=>k (((s.fresh (.gh d)).root (.gh d) ⟨false,[.it ku vu none (z.getD [])],none⟩).put (some d) (.one (.c (.rf ⟨.gh d,0,[]⟩))))
   |false=>False
  |_=>False
 |_=>False
def acH(m:List (Nm×Nat×Rt)):At->Option (Nm×((ku:U)×(vu:U)×Option (El ku×El vu)×List (El ku×El vu)))
 |.one (.c (.rf ⟨n,0,[]⟩))=>match bK m n with
  |some ⟨false,[.it ku vu cur rest],none⟩=>some (n,⟨ku,vu,cur,rest⟩)
  |_=>none
 |_=>none
def DO(s:St)(x:At)(d:Option Tmp)(k:St->Prop):Prop:=match acH s.m x with
 |some (n,⟨ku,vu,_,rest⟩)=>(rest=[]->k (s.put d (.tup [.c (.d (.bo false))])))/\∀i,i<rest.length ->
   k ((⟨s.nx+1,s.t,dv s.m n s.nx ⟨false,[.it ku vu (some (rest.getD i (dflt ku,dflt vu))) (rest.eraseIdx i)],none⟩⟩:St).put d
    (.tup [.c (.d (.bo true)),.c (.d (ao ku (rest.getD i (dflt ku,dflt vu)).1)),.c (.d (ao vu (rest.getD i (dflt ku,dflt vu)).2))]))
 |none=>False
def qZ(s:St)(x:At)(d:Option Tmp)(k:St->Prop):Prop:=match acH s.m x with
 |some (_,⟨ku,vu,some y,_⟩)=>k (s.put d (.tup [.c (.d (ao ku y.1)),.c (.d (ao vu y.2))]))
 |_=>False
def rk(s:St)(x:At)(d:Tmp)(k:St->Prop):Prop:=match x with
 |.one (.c (.d (.mp _ _ z)))=>(z.getD []).length<=4611686018427387904/\k (s.put (some d) (sct (.i .i64 ((z.getD []).length:Int))))
 |.one (.c (.rf p))=>match oN s.m p with
  |some ⟨_,_,l⟩=>l.length<=4611686018427387904/\k (s.put (some d) (sct (.i .i64 (l.length:Int))))
  |none=>False
 |_=>False
def Yw(e:En)(o:Oper):Bool:=match o.op,o.dst with
 |.slice _ _ none (some _) none,some d=>(fI e.sh (3000000+d)).isSome
 |.assign _,some d=>(fI e.sh (5000000+d)).isSome
 |.call c,some _=>match c.callee,c.argTypes.toList with
  |.builtin .len,[t]=>match(ty e.P t).k with
   |.mp _ _=>true
   |_=>false
  |_,_=>false
 |.indexAddr _ _ _,some d=>(fI e.sh (8000000+d)).isSome
 |_,_=>false
def nK(e:En)(s:St)(t:TypeId)(x hi:Operand)(d:Tmp)(k:St->Prop):Prop:=match(ty e.P t).k with
 |.sl el=>match evA s x,evA s hi with
  |.one (.c (.rf q)),.one (.c (.d (.i .i64 n)))=>match sliceAt s.m q with
   |some ⟨_,u,_⟩=>match(ty e.P el).ok,kL s u (.one (.c (.rf q)))with
    |true,some (s1,sub,l)=>(0<=n/\n.toNat<=l.length)/\k (((s1.fresh (.gh d)).root (.gh d) ⟨false,[.ow sub u (l.take n.toNat)],none⟩).put (some d) (.one (.c (.rf ⟨.gh d,0,[]⟩))))
    |_,_=>False
   |none=>False
  |_,_=>False
 |_=>False
def rj(s:St)(x:Operand)(d:Tmp)(k:St->Prop):Prop:=match evA s x with
 |.one (.c (.rf ⟨n,0,[]⟩))=>match wx s.m n with
  |some ⟨ku,u,l,none⟩=>k ((⟨s.nx+1,s.t,dv s.m n s.nx ⟨false,[.mp ku (.sl u) l],none⟩⟩:St).put (some d) (.one (.c (.rf ⟨n,0,[]⟩))))
  |_=>False
 |_=>False
def BD:List C->Option (List a8)
 |[]=>some []
 |.s x::r=>match BD r with
  |some l=>some (x::l)
  |none=>none
 |_=>none
def Lw(e:En)(o:Oper)(s:St)(k:St->Prop):Prop:=match o.op,o.dst with
 |.slice t x none (some hi) none,some d=>nK e s t x hi d k
 |.assign x,some d=>rj s x d k
 |.call c,some d=>match c.args.toList with
  |[x]=>rk s (evA s x) d k
  |_=>False
 |.indexAddr t x i,some d=>
  let s1:=se s [evA s x]
  match evA s1 x with
  |.one (.c (.el row 0))=>match BD row with
   |some l=>eG e.P s1.m t (.one (.c (.ga .s l 0))) (evA s1 i) λv=>k (s1.put (some d) v)
   |none=>False
  |_=>False
 |_,_=>False
def Q5:List Sh->U->Bool
 |[.fr],_=>true
 |[.ow _],.sl _=>true
 |_,_=>false
def By:Operand->Operand->Bool
 |.tmp a,.tmp b=>Nat.beq a b
 |_,_=>false
def fy(e:En)(s:St)(t:TypeId)(n c:At)(same:Bool)(d:Tmp)(k:St->Prop):Prop:=match(ty e.P t).k,same with
 |.sl el,true=>match n with
  |.one (.c (.d (.i .i64 n)))=>match e.E.get el with
   |some u=>match zOK e.P el u&&Nat.beq (ty e.P el).size 1&&Q5 ((fI e.sh el).getD [.fr]) u with
    |true=>(0<=n/\n<=4611686018427387904/\(ty e.P el).bytes*n.toNat<=281474976710656) /\
     k (((s.fresh (.gh d)).root (.gh d) ⟨false,[.ow ((fI e.sh el).getD [.fr]) u (List.replicate n.toNat (dflt u))],none⟩).put (some d) (.one (.c (.rf ⟨.gh d,0,[]⟩))))
    |false=>False
   |none=>False
  |_=>False
 |_,_=>False
def Co(s:St)(o:Oper):St:=
 match o.op with
 |.convert _ _ x=>fW s (evA s x)
 |.slice _ x _ _ _=>fW s (evA s x)
 |_=>s
def qT(e:En)(o:Oper)(s:St)(k:At->Prop):Prop:=
 match o.op with
 |.move x=>k (evA s x)
 |.assign x=>k (evA s x)
 |.pick c x y=>xD (evA s c) (evA s x) (evA s y) k
 |.binOp op t x y _=>IK e.P op t (evA s x) (evA s y) k
 |.unOp op _ x=>unT op (evA s x) k
 |.load t x=>lc e.P s.m t (evA s x) k
 |.field t x i=>pV e.P t (evA s x) i k
 |.fieldAddr t x i=>fu e.P s.m t (evA s x) i k
 |.indexAddr t x i=>eG e.P s.m t (evA s x) (evA s i) k
 |.index t x i=>match(ty e.P t).k with
  |.str=>qE (evA s x) (evA s i) k
  |_=>False
 |.extract x i=>jt (evA s x) i k
 |.convert b a x=>xp e.P b a (evA s x) k
 |.slice t x lo hi none=>qC e.P t (evA s x) (lo.map (evA s)) (hi.map (evA s)) k
 |.nilCheck x=>gW (evA s x) k
 |.build t ps=>pL e.P t (fB s ps) k
 |.call c=>match c.callee,c.args.toList,c.argTypes.toList with
  |.builtin .len,[x],[t]=>match xy (ty e.P t).k (Nd (evA s x))with
   |true=>Ku o.guard s.m (evA s x) λn=>k (sct (.i .i64 (n:Int)))
   |false=>False
  |_,_,_=>False
 |_=>False
def lT(e:En)(o:Oper)(s:St)(k:St->Prop):Prop:=
 match o.op with
 |.store t x v=>let s0:=KO e.sh s t v;let s1:=Dv s0 (evA s0 x) (evA s0 v);qD e.P s1 t (evA s1 x) (evA s1 v) λs'=>k (s'.put o.dst .any)
 |.alloc t=>match o.dst with
  |some d=>pH e.P s t d k
  |none=>False
 |.box _ x=>match o.dst with
  |some d=>IP s x d k
  |none=>False
 |.buildSlice t n ps=>match o.dst with
  |some d=>match adW e t with
   |none=>eh e.P e.E s t n ps d k
   |some sub=>match Y5 sub s ps with
    |true=>dA e.P e.E sub s t n ps d k
    |false=>dz e.P e.E sub s t n ps d k
  |none=>False
 |.call c=>match c.callee,c.args.toList,c.argTypes.toList with
  |.builtin .append,[x,y],[t,u]=>match o.dst with
   |some d=>match Yu s (evA s x)with
    |false=>lP e.P e.E s t u x y d k
    |true=>jl e.P e.E s t u x y d k
   |none=>False
  |.builtin .delete,[x,i],t::_=>me e.P s t (evA s x) (evA s i) λs'=>k (s'.put o.dst (.tup []))
  |.value (.func f),args,_=>match e.cs.get f,Nat.blt f 1000000 with
   |some C,true=>C e.pk s args λs' av=>k (s'.put o.dst av)
   |_,_=>False
  |.value (.tmp t),args,_=>match Nat.blt t 100000,ab1 (gtA s.t t)with
   |true,some f=>match e.cs.get f,Nat.blt f 1000000 with
    |some C,true=>C e.pk s args λs' av=>k (s'.put o.dst av)
    |_,_=>False
   |true,none=>match Dj (gtA s.t t)with
    |some f=>match e.cs.get f with
     |some C=>C e.pk s (.tmp t::args) λs' av=>k (s'.put o.dst av)
     |none=>False
    |none=>False
   |_,_=>False
  |_,_,_=>False
 |.makeMap t r=>match o.dst,r with
  |some d,none=>gi e.P e.E (fI e.sh (4000000+t)).isSome s t d k
  |some d,some x=>match evA s x with
   |.one (.c (.d (.i _ _)))=>gi e.P e.E (fI e.sh (4000000+t)).isSome s t d k
   |_=>False
  |none,_=>False
 |.lookup t x i ok=>match acG s (evA s x),ok,o.dst with
  |true,false,some d=>nD e.P s t x i d k
  |_,_,_=>mf e.P s.m t (evA s x) (evA s i) ok λv=>k (s.put o.dst v)
 |.mapUpdate t m i v=>match acG s (evA s m)with
  |true=>rl e.P s t (evA s m) (evA s i) (evA s v) λs'=>k (s'.put o.dst .any)
  |false=>let s1:=fW s (evA s v);mg e.P s1 t (evA s1 m) (evA s1 i) (evA s1 v) λs'=>k (s'.put o.dst .any)
 |.makeSlice t n c=>match o.dst with
  |some d=>fy e s t (evA s n) (evA s c) (By n c) d k
  |none=>False
 |.makeFunc fn first caps=>match fn,first.toList with
  |.func f,[]=>kw s f caps.toList o.dst k
  |_,_=>False
 |.range t x=>match o.dst with
  |some d=>wM e.P s t x d k
  |none=>False
 |.next x false=>DO s (evA s x) o.dst k
 |.entry x=>qZ s (evA s x) o.dst k
 |_=>False
def A0(e:En)(o:Oper)(s:St)(k:St->Prop):Prop:=
 match isQ o with
 |true=>let s1:=Co s o;qT e o s1 λv=>k (s1.put o.dst v)
 |false=>lT e o s k
def opT(e:En)(o:Oper)(s:St)(k:St->Prop):Prop:=
 match Yw e o with
 |true=>Lw e o s k
 |false=>A0 e o s k
def dand(p:Prop)[d:Decidable p](b:Bool):Bool:=match d with
 |.isTrue _=>b
 |.isFalse _=>false
abbrev CKb:=St->List Operand->(St->At->Bool)->Bool
abbrev CBt:=List (Nat×CKb)
def CBt.get:CBt->Nat->Option CKb
 |[],_=>none
 |(f,c)::r,i=>match Nat.beq f i with
  |true=>some c
  |false=>CBt.get r i
structure EnB where
 e:En
 cs:CBt
def YE(c x y:At)(k:At->Bool):Bool:=
 match c with
 |.one (.c (.d (.bo b)))=>if b then k x else k y
 |_=>false
def ahJ(op:BinOp)(k:IntKind)(a b:Int)(K:C->Bool):Bool:=
 match op with
 |.add=>K (mkC k (k.wrap (a+b)))
 |.sub=>K (mkC k (k.wrap (a-b)))
 |.mul=>K (mkC k (k.wrap (a*b)))
 |.quo=>dand (b≠0) (K (mkC k (k.wrap (a.tdiv b))))
 |.rem=>dand (b≠0) (K (mkC k (a.tmod b)))
 |.and=>K (mkC k (k.wrap (BitVec.ofInt k.bits a &&& BitVec.ofInt k.bits b).toNat))
 |.or=>K (mkC k (k.wrap (BitVec.ofInt k.bits a ||| BitVec.ofInt k.bits b).toNat))
 |.xor=>K (mkC k (k.wrap (BitVec.ofInt k.bits a ^^^ BitVec.ofInt k.bits b).toNat))
 |.andNot=>K (mkC k (k.wrap (BitVec.ofInt k.bits a &&& ~~~BitVec.ofInt k.bits b).toNat))
 |.shl=>dand (0<=b) (K (mkC k (k.wrap (a*2 ^ (min b.toNat k.bits)))))
 |.shr=>dand (0<=b) (K (mkC k (a.fdiv (2 ^ (min b.toNat k.bits)))))
 |.eql=>K (.bo (decide (a=b)))
 |.neq=>K (.bo (!decide (a=b)))
 |.lss=>K (.bo (decide (a<b)))
 |.leq=>K (.bo (decide (a<=b)))
 |.gtr=>K (.bo (decide (b<a)))
 |.geq=>K (.bo (decide (b<=a)))
def Wq(op:BinOp)(x y:C)(K:C->Bool):Bool:=
 match x,y with
 |.s a,.s b=>match op with
  |.add=>dand (a.length+b.length<=4611686018427387904) (K (.s (a++b)))
  |.eql=>K (.bo (decide (a=b)))
  |.neq=>K (.bo (!decide (a=b)))
  |.lss=>K (.bo (Op.bytesLess a b))
  |.leq=>K (.bo (Op.bytesLess a b||decide (a=b)))
  |.gtr=>K (.bo (!(Op.bytesLess a b||decide (a=b))))
  |.geq=>K (.bo (!Op.bytesLess a b))
  |_=>false
 |x,y=>match kZ x,kZ y with
  |some (k,a),some (k',b)=>if ahB op=true\/k=k' then ahJ op k a b K else false
  |_,_=>false
def agA(P:Program)(op:BinOp)(t:TypeId)(x y:At)(k:At->Bool):Bool:=
 match x,y with
 |.one (.c (.d (.bo a))),.one (.c (.d (.bo b)))=>match(ty P t).k with
  |.bool=>match op with
   |.eql=>k (sct (.bo (a==b)))
   |.neq=>k (sct (.bo (!(a==b))))
   |_=>false
  |_=>false
 |.one (.c (.d a)),.one (.c (.d .nm))=>match(ty P t).k,ahF a with
  |.mp _ _,some z=>match op with
   |.eql=>k (sct (.bo z))
   |.neq=>k (sct (.bo (!z)))
   |_=>false
  |_,_=>false
 |.one (.c (.d a)),.one (.c (.d b))=>Wq op a b λd=>k (sct d)
 |.one (.agg xs),.one (.agg e)=>match Jf P t with
  |some l=>match S3 l (xs.map TC) (e.map TC),op with
   |some b,.eql=>k (sct (.bo b))
   |some b,.neq=>k (sct (.bo (!b)))
   |_,_=>false
  |none=>false
 |_,_=>false
def unB(op:UnOp)(x:At)(k:At->Bool):Bool:=
 match op,x with
 |.not,.one (.c (.d (.bo b)))=>k (sct (.bo (!b)))
 |.neg,.one (.c (.d c))=>match kZ c with
  |some (κ,n)=>k (sct (mkC κ (κ.wrap (0-n))))
  |none=>false
 |.xor,.one (.c (.d c))=>match kZ c with
  |some (κ,n)=>k (sct (mkC κ (κ.wrap (BitVec.ofInt κ.bits (if κ.signed then -1 else κ.max) ^^^ BitVec.ofInt κ.bits n).toNat)))
  |none=>false
 |_,_=>false
def zY(x:At)(i:Nat)(k:At->Bool):Bool:=
 match x with
 |.tup vs=>match vs[i]? with
  |some v=>k (.one v)
  |none=>false
 |_=>false
def ahE(gd:Option (Nat×Bool))(m:List (Nm×Nat×Rt))(x:At)(k:Nat->Bool):Bool:=
 match x with
 |.one (.c (.d (.s l)))=>k l.length
 |.one (.c (.d (.li _ l)))=>k l.length
 |.one (.c .nil)=>k 0
 |.one (.c (.rf p))=>match sliceAt m p with
  |some ⟨_,_,l⟩=>k l.length
  |_=>false
 |_=>false
def O0(x i:At)(k:At->Bool):Bool:=
 match x,i with
 |.one (.c (.d (.s l))),.one (.c (.d (.i _ n)))=>dand ((0<=n/\n.toNat<l.length)) (k (sct (.b (l.getD n.toNat 0))))
 |_,_=>false
def pJ(x:Option At)(d:Nat)(k:Nat->Bool):Bool:=
 match x with
 |none=>k d
 |some (.one (.c (.d (.i _ n))))=>dand (0<=n) (k n.toNat)
 |_=>false
def OR(P:Program)(t:TypeId)(x:At)(lo hi:Option At)(k:At->Bool):Bool:=
 match x with
 |.one (.c (.d (.s l)))=>match(ty P t).k with
  |.str=>pJ lo 0 λa=>pJ hi l.length λb=>dand ((a<=b/\b<=l.length)) (k (sct (.s ((l.drop a).take (b-a)))))
  |_=>false
 |.one (.c (.d (.li u l)))=>match(ty P t).k with
  |.sl e=>match(ty P e).ok&&Nat.beq (nc u) (ty P e).size with
   |true=>pJ lo 0 λa=>pJ hi l.length λb=>dand ((a<=b/\b<=l.length)) (k (sct (.li u ((l.drop a).take (b-a)))))
   |false=>false
  |_=>false
 |.one (.c .nil)=>match(ty P t).k with
  |.sl e=>match(ty P e).ok with
   |true=>pJ lo 0 λa=>pJ hi 0 λb=>dand (a<=b/\b<=0) (k (.one (.c .nil)))
   |false=>false
  |_=>false
 |_=>false
def sQ(P:Program)(m:List (Nm×Nat×Rt))(t:TypeId)(x:At)(i:Nat)(k:At->Bool):Bool:=
 match(ty P t).k with
 |.st fs=>match fs[i]? with
  |some (off,size+1,_)=>match x with
   |.one (.c (.pl p))=>match jx m p off with
    |true=>k (.one (.c (.pl (p.add off))))
    |false=>false
   |.one (.c (.el row o))=>k (.one (.c (.el row (o+off))))
   |_=>false
  |_=>false
 |_=>false
def sT(P:Program)(m:List (Nm×Nat×Rt))(t:TypeId)(x i:At)(k:At->Bool):Bool:=
 match i with
 |.one (.c (.d (.i _ n)))=>match(ty P t).k with
  |.sl e=>match x with
   |.one (.c (.d (.li u l)))=>match(ty P e).ok&&Nat.beq (nc u) (ty P e).size with
    |true=>dand ((0<=n/\n.toNat<l.length)) (k (.one (.c (.el (flat u (l.getD n.toNat (dflt u))) 0))))
    |false=>false
   |.one (.c (.rf p))=>match(ty P e).ok&&Nat.ble 1 (ty P e).size with
    |true=>match sliceAt m p with
     |some ⟨sh,_,l⟩=>match Nat.beq sh.length (ty P e).size with
      |true=>dand ((0<=n/\n < (l.length:Int))) (k (.one (.c (.pl (p.at n.toNat (ty P e).size)))))
      |false=>false
     |_=>false
    |false=>false
   |_=>false
  |.ar N e=>match x with
   |.one (.c (.ga u l i))=>match(ty P e).ok&&Nat.beq (ty P e).size 1&&leaf u with
    |true=>dand ((0<=n/\n < (N:Int))) (k (.one (.c (.ga u l (n.toNat+i)))))
    |false=>false
   |.one (.c (.pl p))=>match(ty P e).ok&&jx m p (n.toNat*(ty P e).size)with
    |true=>dand ((0<=n/\n < (N:Int))) (k (.one (.c (.pl (p.add (n.toNat*(ty P e).size))))))
    |false=>false
   |_=>false
  |_=>false
 |_=>false
def QH(P:Program)(m:List (Nm×Nat×Rt))(t:TypeId)(x:At)(k:At->Bool):Bool:=
 match(ty P t).ok with
 |true=>match x with
  |.one (.c (.el row o))=>match(ty P t).agg with
   |true=>match Nat.ble (o+(ty P t).size) row.length with
    |true=>k (.one (.agg (((row.drop o).take (ty P t).size).map Tt.d)))
    |false=>false
   |false=>match row[o]? with
    |some c=>k (sct c)
    |none=>false
  |.one (.c (.ga u l i))=>match(ty P t).agg,leaf u with
   |false,true=>dand (i<l.length) (k (sct (ao u (l.getD i (dflt u)))))
   |_,_=>false
  |.one (.c (.pl p))=>match(ty P t).agg with
   |true=>match atT m p (ty P t).size with
    |some ts=>k (.one (.agg (Bl p ts)))
    |none=>false
   |false=>match atT m p 1 with
    |some [t']=>k (.one (.c (Lb p t')))
    |_=>false
  |_=>false
 |false=>false
def MZ(P:Program)(t:TypeId)(x:At)(i:Nat)(k:At->Bool):Bool:=
 match(ty P t).k,x with
 |.st fs,.one (.agg ts)=>match fs[i]? with
  |some (off,_,some false)=>match ts[off]? with
   |some t'=>k (.one (.c t'))
   |none=>false
  |some (off,size,some true)=>match Nat.ble (off+size) ts.length with
   |true=>k (.one (.agg ((ts.drop off).take size)))
   |false=>false
  |_=>false
 |_,_=>false
def wA(x:At)(k:At->Bool):Bool:=
 match x with
 |.one (.c (.pl _))=>k x
 |.one (.c (.el _ _))=>k x
 |.one (.c (.ga _ _ _))=>k x
 |_=>false
def MC(P:Program)(t:TypeId)(b:List (Nat×At))(k:At->Bool):Bool:=
 match zst P t with
 |some (zs,a)=>match mF (a[·]?) (zs.map pR) b with
  |some ts=>k (.one (.agg ts))
  |none=>false
 |none=>false
def Xc(P:Program)(b a:TypeId)(x:At)(k:At->Bool):Bool:=
 match(ty P b).k,(ty P a).k with
 |.int _,.int κ=>match x with
  |.one (.c (.d c))=>match kZ c with
   |some (_,n)=>k (sct (mkC κ (κ.wrap n)))
   |none=>false
  |_=>false
 |.sl e,.str=>match(ty P e).k with
  |.int .u8=>match x with
   |.one (.c (.d (.li .b8 l)))=>k (sct (.s l))
   |.one (.c .nil)=>k (sct (.s []))
   |_=>false
  |_=>false
 |_,_=>false
def Mp(P:Program)(s:St)(t:TypeId)(d:Tmp)(k:St->Bool):Bool:=
 match zcells P t with
 |some (z::zs)=>match Nat.blt d 1000000 with
  |true=>k (((s.fresh (lJ t d)).root (lJ t d) ⟨true,(z::zs).map pR,none⟩).put (some d) (.one (.c (.pl ⟨lJ t d,0,[]⟩))))
  |false=>false
 |_=>false
def agC(s:St)(x:Operand)(d:Tmp)(k:St->Bool):Bool:=
 match lU (evA (s.fresh (.loc d)) x)with
 |some (t::ts)=>match(t::ts).all Tt.sure&&Nat.blt d 1000000 with
  |true=>k (((s.fresh (.loc d)).root (.loc d) ⟨true,t::ts,none⟩).put (some d) (.one (.c (.pl ⟨.loc d,0,[]⟩))))
  |false=>false
 |_=>false
def pK(P:Program)(E:Ut)(s0:St)(t:TypeId)(len:Nat)(ps:Array (Nat×Operand))(d:Tmp)(k:St->Bool):Bool:=
 match(ty P t).k with
 |.sl e=>match E.get e,zcells P e with
  |some u,some _=>match(ty P e).ok&&Nat.beq (nc u) (ty P e).size&&Nat.ble (len*nc u) 16777216&&Nat.ble len 16777216 with
   |true=>
    let s1:=cR s0 (ps.toList.map λx=>evA s0 x.2)
    let s:=s1.fresh (.gh d)
    match mF (λi=>some (i*nc u,nc u)) (List.replicate (len*nc u) .any) (fB s ps),(fB s1 ps).all (λx=>x.2.noRf)with
    |some ts,true=>match ig u (chunk (nc u) len ts)with
     |some l=>k ((s.root (.gh d) ⟨false,[.ow (List.replicate (nc u) .fr) u l],none⟩).put (some d) (.one (.c (.rf ⟨.gh d,0,[]⟩))))
     |none=>false
    |_,_=>false
   |false=>false
  |_,_=>false
 |_=>false
def DR(sub:List Sh)(u:U)(l:List (El u)):List Step->Bool->Bool
 |[],_=>false
 |[st],k=>dand (st.idx<l.length) (k)
 |st::a::r,k=>match sub[st.off]?,(flat u (l.getD st.idx (dflt u)))[st.off]? with
  |some (.ow s),some (.li u' l')=>dand (st.idx<l.length) (DR s u' l' (a::r) k)
  |_,_=>false
def yp:List Step->List Step->Bool->Bool
 |[],[],p=>p
 |a::r,b::q,p=>match Nat.beq a.esz b.esz&&Nat.beq a.off b.off with
  |true=>dand (a.idx=b.idx) (yp r q p)
  |false=>false
 |_,_,_=>false
def adI(s:St)(p:Pl)(t:Tt)(k:St->Bool):Bool:=
 match bK s.m p.root with
 |none=>false
 |some r=>match p.path,r.hole,r.cells[p.off]? with
  |[],none,some t0=>match t0.owned with
   |false=>k ⟨s.nx+1,s.t,dv s.m p.root s.nx { r with cells:=r.cells.set p.off t }⟩
   |true=>false
  |st::q,none,some (.ow sub u l)=>match Eb sub u l t (st::q)with
   |some l'=>DR sub u l (st::q) (k ⟨s.nx+1,s.t,dv s.m p.root s.nx { r with cells:=r.cells.set p.off (.ow sub u l') }⟩)
   |none=>false
  |st::q,some (off,a,b),some (.ow sub u l)=>match Nat.beq off p.off,t with
   |true,.ow sh v c=>match Dn sub u l sh v c (st::q)with
    |some l'=>DR sub u l (st::q) (yp (a::b) (st::q) (k ⟨s.nx+1,s.t,dv s.m p.root s.nx ⟨r.blk,r.cells.set p.off (.ow sub u l'),none⟩⟩))
    |none=>false
   |_,_=>false
  |_,_,_=>false
def FY(s:St)(p:Pl)(ts:List Tt)(k:St->Bool):Bool:=
 match bK s.m p.root with
 |none=>false
 |some r=>match p.path,r.hole,r.cells[p.off]? with
  |st::q,none,some (.ow sub u l)=>match sm sub u l ts (st::q)with
   |some l'=>DR sub u l (st::q) (k ⟨s.nx+1,s.t,dv s.m p.root s.nx { r with cells:=r.cells.set p.off (.ow sub u l') }⟩)
   |none=>false
  |_,_,_=>false
def vo(s:St)(p:Pl):List Tt->(St->Bool)->Bool
 |[],k=>k s
 |.rf q::ts,k=>match bK s.m q.root with
  |some ⟨false,[.ow sub u l],none⟩=>match q.path,decide (q.root=p.root),ts.all λt=>!t.ment q.root with
   |[],false,true=>adI (s.drop q.root) p (.ow sub u l) λs'=>vo s' (p.add 1) ts k
   |_,_,_=>false
  |_=>false
 |.any::_,_=>false
 |.d .any::_,_=>false
 |t::ts,k=>adI s p t λs'=>vo s' (p.add 1) ts k
def OX(P:Program)(s:St)(t:TypeId)(x v:At)(k:St->Bool):Bool:=
 match x,lU v with
 |.one (.c (.pl p)),some ts=>match(ty P t).ok&&Nat.beq ts.length (ty P t).size&&jx s.m p (ts.length - 1)with
  |true=>match Y9 p ts with
   |true=>FY s p ts k
   |false=>vo s p ts k
  |false=>false
 |_,_=>false
def EF(P:Program)(E:Ut)(a:St)(t u0:TypeId)(x y:Operand)(d:Tmp)(k:St->Bool):Bool:=
 let s:=fW a (evA a y)
 match(ty P t).k with
 |.sl e=>match E.get e,zcells P e with
  |some u,some z=>match(ty P e).ok&&(ty P u0).k.isSS&&Nat.beq z.length (ty P e).size&&Nat.beq (nc u) (ty P e).size with
   |true=>match ad0 u (evA s y),kL s u (evA s x)with
    |some b,some (s1,sub,l)=>match sub.all Sh.isFr with
     |true=>dand ((l.length+b.length<=4611686018427387904/\(l.length+b.length)*(ty P e).bytes<=140737488355328)) (k (((s1.fresh (.gh d)).root (.gh d) ⟨false,[.ow sub u (l++b)],none⟩).put (some d) (.one (.c (.rf ⟨.gh d,0,[]⟩)))))
     |false=>false
    |_,_=>false
   |false=>false
  |_,_=>false
 |_=>false
def mB(P:Program)(E:Ut)(sub:List Sh)(s0:St)(t:TypeId)(len:Nat)(ps:Array (Nat×Operand))(d:Tmp)(k:St->Bool):Bool:=
 match(ty P t).k with
 |.sl e=>match E.get e,zcells P e with
  |some u,some _=>match(ty P e).ok&&Nat.beq (nc u) (ty P e).size&&Nat.ble (len*nc u) 16777216&&Nat.ble len 16777216&&Nat.beq sub.length (nc u)with
   |true=>
    let s1:=cR s0 (ps.toList.map λx=>evA s0 x.2)
    let s:=s1.fresh (.gh d)
    match mF (λi=>some (i*nc u,nc u)) (List.replicate (len*nc u) .any) (fB s ps),(fB s1 ps).all (λx=>x.2.noRf)with
    |some ts,true=>match ig u (chunk (nc u) len ts),nR (List.replicate len sub).flatten ts with
     |some l,true=>k ((s.root (.gh d) ⟨false,[.ow sub u l],none⟩).put (some d) (.one (.c (.rf ⟨.gh d,0,[]⟩))))
     |_,_=>false
    |_,_=>false
   |false=>false
  |_,_=>false
 |_=>false
def mC(P:Program)(E:Ut)(sub:List Sh)(s:St)(t:TypeId)(len:Nat)(ps:Array (Nat×Operand))(d:Tmp)(k:St->Bool):Bool:=
 match(ty P t).k with
 |.sl e=>match E.get e,zcells P e,fB s ps with
  |some u,some _,[(0,.one (.agg ts))]=>match Bo ts 0 with
   |some (j,q)=>match sub[j]?,sliceAt s.m q with
    |some (.ow b),some ⟨_,u',_⟩=>match kL s u' (.one (.c (.rf q)))with
     |some (s1,a,l')=>match(ty P e).ok&&Nat.beq (nc u) (ty P e).size&&Nat.ble (nc u) 16777216&&Nat.beq len 1&&Nat.beq sub.length (nc u)&&Nat.beq ts.length (nc u)&&(jV a b&&((ts.set j .nil).all Tt.noRf&&nR sub (ts.set j .nil))),ig u [ts.set j (.d (.li u' l'))]with
      |true,some l=>k (((s1.fresh (.gh d)).root (.gh d) ⟨false,[.ow sub u l],none⟩).put (some d) (.one (.c (.rf ⟨.gh d,0,[]⟩))))
      |_,_=>false
     |none=>false
    |_,_=>false
   |none=>false
  |_,_,_=>false
 |_=>false
def vT(P:Program)(E:Ut)(s:St)(t u0:TypeId)(x y:Operand)(d:Tmp)(k:St->Bool):Bool:=
 match(ty P t).k with
 |.sl e=>match E.get e,zcells P e with
  |some u,some z=>match(ty P e).ok&&(ty P u0).k.isSS&&Nat.beq z.length (ty P e).size&&Nat.beq (nc u) (ty P e).size with
   |true=>match kL s u (evA s y)with
    |some (s1,a,b)=>match kL s1 u (evA s1 x)with
     |some (s2,sub,l)=>match jV a sub with
      |true=>dand ((l.length+b.length<=4611686018427387904/\(l.length+b.length)*(ty P e).bytes<=140737488355328)) (k (((s2.fresh (.gh d)).root (.gh d) ⟨false,[.ow sub u (l++b)],none⟩).put (some d) (.one (.c (.rf ⟨.gh d,0,[]⟩)))))
      |false=>false
     |none=>false
    |none=>false
   |false=>false
  |_,_=>false
 |_=>false
def uN(P:Program)(E:Ut)(own:Bool)(s:St)(t:TypeId)(d:Tmp)(k:St->Bool):Bool:=match(ty P t).k with
 |.mp kt et=>match uOf P E kt,uOf P E et,own with
  |some ku,some vu,false=>k (((s.fresh (.gh d)).root (.gh d) ⟨false,[.mp ku vu []],none⟩).put (some d) (.one (.c (.rf ⟨.gh d,0,[]⟩))))
  |some ku,some (.sl u),true=>k (((s.fresh (.gh d)).root (.gh d) ⟨false,[.mo ku u [] none],none⟩).put (some d) (.one (.c (.rf ⟨.gh d,0,[]⟩))))
  |_,_,_=>false
 |_=>false
def Fy(P:Program)(m:List (Nm×Nat×Rt))(t:TypeId)(x key:At)(ok:Bool)(k:At->Bool):Bool:=match(ty P t).k with
 |.mp kt et=>match x,key with
  |.one (.c (.rf p)),.one (.c (.d c))=>match oN m p with
   |some ⟨ku,vu,l⟩=>match gk P kt ku&&zOK P et vu,fY ku c with
    |true,some kx=>k (OK vu ok (aw ku l kx))
    |_,_=>false
   |none=>false
  |.one (.c (.d (.mp ku vu z))),.one (.c (.d c))=>match gk P kt ku&&(zOK P et vu&&leaf vu),fY ku c with
   |true,some kx=>k (OK vu ok (aw ku (z.getD []) kx))
   |_,_=>false
  |_,_=>false
 |_=>false
def FA(P:Program)(s:St)(t:TypeId)(x key v:At)(k:St->Bool):Bool:=match(ty P t).k with
 |.mp kt _=>match x,key,v with
  |.one (.c (.rf p)),.one (.c (.d c)),.one (.c tv)=>match oN s.m p with
   |some ⟨ku,vu,l⟩=>match gk P kt ku&&leaf vu,fY ku c,lI vu [tv]with
    |true,some kx,some a=>k ⟨s.nx+1,s.t,dv s.m p.root s.nx ⟨false,[.mp ku vu (bP ku l kx a)],none⟩⟩
    |_,_,_=>false
   |none=>false
  |_,_,_=>false
 |_=>false
def Fx(P:Program)(s:St)(t:TypeId)(x key:At)(k:St->Bool):Bool:=match(ty P t).k with
 |.mp kt _=>match x,key with
  |.one (.c (.rf p)),.one (.c (.d c))=>match oN s.m p with
   |some ⟨ku,vu,l⟩=>match gk P kt ku,fY ku c with
    |true,some kx=>k ⟨s.nx+1,s.t,dv s.m p.root s.nx ⟨false,[.mp ku vu (rR ku l kx)],none⟩⟩
    |_,_=>false
   |none=>false
  |_,_=>false
 |_=>false
def sZ(e:EnB)(s:St)(t:TypeId)(n c:At)(same:Bool)(d:Tmp)(k:St->Bool):Bool:=match(ty e.e.P t).k,same with
 |.sl el,true=>match n with
  |.one (.c (.d (.i .i64 n)))=>match e.e.E.get el with
   |some u=>match zOK e.e.P el u&&Nat.beq (ty e.e.P el).size 1&&Q5 ((fI e.e.sh el).getD [.fr]) u with
    |true=>dand ((0<=n/\n<=4611686018427387904/\(ty e.e.P el).bytes*n.toNat<=281474976710656)) (k (((s.fresh (.gh d)).root (.gh d) ⟨false,[.ow ((fI e.e.sh el).getD [.fr]) u (List.replicate n.toNat (dflt u))],none⟩).put (some d) (.one (.c (.rf ⟨.gh d,0,[]⟩)))))
    |false=>false
   |none=>false
  |_=>false
 |_,_=>false
def qB(e:EnB)(o:Oper)(s:St)(k:At->Bool):Bool:=
 match o.op with
 |.move x=>k (evA s x)
 |.assign x=>k (evA s x)
 |.pick c x y=>YE (evA s c) (evA s x) (evA s y) k
 |.binOp op t x y _=>agA e.e.P op t (evA s x) (evA s y) k
 |.unOp op _ x=>unB op (evA s x) k
 |.load t x=>QH e.e.P s.m t (evA s x) k
 |.field t x i=>MZ e.e.P t (evA s x) i k
 |.fieldAddr t x i=>sQ e.e.P s.m t (evA s x) i k
 |.indexAddr t x i=>sT e.e.P s.m t (evA s x) (evA s i) k
 |.index t x i=>match(ty e.e.P t).k with
  |.str=>O0 (evA s x) (evA s i) k
  |_=>false
 |.extract x i=>zY (evA s x) i k
 |.convert b a x=>Xc e.e.P b a (evA s x) k
 |.slice t x lo hi none=>OR e.e.P t (evA s x) (lo.map (evA s)) (hi.map (evA s)) k
 |.nilCheck x=>wA (evA s x) k
 |.build t ps=>MC e.e.P t (fB s ps) k
 |.call c=>match c.callee,c.args.toList,c.argTypes.toList with
  |.builtin .len,[x],[t]=>match xy (ty e.e.P t).k (Nd (evA s x))with
   |true=>ahE o.guard s.m (evA s x) λn=>k (sct (.i .i64 (n:Int)))
   |false=>false
  |_,_,_=>false
 |_=>false
def lB(e:EnB)(o:Oper)(s:St)(k:St->Bool):Bool:=
 match o.op with
 |.store t x v=>let s0:=KO e.e.sh s t v;let s1:=Dv s0 (evA s0 x) (evA s0 v);OX e.e.P s1 t (evA s1 x) (evA s1 v) λs'=>k (s'.put o.dst .any)
 |.alloc t=>match o.dst with
  |some d=>Mp e.e.P s t d k
  |none=>false
 |.box _ x=>match o.dst with
  |some d=>agC s x d k
  |none=>false
 |.buildSlice t n ps=>match o.dst with
  |some d=>match adW e.e t with
   |none=>pK e.e.P e.e.E s t n ps d k
   |some sub=>match Y5 sub s ps with
    |true=>mC e.e.P e.e.E sub s t n ps d k
    |false=>mB e.e.P e.e.E sub s t n ps d k
  |none=>false
 |.call c=>match c.callee,c.args.toList,c.argTypes.toList with
  |.builtin .append,[x,y],[t,u]=>match o.dst with
   |some d=>match Yu s (evA s x)with
    |false=>EF e.e.P e.e.E s t u x y d k
    |true=>vT e.e.P e.e.E s t u x y d k
   |none=>false
  |.builtin .delete,[x,i],t::_=>Fx e.e.P s t (evA s x) (evA s i) λs'=>k (s'.put o.dst (.tup []))
  |.value (.func f),args,_=>match CBt.get e.cs f,Nat.blt f 1000000 with
   |some C,true=>C s args λs' av=>k (s'.put o.dst av)
   |_,_=>false
  |.value (.tmp t),args,_=>match Nat.blt t 100000,ab1 (gtA s.t t)with
   |true,some f=>match CBt.get e.cs f,Nat.blt f 1000000 with
    |some C,true=>C s args λs' av=>k (s'.put o.dst av)
    |_,_=>false
   |true,none=>match Dj (gtA s.t t)with
    |some f=>match CBt.get e.cs f with
     |some _=>false
     |none=>false
    |none=>false
   |_,_=>false
  |_,_,_=>false
 |.makeMap t r=>match o.dst,r with
  |some d,none=>uN e.e.P e.e.E (fI e.e.sh (4000000+t)).isSome s t d k
  |some d,some x=>match evA s x with
   |.one (.c (.d (.i _ _)))=>uN e.e.P e.e.E (fI e.e.sh (4000000+t)).isSome s t d k
   |_=>false
  |none,_=>false
 |.lookup t x i ok=>match acG s (evA s x),ok,o.dst with
  |true,false,some d=>false
  |_,_,_=>Fy e.e.P s.m t (evA s x) (evA s i) ok λv=>k (s.put o.dst v)
 |.mapUpdate t m i v=>match acG s (evA s m)with
  |true=>false
  |false=>let s1:=fW s (evA s v);FA e.e.P s1 t (evA s1 m) (evA s1 i) (evA s1 v) λs'=>k (s'.put o.dst .any)
 |.makeSlice t n c=>match o.dst with
  |some d=>sZ e s t (evA s n) (evA s c) (By n c) d k
  |none=>false
 |.makeFunc fn first caps=>match fn,first.toList with
  |.func f,[]=>false
  |_,_=>false
 |.range t x=>match o.dst with
  |some d=>false
  |none=>false
 |.next x false=>false
 |.entry x=>false
 |_=>false
def ac7(e:EnB)(o:Oper)(s:St)(k:St->Bool):Bool:=
 match isQ o with
 |true=>let s1:=Co s o;qB e o s1 λv=>k (s1.put o.dst v)
 |false=>lB e o s k
def opB(e:EnB)(o:Oper)(s:St)(k:St->Bool):Bool:=
 match Yw e.e o with
 |true=>false
 |false=>ac7 e o s k
def nG(e:En)(all:List Oper):List Oper->St->(St->Prop)->Prop
 |[],s,k=>k s
 |o::r,s,k=>match o.guard with
  |none=>opT e o s λs'=>nG e all r s' k
  |some (j,want)=>match(all[j]?).bind (·.dst)with
   |some d=>match gtA s.t d with
    |.one (.c (.d (.bo c)))=>match want with
     |true=>if c then opT e o (s.put (some d) (sct (.bo true))) λs'=>nG e all r s' k
      else nG e all r ((s.put (some d) (sct (.bo false))).put o.dst (.tup [])) k
     |false=>if c then nG e all r ((s.put (some d) (sct (.bo true))).put o.dst (.tup [])) k
      else opT e o (s.put (some d) (sct (.bo false))) λs'=>nG e all r s' k
    |.tup []=>nG e all r (s.put o.dst (.tup [])) k
    |_=>False
   |none=>False
def St.clr(s:St):St:=⟨s.nx,[],s.m⟩
abbrev En.cl(e:En):En:=⟨e.P,e.E,e.cs,e.sh,λv s=>e.pk v s.clr⟩
def XM:At->Bool
 |.one (.c (.el _ _))=>true
 |.one (.c (.ga _ _ _))=>true
 |_=>false
def l4(s:St)(o:Oper):Bool:=
 match o.op with
 |.load _ x=>XM (evA s x)
 |_=>true
def aiP(ops:Array Oper)(listed:Array Bool)(i:Nat):List Nat:=
 (List.range ops.size).foldl (λA j=>if unlisted listed j&&!(Nat.beq j i)&&(match ops[j]? with
  |some o=>o.after.any λe=>Region.binds .any e&&unlisted listed e.on&&(Nat.beq e.on i||A.contains e.on)
  |none=>false)then j::A else A) []
def xC(ops:Array Oper)(listed:Array Bool)(s:St):List Nat->Option (Nat×List Nat×Bool)
 |[]=>none
 |i::r=>match ops[i]? with
  |none=>xC ops listed s r
  |some o=>match isQ o with
   |false=>xC ops listed s r
   |true=>match l4 s o with
    |true=>match BG ops listed i [] true with
     |true=>some (i,[],true)
     |false=>xC ops listed s r
    |false=>match BG ops listed i (aiP ops listed i) false with
     |true=>some (i,aiP ops listed i,false)
     |false=>xC ops listed s r
def gT(ops:List Oper)(o:Oper)(s:St)(f:St->Prop)(no:St->Prop):Prop:=
 match o.guard with
 |none=>f s
 |some (j,want)=>match(ops[j]?).bind (·.dst)with
  |some d=>match gtA s.t d with
   |.one (.c (.d (.bo c)))=>match want with
    |true=>if c then f (s.put (some d) (sct (.bo true)))else no ((s.put (some d) (sct (.bo false))).put o.dst (.tup []))
    |false=>if c then no ((s.put (some d) (sct (.bo true))).put o.dst (.tup []))else f (s.put (some d) (sct (.bo false)))
   |.tup []=>no (s.put o.dst (.tup []))
   |_=>False
  |none=>False
def RQ(f:Nat->Prop):List Nat->Prop
 |[]=>True
 |[i]=>f i
 |i::r=>f i/\RQ f r
def gS(e:En)(ops:Array Oper):Nat->Array Bool->St->(St->Prop)->Prop
 |0,listed,s,k=>match Region.ready .any ops listed with
  |[]=>k s
  |_=>False
 |n+1,listed,s,k=>match Region.ready .any ops listed with
  |[]=>k s
  |b::a=>match xC ops listed s (b::a)with
   |some (i,_,fz)=>match ops[i]? with
    |some o=>match o.guard with
     |none=>let s1:=Co s o;qT e o s1 λv=>gS e ops n (listed.setIfInBounds i true) (s1.put o.dst v) k
     |some _=>gT ops.toList o s (λs=>match !fz||l4 s o with
      |true=>qT e o s λv=>gS e ops n (listed.setIfInBounds i true) (s.put o.dst v) k
      |false=>False) (λs=>gS e ops n (listed.setIfInBounds i true) s k)
    |none=>False
   |none=>RQ (λi=>match ops[i]? with
    |some o=>gT ops.toList o s (λs=>A0 e.cl o s λs'=>gS e ops n (listed.setIfInBounds i true) s' k) (λs=>gS e ops n (listed.setIfInBounds i true) s k)
    |none=>False) (b::a)
inductive Sp where
 |sl (k:Nat) (u:U)
 |ow (k:Nat) (sh:List Sh) (u:U)
 |rt (n:Nm) (sh:List Sh) (u:U)
 |mp (n:Nm) (ku vu:U)
 |mo (n:Nm) (ku u:U)
 |it (n:Nm) (ku vu:U)
 |gw (n:Nm) (sh:List Sh) (u:U)
abbrev Sp.ty:Sp->Type
 |.sl _ u=>El u
 |.ow _ _ u=>List (El u)
 |.rt _ _ u=>El u
 |.mp _ ku vu=>List (El ku×El vu)
 |.mo _ ku u=>List (El ku×List (El u))
 |.it _ ku vu=>List (El ku×El vu)
 |.gw _ _ u=>List (El u)
abbrev FSp:List Sp->Type
 |[]=>Unit
 |[p]=>p.ty
 |p::q::r=>p.ty×FSp (q::r)
def FSp.cons:(p:Sp)->(r:List Sp)->p.ty->FSp r->FSp (p::r)
 |_,[],x,_=>x
 |_,_::_,x,y=>(x,y)
def FSp.hd:(p:Sp)->(r:List Sp)->FSp (p::r)->p.ty
 |_,[],x=>x
 |_,_::_,x=>x.1
def FSp.tl:(p:Sp)->(r:List Sp)->FSp (p::r)->FSp r
 |_,[],_=>()
 |_,_::_,x=>x.2
theorem sD(p:Sp)(r:List Sp)(x:p.ty)(y:FSp r):FSp.hd p r (FSp.cons p r x y)=x:=by cases r<;>rfl
theorem sE(p:Sp)(r:List Sp)(x:p.ty)(y:FSp r):FSp.tl p r (FSp.cons p r x y)=y:=by cases r<;>rfl
def I7(ku vu b a:U)(l:List (El ku×El vu)):Option (List (El b×El a)):=if h:ku=b/\vu=a then some (h.1 ▸ h.2 ▸ l)else none
structure Sg where
 ks:List Nat
 kr:List Nm
 ps:List (Nat×Nm×Nat)
 sp:List Sp
def BH:(u:U)->El u->At
 |.st n,x=>.one (.agg ((flat (.st n) x).map Tt.d))
 |u,x=>sct (ao u x)
def Ct:(u:U)->El u->A1
 |.st n,x=>.agg ((flat (.st n) x).map Tt.d)
 |u,x=>.c (.d (ao u x))
def kh(k:Nat):Nm:=.gh (900000+k)
def bf:List Sh->List C->List Tt
 |.ow s::r,.li u l::cs=>.ow s u l::bf r cs
 |_::r,c::cs=>.d c::bf r cs
 |_,_=>[]
def dD:List Sh->List C->List Tt
 |.ow []::r,_::cs=>.nil::dD r cs
 |.ow (a::b)::r,.li u l::cs=>.ow (a::b) u l::dD r cs
 |_::r,c::cs=>.d c::dD r cs
 |_,_=>[]
def unmark:List Sh->List Sh
 |[]=>[]
 |.ow []::r=>.fr::unmark r
 |s::r=>s::unmark r
def cg:List (Nat×Nat×At)->Nat->Option (Nat×At)
 |[],_=>none
 |(k,j,v)::t,i=>match Nat.beq k i with
  |true=>some (j,v)
  |false=>cg t i
def cZ:List (Nm×Nat×Rt)->Nm->Option (Nat×Rt)
 |[],_=>none
 |(k,j,v)::t,i=>if k=i then some (j,v)else cZ t i
def mH(nx:Nat):(sp:List Sp)->FSp sp->List (Nat×Nat×At)
 |[],_=>[]
 |.sl k u::r,x=>(k,nx,BH u (FSp.hd (.sl k u) r x))::mH nx r (FSp.tl (.sl k u) r x)
 |.ow k sh u::r,x=>(k,nx,.one (.c (.rf ⟨kh k,0,[]⟩)))::mH nx r (FSp.tl (.ow k sh u) r x)
 |.rt n sh u::r,x=>mH nx r (FSp.tl (.rt n sh u) r x)
 |.mp n ku vu::r,x=>mH nx r (FSp.tl (.mp n ku vu) r x)
 |.mo n ku u::r,x=>mH nx r (FSp.tl (.mo n ku u) r x)
 |.it n ku vu::r,x=>mH nx r (FSp.tl (.it n ku vu) r x)
 |.gw n sh u::r,x=>mH nx r (FSp.tl (.gw n sh u) r x)
def fi(nx:Nat):(sp:List Sp)->FSp sp->List (Nm×Nat×Rt)
 |[],_=>[]
 |.sl k u::r,x=>fi nx r (FSp.tl (.sl k u) r x)
 |.ow k sh u::r,x=>(kh k,nx,⟨false,[.ow sh u (FSp.hd (.ow k sh u) r x)],none⟩)::fi nx r (FSp.tl (.ow k sh u) r x)
 |.rt n sh u::r,x=>(n,nx,⟨true,dD sh (flat u (FSp.hd (.rt n sh u) r x)),none⟩)::fi nx r (FSp.tl (.rt n sh u) r x)
 |.mp n ku vu::r,x=>(n,nx,⟨false,[.mp ku vu (FSp.hd (.mp n ku vu) r x)],none⟩)::fi nx r (FSp.tl (.mp n ku vu) r x)
 |.mo n ku u::r,x=>(n,nx,⟨false,[.mo ku u (FSp.hd (.mo n ku u) r x) none],none⟩)::fi nx r (FSp.tl (.mo n ku u) r x)
 |.it n ku vu::r,x=>(n,nx,⟨false,[.it ku vu none (FSp.hd (.it n ku vu) r x)],none⟩)::fi nx r (FSp.tl (.it n ku vu) r x)
 |.gw n sh u::r,x=>(n,nx,⟨false,[.ow sh u (FSp.hd (.gw n sh u) r x)],none⟩)::fi nx r (FSp.tl (.gw n sh u) r x)
def DE(t:List (Nat×Nat×At)):List Nat->List (Nat×Nat×At)
 |[]=>[]
 |k::r=>match cg t k with
  |some (j,v)=>(k,j,v)::DE t r
  |none=>DE t r
def qd(m:List (Nm×Nat×Rt)):List Nm->List (Nm×Nat×Rt)
 |[]=>[]
 |k::r=>match cZ m k with
  |some (j,v)=>(k,j,v)::qd m r
  |none=>qd m r
def Sg.st(σ:Sg)(s:St)(x:FSp σ.sp):St:=⟨s.nx+1,DE s.t σ.ks++(σ.ps.map (λp=>(p.1,s.nx,.one (.c (.pl ⟨p.2.1,p.2.2,[]⟩))))++mH s.nx σ.sp x),qd s.m σ.kr++fi s.nx σ.sp x⟩
def DT(s:St)(k:Nat)(sh:List Sh)(u:U):St:=
 match gtA s.t k with
 |.one (.c .nil)=>
  let s1:=s.fresh (kh k)
  ⟨s1.nx+1,(k,s1.nx,.one (.c (.rf ⟨kh k,0,[]⟩)))::s1.t,(kh k,s1.nx,⟨false,[.ow sh u []],none⟩)::s1.m⟩
 |.one (.c (.rf ⟨n,0,[]⟩))=>match decide (n=kh k),bK s.m n with
  |false,some ⟨false,[.ow a u' l],none⟩=>
   let s1:=(s.drop n).fresh (kh k)
   ⟨s1.nx+1,(k,s1.nx,.one (.c (.rf ⟨kh k,0,[]⟩)))::s1.t,(kh k,s1.nx,⟨false,[.ow a u' l],none⟩)::s1.m⟩
  |_,_=>s
 |_=>s
def br(s:St)(n:Nm)(us:List U):List Sh->Nat->St
 |[],_=>s
 |.ow sh::r,off=>match bK s.m n with
  |some ⟨true,cells,none⟩=>match cells[off]?,us[off]? with
   |some .nil,some (.sl u)=>br ⟨s.nx+1,s.t,dv s.m n s.nx ⟨true,cells.set off (.ow sh u []),none⟩⟩ n us r (off+1)
   |_,_=>br s n us r (off+1)
  |_=>s
 |.fr::r,off=>match bK s.m n with
  |some ⟨true,cells,none⟩=>match cells[off]? with
   |some (.ow _ _ _)=>br (uy s ⟨n,off,[]⟩) n us r (off+1)
   |_=>br s n us r (off+1)
  |_=>s
def iO:U->List U
 |.st n=>(sd n).fs
 |u=>[u]
def prep:List Sp->St->St
 |[],s=>s
 |.sl k _::r,s=>prep r (fW s (gtA s.t k))
 |.ow k sh u::r,s=>prep r (DT s k sh u)
 |.rt n sh u::r,s=>prep r (br s n (iO u) (unmark sh) 0)
 |.mp _ _ _::r,s=>prep r s
 |.mo _ _ _::r,s=>prep r s
 |.it _ _ _::r,s=>prep r s
 |.gw _ _ _::r,s=>prep r s
mutual
def ajC:Sh->Sh->Bool
 |.fr,.fr=>true
 |.ow a,.ow b=>nQ a b
 |_,_=>false
def nQ:List Sh->List Sh->Bool
 |[],[]=>true
 |a::r,b::q=>ajC a b&&nQ r q
 |_,_=>false
end
def W5(u:U):A1->Option (El u)
 |.c t=>match leaf u with
  |true=>lI u [t]
  |false=>none
 |.agg ts=>match leaf u with
  |true=>none
  |false=>lI u ts
def pQ(u:U):At->Option (El u)
 |.one x=>W5 u x
 |_=>none
def gZ:List Sh->List Tt->Option (List Tt)
 |[],[]=>some []
 |.ow s::r,.ow s' u l::cs=>match nQ s s',gZ r cs with
  |true,some x=>some (.d (.li u l)::x)
  |_,_=>none
 |.fr::r,.d c::cs=>match gZ r cs with
  |some x=>some (.d c::x)
  |none=>none
 |.fr::r,.nil::cs=>match gZ r cs with
  |some x=>some (.nil::x)
  |none=>none
 |_,_=>none
def iF:List Sh->List Tt->Option (List Tt)
 |[],[]=>some []
 |.ow []::r,.nil::cs=>match iF r cs with
  |some x=>some (.nil::x)
  |none=>none
 |.ow (a::b)::r,.ow s' u l::cs=>match nQ (a::b) s',iF r cs with
  |true,some x=>some (.d (.li u l)::x)
  |_,_=>none
 |.fr::r,.d c::cs=>match iF r cs with
  |some x=>some (.d c::x)
  |none=>none
 |.fr::r,.nil::cs=>match iF r cs with
  |some x=>some (.nil::x)
  |none=>none
 |_,_=>none
def LJ(s:St):(p:Sp)->Option p.ty
 |.sl k u=>pQ u (gtA s.t k)
 |.ow k sh u=>match gtA s.t k,bK s.m (kh k)with
  |.one (.c (.rf ⟨n,0,[]⟩)),some ⟨false,[.ow b u' l],none⟩=>match decide (n=kh k),nQ sh b with
   |true,true=>r7 u' u l
   |_,_=>none
  |_,_=>none
 |.rt n sh u=>match bK s.m n with
  |some ⟨true,cells,none⟩=>match iF sh cells with
   |some ts=>lI u ts
   |none=>none
  |_=>none
 |.mp n ku vu=>match bK s.m n with
  |some ⟨false,[.mp a d l],none⟩=>I7 a d ku vu l
  |_=>none
 |.mo n ku u=>match bK s.m n with
  |some ⟨false,[.mo a u' l none],none⟩=>I7 a (.sl u') ku (.sl u) l
  |_=>none
 |.it n ku vu=>match bK s.m n with
  |some ⟨false,[.it a d _ l],none⟩=>I7 a d ku vu l
  |_=>none
 |.gw n sh u=>match bK s.m n with
  |some ⟨false,[.ow b u' l],none⟩=>match nQ sh b with
   |true=>r7 u' u l
   |false=>none
  |_=>none
def unS(s:St):(sp:List Sp)->Option (FSp sp)
 |[]=>some ()
 |p::r=>match LJ s p,unS s r with
  |some x,some y=>some (FSp.cons p r x y)
  |_,_=>none
def Sp.rn:Sp->List Nm
 |.sl _ _=>[]
 |.ow k _ _=>[kh k]
 |.rt n _ _=>[n]
 |.mp n _ _=>[n]
 |.mo n _ _=>[n]
 |.it n _ _=>[n]
 |.gw n _ _=>[n]
def Sg.rn(σ:Sg):List Nm:=σ.kr++σ.sp.flatMap Sp.rn
def Tt.inR(rs:List Nm):Tt->Bool
 |.pl p=>rs.contains p.root
 |.rf p=>rs.contains p.root
 |_=>true
def A1.inR(rs:List Nm):A1->Bool
 |.c t=>t.inR rs
 |.agg ts=>ts.all (·.inR rs)
def At.inR(rs:List Nm):At->Bool
 |.one x=>x.inR rs
 |.tup xs=>xs.all (·.inR rs)
 |.any=>true
def FK:List Nm->Bool
 |[]=>true
 |n::r=>!r.contains n&&FK r
def abY(s0 s:St)(rs:List Nm):List Nat->Bool
 |[]=>true
 |k::r=>(match cg s0.t k,cg s.t k with
  |some (j,_),some (j',v)=>Nat.beq j j'&&Nat.blt j s0.nx&&v.inR rs
  |_,_=>false)&&abY s0 s rs r
def S8(s0 s:St)(rs:List Nm):List Nm->Bool
 |[]=>true
 |k::r=>(match cZ s0.m k,cZ s.m k with
  |some (j,_),some (j',v)=>Nat.beq j j'&&Nat.blt j s0.nx&&v.cells.all (·.inR rs)
  |_,_=>false)&&S8 s0 s rs r
def abX(s:St)(rs:List Nm):List (Nat×Nm×Nat)->Bool
 |[]=>true
 |(k,n,o)::r=>(match gtA s.t k with
  |.one (.c (.pl ⟨n',o',[]⟩))=>decide (n'=n)&&Nat.beq o' o&&rs.contains n
  |_=>false)&&abX s rs r
def Sg.fit(σ:Sg)(s0 s:St):Bool:=FK σ.rn&&abX s σ.rn σ.ps&&abY s0 s σ.rn σ.ks&&S8 s0 s σ.rn σ.kr
def jn(σ:Sg)(s0:St)(J:FSp σ.sp->Prop)(s:St):Prop:=
 let s1:=prep σ.sp s
 match σ.fit s0 s1 with
 |true=>match unS s1 σ.sp with
  |some x=>J x
  |none=>False
 |false=>False
variable{α:Type}
def aa(A:(α->Prop)->Prop)(B:α->Prop):Prop:=∀J:α->Prop,(∀x,B x->J x)->A J
def pf(body:(α->Prop)->α->Prop):Nat->α->Prop
 |0,_=>False
 |n+1,x=>body (pf body n) x
def ab(body:(α->Prop)->α->Prop)(x:α):Prop:=∃n,pf body n x
inductive An where
 |l
 |s (a b:An)
 |j (σ:Sg) (a b:An)
 |c (a b:An)
 |b (a:An)
 |lp (σ:Sg) (a:An)
 |a (t:Nat) (n:Nm) (x y:An)
 |un (n:Nat) (a:An)
def An.pick:An->St->An
 |.a t n x y,st0=>match gtA st0.t t with
  |.one (.c (.pl p))=>match decide (p.root=n)with
   |true=>x
   |false=>y
  |_=>y
 |an,_=>an
structure Kt where
 n:St->Prop
 x:Nat->St->Prop
 r:St->Prop
def uL(body:(St->Prop)->St->Prop):Nat->St->Prop
 |0,_=>False
 |n+1,s=>body (uL body n) s
def wpT(e:En):An->Code->St->Kt->Prop
 |_,.skip,s,K=>K.n s
 |_,.region _ ops false,s,K=>nG e ops.toList ops.toList s K.n
 |_,.region _ ops true,s,K=>gS e ops ops.size (Array.replicate ops.size false) s K.n
 |.s a b,.seq x y,s,K=>wpT e a x s ⟨λs'=>wpT e (b.pick s') y s' K,K.x,K.r⟩
 |.j σ a b,.seq x y,s,K=>aa (λJ=>wpT e a x s ⟨jn σ s J,K.x,K.r⟩) (λv=>wpT e b y (σ.st s v) K)
 |.c a b,.cond (.tmp t) x y,s,K=>match gtA s.t t with
  |.one (.c (.d (.bo c)))=>if c then wpT e a x s K else wpT e b y s K
  |_=>False
 |.b a,.block id x,s,K=>wpT e a x s ⟨K.n,λi s'=>match Nat.beq i id with
  |true=>K.n s'
  |false=>K.x i s',K.r⟩
 |.lp σ a,.loop x,s,K=>
  let s1:=prep σ.sp s
  match σ.fit s1 s1 with
  |true=>match unS s1 σ.sp with
   |some f=>ab (λR v=>wpT e a x (σ.st s1 v) ⟨jn σ s1 R,K.x,K.r⟩) f
   |none=>False
  |false=>False
 |.un n a,.loop x,s,K=>uL (λR s'=>wpT e a x s' ⟨R,K.x,K.r⟩) n s
 |_,.exit id,s,K=>K.x id s
 |_,.ret,s,K=>K.r s
 |_,_,_,_=>False
def dp:(us:List U)->Fl us->At
 |[],_=>.tup []
 |[u],x=>BH u x
 |u::v::r,x=>.tup (resL (u::v::r) x)
where resL:(us:List U)->Fl us->List A1
 |[],_=>[]
 |u::r,x=>Ct u (Fl.hd u r x)::resL r (Fl.tl u r x)
def cG:(us:List U)->List At->Option (Fl us)
 |[],[]=>some ()
 |u::r,v::vs=>match pQ u v,cG r vs with
  |some x,some y=>some (Fl.cons u r x y)
  |_,_=>none
 |_,_=>none
def Af(s:St)(n:Nm):Nat->St
 |0=>s
 |i+1=>uy (Af s n i) ⟨n,i,[]⟩
def EZ(s:St):ResultVar->St
 |.tmp t=>fW s (gtA s.t t)
 |.cell a _=>match gtA s.t a with
  |.one (.c (.pl p))=>match bK s.m p.root with
   |some r=>Af s p.root r.cells.length
   |none=>s
  |_=>s
def kX:St->List ResultVar->St
 |s,[]=>s
 |s,r::rs=>kX (EZ s r) rs
def mm(P:Program)(s:St)(k:At->Prop):ResultVar->Prop
 |.tmp t=>k (gtA s.t t)
 |.cell a t=>match gtA s.t a with
  |.one (.c (.pl p))=>match bK s.m p.root with
   |some r=>match r.hole.isNone&&r.cells.all (λt=>!t.owned)with
    |true=>lc P s.m t (gtA s.t a) k
    |false=>False
   |none=>False
  |_=>False
def dC(P:Program)(s:St):List ResultVar->(List At->Prop)->Prop
 |[],k=>k []
 |r::rs,k=>mm P s (λv=>dC P s rs λvs=>k (v::vs)) r
def pq(P:Program)(rs:List ResultVar)(us:List U)(KK:Fl us->Prop)(s:St):Prop:=
 dC P (kX s rs) rs λvs=>match cG us vs with
  |some x=>KK x
  |none=>False
def phT(ps rs:List U)(a:Fl ps->(Fl rs->Prop)->(Value->Prop)->Prop):CKt:=λpk s ops k=>
 let s1:=cR s (ops.map (evA s))
 match cG ps (ops.map (evA s1))with
 |some x=>a x (λy=>k s1 (dp rs y)) (λv=>pk v s1)
 |none=>False
abbrev lk(ps rs:List U)(pre:Fl ps->Prop)(f:Fl ps->Fl rs):CKt:=phT ps rs λx K _=>pre x/\K (f x)
abbrev tc(ps rs:List U)(f:Fl ps->Fl rs):CKt:=phT ps rs λx K _=>K (f x)
def lent(s:St)(v:At):At:=match v with
 |.one (.c (.rf p))=>match bK s.m p.root with
  |some r=>match r.hole,sliceAt s.m p with
   |none,some ⟨_,u,l⟩=>sct (.li u l)
   |_,_=>v
  |none=>v
 |v=>v
def scU:U->Bool
 |.i _=>true
 |.b8=>true
 |.bo=>true
 |.s=>true
 |_=>false
def AC(ps rs:List U)(Φ:Fl ps->(Fl rs->Prop)->Prop):CKt:=λ_ s ops k=>
 match cG ps (ops.map λx=>lent s (evA s x)),rs.all scU with
 |some x,true=>∃KK,Φ x KK/\∀y,KK y->k s (dp rs y)
 |_,_=>False
def Ya(ps rs:List U)(pre:Fl ps->Prop)(f:Fl ps->Fl rs):CKt:=λ_ s ops k=>
 match cG ps (ops.map λx=>lent s (evA s x)),rs.all scU with
 |some x,true=>pre x/\k s (dp rs (f x))
 |_,_=>False
def jm(r:Nm)(rf:Bool)(p:Pl):Bool:=decide (p.root=r)&&(rf||!p.path.isEmpty)
abbrev noP:PKt:=λ_ _=>False
def swP(w:a8)(K:Nat->Prop)(df:Nat):List (a8×Nat)->Prop
 |[]=>K df
 |(w0,f)::r=>if decide (w=w0)=true then K f else swP w K df r
def swT(a:List (a8×Nat))(df:Nat):CKt:=λ_ s ops k=>
 let s1:=cR s (ops.map (evA s))
 match cG [.s] (ops.map (evA s1))with
 |some w=>swP w (λf=>k s1 (sct (.v (.func (.func f) #[] #[])))) df a
 |none=>False
def exP(r:Except Value α×β)(K:α->β->Prop)(b:Value->β->Prop):Prop:=match r.1 with
 |.ok a=>K a r.2
 |.error v=>b v r.2
def QY(sh:List Sh)(u:U)(ps rs:List U)(pre:El u->Fl ps->Prop)(f:El u->Fl ps->Except Value (Fl rs)×El u):CKt:=λpk s ops k=>
 match ops with
 |[]=>False
 |o::os=>
  let s1:=cR s (os.map (evA s))
  match evA s1 o with
  |.one (.c (.pl ⟨r,0,[]⟩))=>
   let s2:=br s1 r (iO u) sh 0
   match evA s2 o with
   |.one (.c (.pl ⟨a,0,[]⟩))=>match decide (a=r),r.tyd,bK s2.m r with
    |true,none,some ⟨true,cells,none⟩=>match gZ sh cells with
     |some ts=>match lI u ts,cG ps (os.map (evA s2))with
      |some x,some y=>pre x y/\exP (f x y) (λz x'=>k ⟨s2.nx+1,lb (jm r) s2.nx s2.t,(r,s2.nx,⟨true,bf sh (flat u x'),none⟩)::cc (jm r) s2.nx (e8 s2.m r)⟩ (dp rs z))
        (λv x'=>pk v ⟨s2.nx+1,lb (jm r) s2.nx s2.t,(r,s2.nx,⟨true,bf sh (flat u x'),none⟩)::cc (jm r) s2.nx (e8 s2.m r)⟩)
      |_,_=>False
     |none=>False
    |_,_,_=>False
   |_=>False
  |_=>False
def shT:List (Nat×Nat×At)->List (Nat×Nat×At)
 |[]=>[]
 |(k,j,v)::r=>(k+100000,j,v)::shT r
def vD:List (Nat×Nat×At)->List (Nat×Nat×At)
 |[]=>[]
 |(k,j,v)::r=>match Nat.ble 100000 k with
  |true=>(k - 100000,j,v)::vD r
  |false=>vD r
def EI(nx:Nat):Nat->List At->List (Nat×Nat×At)
 |_,[]=>[]
 |i,v::r=>(i,nx,v)::EI nx (i+1) r
def Yd(P:Program)(m:List (Nm×Nat×Rt))(t:TypeId)(x:At):Option A1:=
 match(ty P t).ok,x with
 |true,.one (.c (.pl p))=>match(ty P t).agg with
  |true=>match atT m p (ty P t).size with
   |some ts=>some (.agg (Bl p ts))
   |none=>none
  |false=>match atT m p 1 with
   |some [t']=>some (.c (Lb p t'))
   |_=>none
 |_,_=>none
def Le(P:Program)(s:St):List ResultVar->Option (List A1)
 |[]=>some []
 |.tmp t::r=>match gtA s.t t,Le P s r,Nat.blt t 100000 with
  |.one x,some xs,true=>some (x::xs)
  |_,_,_=>none
 |.cell a t::r=>match Yd P s.m t (gtA s.t a),Le P s r,Nat.blt a 100000 with
  |some x,some xs,true=>some (x::xs)
  |_,_,_=>none
def ajH:List A1->At
 |[x]=>.one x
 |xs=>.tup xs
def rV(P:Program)(res:List ResultVar)(k:St->At->Prop)(s:St):Prop:=
 match Le P s res with
 |some xs=>k ⟨s.nx,vD s.t,s.m⟩ (ajH xs)
 |none=>False
def M9(e:En)(fn:Func)(an:An):CKt:=λpk s ops k=>
 match Nat.ble ops.length fn.ntmps with
 |true=>wpT ⟨e.P,e.E,e.cs,e.sh,λv s=>pk v ⟨s.nx,vD s.t,s.m⟩⟩ an (fn.body.getD .skip) ⟨s.nx+1,EI s.nx 0 (ops.map (evA s))++shT s.t,s.m⟩ ⟨rV e.P fn.results.toList k,λ_ _=>False,rV e.P fn.results.toList k⟩
 |false=>False
def adT(t:Nat)(C D:CKt):CKt:=λpk s ops k=>match ops with
 |.tmp i::_=>match Nat.beq i t with
  |true=>C pk s ops k
  |false=>D pk s ops k
 |_=>D pk s ops k
def wB(s:St)(k:Nat)(sh:List Sh)(u:U):St:=
 match gtA s.t k with
 |.one (.c .nil)=>DT s k sh u
 |_=>s
def adB(u:U)(ps:List U)(pre:List (El u)->Fl ps->Prop)(f:List (El u)->Fl ps->List (El u)):CKt:=λ_ s ops k=>
 match ops with
 |.tmp t::os=>
  let s0:=wB s t (List.replicate (nc u) .fr) u
  let s1:=cR s0 (os.map (evA s0))
  match evA s1 (.tmp t)with
  |.one (.c (.rf ⟨r,0,[]⟩))=>match bK s1.m r with
   |some ⟨false,[.ow sh u' l],none⟩=>match nQ sh (List.replicate (nc u) .fr),r7 u' u l,cG ps (os.map (evA s1))with
    |true,some l',some x=>pre l' x/\k ⟨s1.nx+1,lb (bm r) s1.nx s1.t,(r,s1.nx,⟨false,[.ow sh u (f l' x)],none⟩)::cc (bm r) s1.nx (e8 s1.m r)⟩ (.one (.c (.rf ⟨r,0,[]⟩)))
    |_,_,_=>False
   |_=>False
  |_=>False
 |_=>False
def BW:Nat->(us:List U)->Fl us->List (Nat×Nat×At)
 |_,[],_=>[]
 |i,u::r,x=>(i,0,BH u (Fl.hd u r x))::BW (i+1) r (Fl.tl u r x)
def EW(us:List U)(x:Fl us):St:=⟨1,BW 0 us x,[]⟩
def uh(e:En)(fn:Func)(an:An)(ps rs:List U)(x:Fl ps)(KK:Fl rs->Prop):Prop:=wpT ⟨e.P,e.E,e.cs,e.sh,λ_ _=>False⟩ an (fn.body.getD .skip) (EW ps x) ⟨pq e.P fn.results.toList rs KK,λ_ _=>False,pq e.P fn.results.toList rs KK⟩
def zA(e:En)(fn:Func)(an:An)(ps rs:List U)(x:Fl ps)(KK:Fl rs->Prop)(a:Value->Prop):Prop:=wpT ⟨e.P,e.E,e.cs,e.sh,λv _=>a v⟩ an (fn.body.getD .skip) (EW ps x) ⟨pq e.P fn.results.toList rs KK,λ_ _=>False,pq e.P fn.results.toList rs KK⟩
def vi(P:Program)(res:List ResultVar)(sh:List Sh)(u:U)(rs:List U)(KK:Fl rs×El u->Prop)(s:St):Prop:=
 let s1:=br (kX s res) (.out 0) (iO u) sh 0
 dC P s1 res λvs=>match cG rs vs,bK s1.m (.out 0)with
  |some x,some ⟨true,cells,none⟩=>match gZ sh cells with
   |some ts=>match lI u ts with
    |some y=>KK (x,y)
    |none=>False
   |none=>False
  |_,_=>False
def Q3(sh:List Sh)(u:U)(a:Value->El u->Prop)(v:Value)(s:St):Prop:=
 let s1:=br s (.out 0) (iO u) sh 0
 match bK s1.m (.out 0)with
 |some ⟨true,cells,none⟩=>match gZ sh cells with
  |some ts=>match lI u ts with
   |some y=>a v y
   |none=>False
  |none=>False
 |_=>False
def yk(e:En)(fn:Func)(an:An)(sh:List Sh)(u:U)(ps rs:List U)(x:El u)(y:Fl ps)(KK:Fl rs×El u->Prop)(a:Value->El u->Prop):Prop:=wpT ⟨e.P,e.E,e.cs,e.sh,Q3 sh u a⟩ an (fn.body.getD .skip) ⟨1,(0,0,.one (.c (.pl ⟨.out 0,0,[]⟩)))::BW 1 ps y,[(.out 0,0,⟨true,bf sh (flat u x),none⟩)]⟩ ⟨vi e.P fn.results.toList sh u rs KK,λ_ _=>False,vi e.P fn.results.toList sh u rs KK⟩
def Bc(e:En)(fn:Func)(an:An)(sh:List Sh)(u:U)(ps rs:List U):CKt:=λpk s ops k=>
 match ops with
 |[]=>False
 |o::os=>
  let s1:=cR s (os.map (evA s))
  match evA s1 o with
  |.one (.c (.pl ⟨r,0,[]⟩))=>
   let s2:=br s1 r (iO u) sh 0
   match evA s2 o with
   |.one (.c (.pl ⟨b,0,[]⟩))=>match decide (b=r),r.tyd,bK s2.m r with
    |true,none,some ⟨true,cells,none⟩=>match gZ sh cells with
     |some ts=>match lI u ts,cG ps (os.map (evA s2))with
      |some x,some y=>∃(KK:Fl rs×El u->Prop)(a:Value->El u->Prop),yk e fn an sh u ps rs x y KK a /\
        (∀z x',KK (z,x')->k ⟨s2.nx+1,lb (jm r) s2.nx s2.t,(r,s2.nx,⟨true,bf sh (flat u x'),none⟩)::cc (jm r) s2.nx (e8 s2.m r)⟩ (dp rs z)) /\
        ∀v x',a v x'->pk v ⟨s2.nx+1,lb (jm r) s2.nx s2.t,(r,s2.nx,⟨true,bf sh (flat u x'),none⟩)::cc (jm r) s2.nx (e8 s2.m r)⟩
      |_,_=>False
     |none=>False
    |_,_,_=>False
   |_=>False
  |_=>False
def Q2(res:List ResultVar)(u:U)(KK:List (El u)->Prop)(s:St):Prop:=
 match res with
 |[.tmp t]=>match gtA s.t t with
  |.one (.c (.rf ⟨n,0,[]⟩))=>match bK s.m n with
   |some ⟨false,[.ow sh u' l],none⟩=>match nQ sh (List.replicate (nc u) .fr),r7 u' u l with
    |true,some l'=>KK l'
    |_,_=>False
   |_=>False
  |_=>False
 |_=>False
def Ws(e:En)(fn:Func)(an:An)(u:U)(ps:List U)(x:List (El u))(y:Fl ps)(KK:List (El u)->Prop):Prop:=wpT ⟨e.P,e.E,e.cs,e.sh,λ_ _=>False⟩ an (fn.body.getD .skip) ⟨1,(0,0,.one (.c (.rf ⟨.out 0,0,[]⟩)))::BW 1 ps y,[(.out 0,0,⟨false,[.ow (List.replicate (nc u) .fr) u x],none⟩)]⟩ ⟨Q2 fn.results.toList u KK,λ_ _=>False,Q2 fn.results.toList u KK⟩
def Cn(e:EnB)(all:List Oper):List Oper->St->(St->Bool)->Bool
 |[],s,k=>k s
 |o::r,s,k=>match o.guard with
  |none=>opB e o s λs'=>Cn e all r s' k
  |some (j,want)=>match(all[j]?).bind (·.dst)with
   |some d=>match gtA s.t d with
    |.one (.c (.d (.bo c)))=>match want with
     |true=>if c then opB e o (s.put (some d) (sct (.bo true))) λs'=>Cn e all r s' k
      else Cn e all r ((s.put (some d) (sct (.bo false))).put o.dst (.tup [])) k
     |false=>if c then Cn e all r ((s.put (some d) (sct (.bo true))).put o.dst (.tup [])) k
      else opB e o (s.put (some d) (sct (.bo false))) λs'=>Cn e all r s' k
    |.tup []=>Cn e all r (s.put o.dst (.tup [])) k
    |_=>false
   |none=>false
def gB(ops:List Oper)(o:Oper)(s:St)(f:St->Bool)(no:St->Bool):Bool:=
 match o.guard with
 |none=>f s
 |some (j,want)=>match(ops[j]?).bind (·.dst)with
  |some d=>match gtA s.t d with
   |.one (.c (.d (.bo c)))=>match want with
    |true=>if c then f (s.put (some d) (sct (.bo true)))else no ((s.put (some d) (sct (.bo false))).put o.dst (.tup []))
    |false=>if c then no ((s.put (some d) (sct (.bo true))).put o.dst (.tup []))else f (s.put (some d) (sct (.bo false)))
   |.tup []=>no (s.put o.dst (.tup []))
   |_=>false
  |none=>false
def Z6(f:Nat->Bool):List Nat->Bool
 |[]=>true
 |[i]=>f i
 |i::r=>match f i with
  |true=>Z6 f r
  |false=>false
def sa(e:EnB)(ops:Array Oper):Nat->Array Bool->St->(St->Bool)->Bool
 |0,listed,s,k=>match Region.ready .any ops listed with
  |[]=>k s
  |_=>false
 |n+1,listed,s,k=>match Region.ready .any ops listed with
  |[]=>k s
  |b::a=>match xC ops listed s (b::a)with
   |some (i,_,fz)=>match ops[i]? with
    |some o=>match o.guard with
     |none=>let s1:=Co s o;qB e o s1 λv=>sa e ops n (listed.setIfInBounds i true) (s1.put o.dst v) k
     |some _=>gB ops.toList o s (λs=>match !fz||l4 s o with
      |true=>qB e o s λv=>sa e ops n (listed.setIfInBounds i true) (s.put o.dst v) k
      |false=>false) (λs=>sa e ops n (listed.setIfInBounds i true) s k)
    |none=>false
   |none=>Z6 (λi=>match ops[i]? with
    |some o=>gB ops.toList o s (λs=>ac7 e o s λs'=>sa e ops n (listed.setIfInBounds i true) s' k) (λs=>sa e ops n (listed.setIfInBounds i true) s k)
    |none=>false) (b::a)
def NZ(body:(St->Bool)->St->Bool):Nat->St->Bool
 |0,_=>false
 |n+1,s=>body (NZ body n) s
def F8(P:Program)(s:St)(k:At->Bool):ResultVar->Bool
 |.tmp t=>k (gtA s.t t)
 |.cell a t=>match gtA s.t a with
  |.one (.c (.pl p))=>match bK s.m p.root with
   |some r=>match r.hole.isNone&&r.cells.all (λt=>!t.owned)with
    |true=>QH P s.m t (gtA s.t a) k
    |false=>false
   |none=>false
  |_=>false
def vh(P:Program)(s:St):List ResultVar->(List At->Bool)->Bool
 |[],k=>k []
 |r::rs,k=>F8 P s (λv=>vh P s rs λvs=>k (v::vs)) r
def Lg(P:Program)(rs:List ResultVar)(us:List U)(KK:Fl us->Bool)(s:St):Bool:=
 vh P (kX s rs) rs λvs=>match cG us vs with
  |some x=>KK x
  |none=>false
def QD(P:Program)(res:List ResultVar)(k:St->At->Bool)(s:St):Bool:=
 match Le P s res with
 |some xs=>k ⟨s.nx,vD s.t,s.m⟩ (ajH xs)
 |none=>false
structure KtB where
 n:St->Bool
 x:Nat->St->Bool
 r:St->Bool
def wpB(n:Nat)(e:EnB):Code->St->KtB->Bool
 |.skip,s,K=>K.n s
 |.region _ ops false,s,K=>Cn e ops.toList ops.toList s K.n
 |.region _ ops true,s,K=>sa e ops ops.size (Array.replicate ops.size false) s K.n
 |.seq x y,s,K=>wpB n e x s ⟨λs'=>wpB n e y s' K,K.x,K.r⟩
 |.cond (.tmp t) x y,s,K=>match gtA s.t t with
  |.one (.c (.d (.bo c)))=>match c with
   |true=>wpB n e x s K
   |false=>wpB n e y s K
  |_=>false
 |.block id x,s,K=>wpB n e x s ⟨K.n,λi s'=>match Nat.beq i id with
  |true=>K.n s'
  |false=>K.x i s',K.r⟩
 |.loop x,s,K=>NZ (λR s'=>wpB n e x s' ⟨R,K.x,K.r⟩) n s
 |.exit id,s,K=>K.x id s
 |.ret,s,K=>K.r s
 |_,_,_=>false
def IN(n:Nat)(b:EnB)(fn:Func)(ps rs:List U)(x:Fl ps)(KK:Fl rs->Bool):Bool:=wpB n b (fn.body.getD .skip) (EW ps x) ⟨Lg b.e.P fn.results.toList rs KK,λ_ _=>false,Lg b.e.P fn.results.toList rs KK⟩
def YS(n:Nat)(b:EnB)(fn:Func)(ps rs:List U):CKb:=λs ops k=>
 let s1:=cR s (ops.map (evA s))
 match cG ps (ops.map (evA s1))with
 |some x=>IN n b fn ps rs x (λy=>k s1 (dp rs y))
 |none=>false
abbrev QZ(e:En)(fn:Func)(an:An)(ps rs:List U):CKt:=phT ps rs λx K _=>∃KK:Fl rs->Prop,uh e fn an ps rs x KK/\∀y,KK y->K y
def X8(n:Nat)(b:EnB)(fn:Func)(ps rs:List U):CKb:=λs ops k=>
 match cG ps (ops.map λx=>lent s (evA s x)),rs.all scU with
 |some x,true=>IN n b fn ps rs x (λy=>k s (dp rs y))
 |_,_=>false
def ag9(n:Nat)(b:EnB)(fn:Func):CKb:=λs ops k=>
 match Nat.ble ops.length fn.ntmps with
 |true=>wpB n b (fn.body.getD .skip) ⟨s.nx+1,EI s.nx 0 (ops.map (evA s))++shT s.t,s.m⟩ ⟨QD b.e.P fn.results.toList k,λ_ _=>false,QD b.e.P fn.results.toList k⟩
 |false=>false
def Bn(P:Program)(res:List ResultVar)(sh:List Sh)(u:U)(rs:List U)(KK:Fl rs×El u->Bool)(s:St):Bool:=
 let s1:=br (kX s res) (.out 0) (iO u) sh 0
 vh P s1 res λvs=>match cG rs vs,bK s1.m (.out 0)with
  |some x,some ⟨true,cells,none⟩=>match gZ sh cells with
   |some ts=>match lI u ts with
    |some y=>KK (x,y)
    |none=>false
   |none=>false
  |_,_=>false
def ahS(n:Nat)(b:EnB)(fn:Func)(sh:List Sh)(u:U)(ps rs:List U):CKb:=λs ops k=>
 match ops with
 |[]=>false
 |o::os=>
  let s1:=cR s (os.map (evA s))
  match evA s1 o with
  |.one (.c (.pl ⟨r,0,[]⟩))=>
   let s2:=br s1 r (iO u) sh 0
   match evA s2 o with
   |.one (.c (.pl ⟨a,0,[]⟩))=>match decide (a=r),r.tyd,bK s2.m r with
    |true,none,some ⟨true,cells,none⟩=>match gZ sh cells with
     |some ts=>match lI u ts,cG ps (os.map (evA s2))with
      |some x,some y=>wpB n b (fn.body.getD .skip) ⟨1,(0,0,.one (.c (.pl ⟨.out 0,0,[]⟩)))::BW 1 ps y,[(.out 0,0,⟨true,bf sh (flat u x),none⟩)]⟩
        ⟨Bn b.e.P fn.results.toList sh u rs (λz=>k ⟨s2.nx+1,lb (jm r) s2.nx s2.t,(r,s2.nx,⟨true,bf sh (flat u z.2),none⟩)::cc (jm r) s2.nx (e8 s2.m r)⟩ (dp rs z.1)),λ_ _=>false,
         Bn b.e.P fn.results.toList sh u rs (λz=>k ⟨s2.nx+1,lb (jm r) s2.nx s2.t,(r,s2.nx,⟨true,bf sh (flat u z.2),none⟩)::cc (jm r) s2.nx (e8 s2.m r)⟩ (dp rs z.1))⟩
      |_,_=>false
     |none=>false
    |_,_,_=>false
   |_=>false
  |_=>false
def fnB(ps rs:List U)(pre:Fl ps->Bool)(f:Fl ps->Fl rs):CKb:=λs ops k=>
 let s1:=cR s (ops.map (evA s))
 match cG ps (ops.map (evA s1))with
 |some x=>match pre x with
  |true=>k s1 (dp rs (f x))
  |false=>false
 |none=>false
def ad4(w:a8)(K:Nat->Bool)(df:Nat):List (a8×Nat)->Bool
 |[]=>K df
 |(w0,f)::r=>match decide (w=w0)with
  |true=>K f
  |false=>ad4 w K df r
def swB(a:List (a8×Nat))(df:Nat):CKb:=λs ops k=>
 let s1:=cR s (ops.map (evA s))
 match cG [.s] (ops.map (evA s1))with
 |some w=>ad4 w (λf=>k s1 (sct (.v (.func (.func f) #[] #[])))) df a
 |none=>false
end Go.Am
end
