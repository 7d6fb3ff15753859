/-
  Part 10: AmWalk · AmPtrCon · AmOwn · AmPtrFn · AmAuto · AmArr · AmSem · AmData · AmU · AmMp · AmMq · AmE1 · AmE2 · AmE4.
-/
import Derived.Test.YthhkhcolidkemaaGreatDoorCt9
import Derived.IntWalk
set_option linter.unusedSimpArgs false
set_option linter.unusedVariables false
set_option linter.unusedSectionVars false
set_option linter.unnecessarySimpa false
section
namespace Go.Am
def afH(ks:List Nat)(t:List (Nat×AV)):List (Nat×AV):=ks.map λk=>(k,bB t k)
def S.drops:List Nm->S->S
 |[],s=>s
 |n::ns,s=>S.drops ns (s.drop n)
def S.cut(ks:List Nat)(ds:List Nm)(s:S):S:=S.drops ds ⟨afH ks s.t,s.m⟩
section
variable {P:Program} {cs:CT} {g:G} {Q:Exit->S->Prop} {s:S}
def S.one(s:S)(d:Nat)(v:AV):S:=⟨(d,v)::s.t,s.m⟩
end
structure Rw (α:Type) where
 enc:α->List D
 dec:List D->Option α
 inv:∀l x,dec l=some x->l=enc x
structure Cd (α:Type) where
 enc:α->AV1
 dec:AV1->Option α
 inv:∀v x,dec v=some x->v=enc x
def dD{α:Type}(c:Rw α):List (List D)->Option (List α)
 |[]=>some []
 |r::rs=>match c.dec r with
  |some x=>match dD c rs with
   |some xs=>some (x::xs)
   |none=>none
  |none=>none
theorem aB{α:Type}{c:Rw α}:∀{l:List (List D)}{xs:List α},dD c l=some xs->l=xs.map c.enc
 |[],xs,h=>by grind [dD]
 |r::rs,xs,h=>by
  simp only[dD]at h;cases h1:c.dec r with
  |none=>grind
  |some x=>
   rw[h1]at h;cases h2:dD c rs with
   |none=>grind
   |some ys=>rw[h2]at h;simp only[akJ]at h;subst h;rw[c.inv r x h1,aB h2];rfl
def tds:List T->Option (List D)
 |[]=>some []
 |.d x::ts=>match tds ts with
  |some xs=>some (x::xs)
  |none=>none
 |_=>none
theorem Rf:∀{ts:List T}{xs:List D},tds ts=some xs->ts=xs.map T.d
 |[],xs,h=>by grind [tds]
 |.d x::ts,xs,h=>by
  simp only[tds]at h;cases h2:tds ts with
  |none=>grind
  |some ys=>rw[h2]at h;simp only[akJ]at h;subst h;rw[Rf h2];rfl
 |.nil::_,_,h=>by simp[tds]at h
 |.ow _ _::_,_,h=>by simp[tds]at h
 |.el _ _::_,_,h=>by simp[tds]at h
 |.pl _::_,_,h=>by simp[tds]at h
 |.rf _::_,_,h=>by simp[tds]at h
 |.any::_,_,h=>by simp[tds]at h
def ajB(k:IntKind):AV1->Option Int
 |.c (.d (.int k' n))=>if k'=k then some n else none
 |_=>none
def cI(k:IntKind):Cd Int where
 enc n:=.c (.d (.int k n))
 dec:=ajB k
 inv v x h:=by
  unfold ajB at h
  grind
def ajA:AV1->Option Bool
 |.c (.d (.bool b))=>some b
 |_=>none
def cB:Cd Bool where
 enc b:=.c (.d (.bool b))
 dec:=ajA
 inv v x h:=by unfold ajA at h;grind
def ajC:AV1->Option (List UInt8)
 |.c (.d (.str b))=>some b
 |_=>none
def cS:Cd (List UInt8) where
 enc b:=.c (.d (.str b))
 dec:=ajC
 inv v x h:=by unfold ajC at h;grind
def ae9{α:Type}(c:Rw α):AV1->Option (List α)
 |.c (.d (.li l))=>dD c l
 |_=>none
def cL{α:Type}(c:Rw α):Cd (List α) where
 enc l:=.c (.d (.li (l.map c.enc)))
 dec:=ae9 c
 inv v x h:=by unfold ae9 at h;grind [aB]
def ai9{α:Type}(c:Rw α):AV1->Option α
 |.agg ts=>match tds ts with
  |some l=>c.dec l
  |none=>none
 |_=>none
def cA{α:Type}(c:Rw α):Cd α where
 enc x:=.agg ((c.enc x).map T.d)
 dec:=ai9 c
 inv v x h:=by
  unfold ai9 at h
  grind [Rf,Rw.inv]
def ae8:List D->Option (List UInt8)
 |[.str b]=>some b
 |_=>none
def rS:Rw (List UInt8) where
 enc b:=[.str b]
 dec:=ae8
 inv l x h:=by unfold ae8 at h;grind
def ae7(k:IntKind):List D->Option Int
 |[.int k' n]=>if k'=k then some n else none
 |_=>none
def rI(k:IntKind):Rw Int where
 enc n:=[.int k n]
 dec:=ae7 k
 inv l x h:=by
  unfold ae7 at h
  grind
theorem ah1(a:List UInt8):rS.dec [.str a]=some a:=rfl
section
variable {α β γ δ ρ:Type}
def fn0(r:ρ->AV)(v:ρ):List AV->(AV->Prop)->Prop
 |[],K=>K (r v)
 |_,_=>False
def fn1(a:Cd α)(r:ρ->AV)(pre:α->Prop)(f:α->ρ):List AV->(AV->Prop)->Prop
 |[.one x],K=>match a.dec x with
  |some x=>pre x/\K (r (f x))
  |none=>False
 |_,_=>False
def fn2(a:Cd α)(b:Cd β)(r:ρ->AV)(pre:α->β->Prop)(f:α->β->ρ):List AV->(AV->Prop)->Prop
 |[.one x,.one y],K=>match a.dec x,b.dec y with
  |some x,some y=>pre x y/\K (r (f x y))
  |_,_=>False
 |_,_=>False
def fn3(a:Cd α)(b:Cd β)(c:Cd γ)(r:ρ->AV)(pre:α->β->γ->Prop)(f:α->β->γ->ρ):List AV->(AV->Prop)->Prop
 |[.one x,.one y,.one z],K=>match a.dec x,b.dec y,c.dec z with
  |some x,some y,some z=>pre x y z/\K (r (f x y z))
  |_,_,_=>False
 |_,_=>False
def o1(c:Cd ρ)(x:ρ):AV:=.one (c.enc x)
def o2(a:Cd α)(b:Cd β)(x:α×β):AV:=.tup [a.enc x.1,b.enc x.2]
def o3(a:Cd α)(b:Cd β)(c:Cd γ)(x:α×β×γ):AV:=.tup [a.enc x.1,b.enc x.2.1,c.enc x.2.2]
variable {P:Program} {f:Nat} {fn:Func} {c:Code}
end
theorem CT.ok0{P:Program}:CT.Ok P []:=λx hx=>by grind
theorem CT.cons{P:Program}{f:Nat}{C:CK1}{cs:CT}(h:Con P f C)(hs:cs.Ok P):CT.Ok P ((f,C)::cs):=λx hx=>by
 simp only[akU]at hx;rcases hx with rfl|hx
 .exact h
 exact hs x hx
theorem cN{n:Int}(h1:-9223372036854775808<=n)(h2:n<=9223372036854775807):IntKind.i64.wrap n=n:=IntWalk.i64_in n ⟨h1,h2⟩
theorem ae{i:Nat}(h:i < 9223372036854775807):IntKind.i64.wrap ((i:Int)+1)=((i+1:Nat):Int):=by grind [cN]
def ajU(P:Program)(cs:CT)(all:List Oper)(o:Oper)(s:S)(K:S->Prop):Prop:=
 match o.guard with
 |none=>opK P cs o s K
 |some (j,want)=>match(all[j]?).bind (·.dst)with
  |some d=>match bB s.t d with
   |.one (.c (.d (.bool c)))=>gsel c want (opK P cs o (s.put (some d) (sc (.bool want))) K) (K ((s.put (some d) (sc (.bool (!want)))).put o.dst (.tup [])))
   |.tup []=>K (s.put o.dst (.tup []))
   |_=>False
  |none=>False
section
variable {P:Program} {cs:CT} {all:List Oper}
def ajW(P:Program)(all:List Oper)(i:Nat)(fz:Bool)(s:S)(K:S->Prop):Prop:=
 match all[i]? with
 |none=>False
 |some o=>gK all o s (λs=>(fz=true->gX s o)/\qK P o s λv=>K (s.put o.dst v)) K
end
theorem ah2(b:List UInt8):rS.enc b=[.str b]:=rfl
theorem ah0(k:IntKind)(n:Int):(rI k).enc n=[.int k n]:=rfl
theorem agD(k:IntKind)(n:Int):(cI k).enc n=.c (.d (.int k n)):=rfl
theorem agC(b:Bool):cB.enc b=.c (.d (.bool b)):=rfl
theorem agH(b:List UInt8):cS.enc b=.c (.d (.str b)):=rfl
theorem agF{α:Type}(c:Rw α)(l:List α):(cL c).enc l=.c (.d (.li (l.map c.enc))):=rfl
theorem agA{α:Type}(c:Rw α)(x:α):(cA c).enc x=.agg ((c.enc x).map T.d):=rfl
theorem agB(b:Bool):cB.dec (.c (.d (.bool b)))=some b:=rfl
theorem agG(b:List UInt8):cS.dec (.c (.d (.str b)))=some b:=rfl
theorem agE{α:Type}(c:Rw α)(l:List (List D)):(cL c).dec (.c (.d (.li l)))=dD c l:=rfl
theorem af9{α:Type}(c:Rw α)(ts:List T):(cA c).dec (.agg ts)=match tds ts with
  |some l=>c.dec l
  |none=>none:=rfl
theorem akB(x:D):sc x=.one (.c (.d x)):=rfl
attribute [push_cast] oM List.append_eq decide_false decide_true akP uH kp eqD TD Option.isSome_some List.toList_toArray T.owned T.ment T.toD p9 iV List.set_cons_zero List.set_cons_succ mkT inK bj mQ iI sX q7 kg kD Jk bi bF Jj thr Pl.offs Option.map_some Option.map_none List.replicate_succ List.replicate_zero List.zipWith_cons_cons List.zipWith_nil_left List.zipIdx_cons List.zipIdx_nil al6 amM amB u7 T.frz Lx Sh.isFr TK.isSS bne List.isPrefixOf List.cons_beq_cons Nm.loc.injEq Nm.gh.injEq Nm.out.injEq gsel ne_eq not_false_eq_true not_true_eq_false Nat.one_ne_zero akT ajU opK ev cst sr eH bB xc S.put ZW ite_true if_true if_false ak3 ak8 rA AA Km Ms wi al9 alK amO Bool.and_false alH amA Bool.or_true Bool.or_false Bool.true_or Bool.false_or Bool.not_not al0 List.getElem?_cons_succ true_and and_true forall_const Option.bind_some KO gY gV uZ false_and and_false false_implies true_implies implies_true decide_eq_true_eq decide_eq_false_iff_not alC Bool.not_eq_false' beq_self_eq_true afH S.cut S.drops S.one akM alN akB ah2 ah0 agD agC agH agF agA agB agG agE af9 tds dD ah1 CT.get fn0 fn1 fn2 fn3 o1 o2 o3 pE Jm XV Dn AV.isFz AV1.isFz T.isFz AV.map AV1.map T.canon akW amV S.drop nH aP AV.kill AV1.kill T.kill bJ ci ah cY S.fresh S.root ajW gK ahT qK gX JD lq unK xh okv okvs List.drop_zero List.take_zero List.drop_succ_cons List.take_succ_cons List.take_nil List.drop_nil ah4 Bn iN qc gn wZ Sk fH T.sure wd xf dS jD room tM Pl.add atK vA Co Y6 QM nN iq lC ki overw chunk T.fz
def T.ren(a b:Nm):T->T
 |.pl p=>.pl ⟨if p.root=a then b else p.root,p.off,p.path⟩
 |t=>t
def T.self(a:Nm):T->Bool
 |.pl p=>decide (p.root=a)&&p.path.isEmpty
 |.rf _=>false
 |_=>true
def m0(r:Nm)(rf:Bool)(p:Pl):Bool:=decide (p.root=r)&&(rf||!p.path.isEmpty)
def ajO(j:Nat)(P:Program)(s:S)(rs:List ResultVar)(K:AV->List T->Prop):Prop:=
 match ah (iN s rs).m (.out j)with
 |some ⟨true,cells⟩=>Bn P s rs (λv=>K v cells)
 |_=>False
def akA(j:Nat)(b:List AV->List T->(AV->List T->Prop)->Prop):CK1:=λs ops k=>
 match ops with
 |[]=>False
 |o::os=>
  let s1:=pE s (os.map (ev s))
  match ev s1 o with
  |.one (.c (.pl ⟨r,0,[]⟩))=>match ah s1.m r with
   |some ⟨true,cells⟩=>(Nm.out j).tyd=r.tyd/\cells.all (T.self r)=true/\(os.map (ev s1)).all AV.isFz=true /\
     b (os.map λx=>(ev s1 x).map T.canon) (cells.map (T.ren r (.out j))) (λres a=>a.length=cells.length/\a.all (T.self (.out j))=true /\
      k ⟨nH (m0 r) s1.t,(r,⟨true,a.map (T.ren (.out j) r)⟩)::aP (bJ r) (ci s1.m r)⟩ res)
   |_=>False
  |_=>False
section
variable {w w':World} {H H':FH} {γ γ':Gam} {m m':Mm}
theorem wb{n n':Nm}{cells:List T}{f:Fp}{b:Nat}(h:cz w H γ m n ⟨true,cells⟩ f)(hn:n'.tyd=n.tyd)(hs:cells.all (T.self n)=true)(s:γ n=.blk b)(hm:ah m n=some ⟨true,cells⟩)
  (i:γ' n'=.blk b) (k:∃c,ah m' n'=some ⟨true,c⟩/\c.length=cells.length):cz w H γ' m' n' ⟨true,cells.map (T.ren n n')⟩ f:=by
 obtain⟨b0,cs,ty,fz,g,h1,h2,h3,h4,h5,h6⟩:=h;obtain rfl:b=b0:=by grind
 refine⟨b,cs,ty,fz,g,i,h2,⟨h3.1,λt B=>h3.2 t (by grind)⟩,by grind,?_,h6⟩;unfold Ts at h5|-;obtain⟨c,l,y⟩:=k;have key:∀(d:List Unit)(xs:List T)(f:Fp)(vs:List Value),xs.all (T.self n)=true->Cs (λ_ t=>TR w H γ m t) d xs f vs->Cs (λ_ t=>TR w H γ' m' t) d (xs.map (T.ren n n')) f vs:=by
  intro d xs;induction xs generalizing d with
  |nil=>intro f vs _ h;cases d<;>exact h
  |cons x xs ih=>
   intro f vs hx h;simp only[akW,akI]at hx;cases d with
   |nil=>exact h.elim
   |cons u d=>
    obtain⟨v,r,f1,o,hv,hf,k1,k2⟩:=h;refine⟨v,r,f1,o,hv,hf,?_,ih d o r hx.2 k2⟩;cases x with
    |pl p=>
     obtain⟨root,off,path⟩:=p;have hp:=hx.1
     simp only[T.self,akI,decide_eq_true_eq,List.isEmpty_iff]at hp;obtain⟨rfl,rfl⟩:=hp;obtain⟨z,j,a,C,e⟩:=k1;simp only[T.ren];refine⟨z,?_,a,?_,e⟩
     .rw[ay]at j|-;obtain⟨r0,q,q2⟩:=j;rw[hm]at q;obtain rfl:=Option.some.inj q;exact⟨_,l,by
       have A:off<cells.length:=q2
       show off<c.length
       omega⟩
     grind [plA]
    |rf p=>grind [T.self]
    |_=>exact k1
 grind
theorem mz{F:Nm->Fp}{m:Mm}{n:Nm}{r:Root}(hk:ah m n=some r)(c:Nat):tot F (ci m n) c+F n c=tot F m c:=by induction m<;>grind [ah,ci,fD]
theorem Jr{m:Mm}{n:Nm}(hk:(m.map (·.1)).Nodup):ah (aP (bJ n) (ci m n)) n=none:=by grind [wD,oZ,rP]
end
section
variable {P:Program}
theorem ZC{g:G}{s:S}{a:Act}{w:World}{H:FH}{γ:Gam}{F:Nm->Fp}(h:RX g s a w H γ F)(e:g.ex=none){fn:Func}{k:AV->Prop}(hk:Bn P s fn.results.toList k) :
  ∃y v H' F',(results fn a.tmps).run P w=.ok y w/\RX g (iN s fn.results.toList) a w H' γ F'/\AR w H' γ (iN s fn.results.toList).m v y/\v.isFz=true/\k (v.map T.canon):=by
 obtain⟨H1,F1,h1⟩:=sT fn.results.toList s H F h;obtain⟨ys,xs,j,d,b,n⟩:=tO h1 e hk;have c:(results fn a.tmps).run P w=.ok (if h:ys.toArray.size=1 then ys.toArray[0]else .tuple ys.toArray) w:=by simp_all[jy,Array.mapM_eq_mapM_toList]
 refine⟨_,(match xs with|[x]=>.one x|xs=>.tup xs),H1,F1,c,h1,?_⟩
 match xs,ys,d,b with
 |[],[],d,b=>exact⟨⟨#[],by simp,trivial⟩,b.1,b.2⟩
 |[x],[y],d,b=>exact⟨d.1,b.1,b.2⟩
 |l::o::xs,f::i::ys,d,b=>exact⟨⟨(f::i::ys).toArray,by simp,by omega⟩,b.1,b.2⟩
end
section
variable {w:World} {H:FH} {γ:Gam} {m:Mm} {F:Nm->Fp}
theorem yS{α β:Type}{R:α->β->Fp->Value->Prop}{x':β}:∀{a:List α}{xs:List β}{f:Fp}{vs:List Value}{k:Nat}{x:β},xs[k]? = some x->(∀s g v,R s x g v->R s x' g v)->Cs R a xs f vs->Cs R a (xs.set k x') f vs
 |[],[],_,_,_,_,hx,_,_=>by grind
 |s::a,y::xs,f,vs,0,x,hx,b,h=>by obtain⟨v,r,f1,c,hv,hf,h1,h2⟩:=h;simp only[al0,akJ]at hx;subst hx;exact⟨v,r,f1,c,hv,hf,b _ _ _ h1,h2⟩
 |s::a,y::xs,f,vs,k+1,x,hx,b,h=>by obtain⟨v,r,f1,c,hv,hf,h1,h2⟩:=h;exact⟨v,r,f1,c,hv,hf,h1,yS hx b h2⟩
 |[],_::_,_,_,_,_,_,_,h=>h.elim
 |_::_,[],_,_,_,_,_,_,h=>h.elim
theorem Ic{n:Nm}{cells:List T}{bl:Bool}(hr:ah m n=some ⟨bl,cells⟩){off:Nat}(hc:cells[off]? = some .nil)(sub:List Sh):Keeps w γ m w γ (cY m n ⟨bl,cells.set off (.ow sub [])⟩):=by
 constructor
 .intro q hq;refine⟨?_,rfl⟩;rw[ay]at hq|-;obtain⟨r,h1,h2⟩:=hq;rw[gj hr];by_cases hn:n=q.root
  .subst hn;rw[if_pos rfl];rw[hr]at h1;obtain rfl:=Option.some.inj h1;refine⟨_,rfl,?_⟩;obtain⟨d,a,c⟩:=q;cases c with
   |nil=>
    have b:a<cells.length:=h2
    show a < (cells.set off (.ow sub [])).length
    grind
   |cons st u=>grind [bf]
  grind
 intro q hq;refine⟨?_,rfl⟩;rw[cr]at hq|-;obtain⟨r,h1,h2⟩:=hq;rw[gj hr];by_cases hn:n=q.root
 .dsimp only[bO]at h2|-
  grind
 grind
end
def S.ownR(n:Nm)(off:Nat)(sub:List Sh)(s:S):S:=
 match ah s.m n with
 |some ⟨true,cells⟩=>match cells[off]? with
  |some .nil=>⟨s.t,cY s.m n ⟨true,cells.set off (.ow sub [])⟩⟩
  |_=>s
 |_=>s
theorem aaU{g:G}{s:S}{a:Act}{w:World}{H:FH}{γ:Gam}{F:Nm->Fp}(h:RX g s a w H γ F)(n:Nm)(off:Nat)(sub:List Sh):RX g (s.ownR n off sub) a w H γ F:=by
 unfold S.ownR;split
 .rename_i cells hr;split
  .rename_i hc;have c:=Ic (w:=w) (γ:=γ) hr hc sub
   have hm:=h.mem
   refine⟨⟨hm.agree,λx hx=>?_,?_,λb=>?_,λb hb=>?_,λb hb=>?_⟩,⟨h.fr.size,h.fr.os,h.fr.tape,h.fr.output,h.fr.block,h.fr.hold,h.fr.hnew,λb hb=>?_,h.fr.nz⟩,h.nt,h.df,λi=>dK c (λ_ _ _ h=>h) (h.t i)⟩
   .rcases qm hm.keys hx with⟨_,hy⟩|rfl
    .exact bm c (λ_ _ _ h=>h) rfl (λ_ _=>rfl) (hm.roots x hy)
    have h1:=bm c (λ_ _ _ h=>h) rfl (λ_ _=>rfl) (hm.roots _ (al hr))
    obtain⟨b,cs,ty,fz,g',k1,k2,k3,k4,k5,k6⟩:=h1;refine⟨b,cs,ty,fz,g',k1,k2,k3,by grind,?_,k6⟩;unfold Ts at k5|-;rw[amL];refine yS hc (λ_ f v hv=>?_) k5;obtain⟨z,rfl⟩:=hv;exact⟨1,im.2 (.inl ⟨rfl,rfl,z⟩)⟩
   .rw[nE];exact hm.keys
   .rw[dT];exact hm.le1 b
   .rw[dT]at hb;exact hm.lt b hb
   .rw[dT]at hb;exact hm.nofz b hb
   rw[dT]at hb;exact h.fr.tt b hb
  omega
 omega
def S.mvR(n:Nm)(s:S):S:=
 match ah s.m n with
 |some r=>⟨s.t,(n,r)::ci s.m n⟩
 |none=>s
def Uq(t:Nat)(n':Nm)(sub:List Sh)(s:S):S:=
 match bB s.t t with
 |.one (.c .nil)=>match ah (s.fresh n').m n',n'.isOut with
  |none,false=>⟨xc (s.fresh n').t t (.one (.c (.rf ⟨n',0,[]⟩))),(n',⟨false,[.ow sub []]⟩)::(s.fresh n').m⟩
  |_,_=>s
 |.one (.c (.rf ⟨n,0,[]⟩))=>match ah s.m n with
  |some ⟨false,[.ow a l]⟩=>match n'.isOut with
   |false=>⟨xc ((s.drop n).fresh n').t t (.one (.c (.rf ⟨n',0,[]⟩))),(n',⟨false,[.ow a l]⟩)::((s.drop n).fresh n').m⟩
   |_=>s
  |_=>s
 |_=>s
def S.own:List (Nat×Nm×List Sh)->S->S
 |[],s=>s
 |(t,n,sub)::r,s=>S.own r (if 2000000<=t then s.mvR n else if 1000000<=t then s.ownR n (t - 1000000) sub else Uq t n sub s)
section
variable {g:G} {s:S} {a:Act} {w:World} {H:FH} {γ:Gam} {F:Nm->Fp}
theorem Qb(h:RX g s a w H γ F){t:Nat}{v:AV}(hv:AR w H γ s.m v (g.tv a t)):RX g ⟨xc s.t t v,s.m⟩ a w H γ F:=by
 refine⟨h.mem,h.fr,h.nt,h.df,λi=>?_⟩
 grind [jq,RX.t]
theorem ZG{m:Mm}{n:Nm}{r:Root}{sub:List Sh}{l:List (List D)}{v:Value}(hr:r=⟨false,[.ow sub l]⟩)(a:γ n=.gh v):AR w H γ ((n,r)::m) (.one (.c (.rf ⟨n,0,[]⟩))) v:=by
 refine⟨λ_=>rfl,?_,?_⟩
 .simp_all[cr,ah,bO]
 show aI w (γ n) 0=some v
 rw[a];rfl
theorem P9(h:RX g s a w H γ F)(t:Nat)(n':Nm)(sub:List Sh):∃γ' F',RX g (Uq t n' sub s) a w H γ' F':=by
 unfold Uq;split
 .rename_i e;split
  .rename_i c hno;have h1:=dv h n'
   have hv:=h.t t
   rw[e]at hv;obtain⟨_,hv⟩:=hv;obtain⟨γ',F',h2,k⟩:=eE h1 hno c (v:=.slice none 0 0) (t:=.ow sub []) (f:=λ_=>0) ⟨1,im.2 (.inl ⟨rfl,rfl,λ_=>rfl⟩)⟩ (λb=>by have:=h1.mem.le1 b;omega) (λb hb=>absurd rfl hb) (λb hb=>absurd rfl hb);exact⟨γ',F',Qb h2 (by grind [ZG])⟩
  grind
 .rename_i n q
  .split
   .rename_i j l d;split
    .rename_i hno;obtain⟨v,f,r,o,hd,i⟩:=Ii h d;have h1:=dv hd n'
     have p:∀b,tot F ((s.drop n).fresh n').m b<=tot F (s.drop n).m b:=by
      intro b;unfold S.fresh;split
      .omega
      show tot F (aP _ _) b<=_
      rw[bC];exact gL
     have hv:=h.t t
     rw[q]at hv;obtain⟨_,_,hv⟩:=hv;have u:v=g.tv a t:=by grind [plV,aI]
     obtain⟨γ',F',h2,k⟩:=eE h1 hno (cE hd n') (v:=v) (t:=.ow j l) (f:=f) (o _) (λb=>by have:=p b;have:=i b;have:=h.mem.le1 b;omega)
      (λb hb=>⟨h.mem.lt b (by grind),h.mem.nofz b (by grind)⟩) (λb hb=>h.fr.tt b (by grind))
     exact⟨γ',F',Qb h2 (by grind [ZG])⟩
    grind
   grind
 grind
def S.cutO(ns:List (Nat×Nm×List Sh))(ks:List Nat)(ds:List Nm)(s:S):S:=(s.own ns).cut ks ds
variable {P:Program} {Q:Exit->S->Prop}
def ae6:List D->Option UInt8
 |[.int .u8 n]=>if 0<=n/\n < 256 then some (UInt8.ofNat n.toNat)else none
 |_=>none
def rB:Rw UInt8 where
 enc b:=[.int .u8 (b.toNat:Int)]
 dec:=ae6
 inv l x h:=by
  unfold ae6 at h
  grind [UInt8.toNat_ofNat']
theorem adZ(b:List UInt8):(b.map λc=>[D.int .u8 (c.toNat:Int)])=b.map rB.enc:=rfl
theorem FE(a:Nat)(l:List Nat):(([]:List Nat)==a::l)=false:=rfl
theorem ER(a:Nat)(l:List Nat):((a::l)==([]:List Nat))=false:=rfl
attribute [push_cast] FE ER adZ S.own Uq S.ownR S.mvR ci S.cutO Nm.isOut D.sure
end
def QP(cells:List T)(off:Nat)(sub:List Sh):List T:=
 match cells[off]? with
 |some .nil=>cells.set off (.ow sub [])
 |_=>cells
def A4:List (Nat×List Sh)->List T->List T
 |[],cells=>cells
 |(off,sub)::r,cells=>A4 r (QP cells off sub)
section
variable {w:World} {H:FH} {γ:Gam} {m:Mm} {F:Nm->Fp}
end
section
variable {g:G} {a:Act} {w:World} {H:FH} {γ:Gam} {F:Nm->Fp}
end
structure Cs1 (σ:Type) where
 j:Nat
 enc:σ->List T
 dec:List T->Option σ
 offs:List (Nat×List Sh)
 inv:∀l x,dec l=some x->A4 offs l=enc x
 self:∀x,(enc x).all (T.self (.out j))=true
 ren:∀l x n,dec l=some x->dec (l.map (T.ren n (.out j)))=some x
section
variable {α β γ' ρ σ:Type}
def fp0(c:Cs1 σ)(r:ρ->AV)(pre:σ->Prop)(f:σ->ρ×σ):List AV->List T->(AV->List T->Prop)->Prop
 |[],cells,K=>match c.dec cells with
  |some s=>pre s/\K (r (f s).1) (c.enc (f s).2)
  |none=>False
 |_,_,_=>False
def fp1(c:Cs1 σ)(a:Cd α)(r:ρ->AV)(pre:σ->α->Prop)(f:σ->α->ρ×σ):List AV->List T->(AV->List T->Prop)->Prop
 |[.one x],cells,K=>match c.dec cells,a.dec x with
  |some s,some x=>pre s x/\K (r (f s x).1) (c.enc (f s x).2)
  |_,_=>False
 |_,_,_=>False
def fp2(c:Cs1 σ)(a:Cd α)(b:Cd β)(r:ρ->AV)(pre:σ->α->β->Prop)(f:σ->α->β->ρ×σ):List AV->List T->(AV->List T->Prop)->Prop
 |[.one x,.one y],cells,K=>match c.dec cells,a.dec x,b.dec y with
  |some s,some x,some y=>pre s x y/\K (r (f s x y).1) (c.enc (f s x y).2)
  |_,_,_=>False
 |_,_,_=>False
variable {P:Program} {f:Nat} {fn:Func} {co:Code}
end
attribute [push_cast] akK List.isEmpty_nil List.isEmpty_cons akA fp0 fp1 fp2 T.ren T.self m0 QP A4 ajO
attribute [push_cast] o6 Nm.tyd
section
variable {P:Program} {cs:CT} {all:List Oper} {g:G} {Q:Exit->S->Prop}
end
def T.isD:T->Bool
 |.d _=>true
 |_=>false
def T.frB(n:Nm)(row:List D):T->T
 |.pl p=>match p.path with
  |[]=>if p.root=n then .el row p.off else .pl p
  |_=>(T.pl p).kill (bJ n)
 |t=>t.kill (bJ n)
def S.frzB(n:Nm)(s:S):S:=
 match ah s.m n with
 |some ⟨true,cells⟩=>if cells.all T.isD=true then⟨u7 (AV.map (T.frB n (cells.map T.toD))) s.t,aP (bJ n) (ci s.m n)⟩else s
 |_=>s
theorem Cz{H:FH}{row:List D}{b o:Nat}(h:∀j,j<row.length->∃y:Value,H b (o+j)=some y/\FDx H (row.getD j default) y):∃m,BR H m row b o:=by
 have key:∀n,n<=row.length->∃m,∀j,j<n->∃y:Value,H b (o+j)=some y/\FD H m (row.getD j default) y:=by
  intro n;induction n with
  |zero=>simp_all
  |succ n ih=>
   intro hn;obtain⟨c,h1⟩:=ih kQ1;obtain⟨y,hy,d,hf⟩:=h n kQ1;refine⟨c+d,λj hj=>?_⟩;by_cases a:j=n
   .subst a;exact⟨y,hy,gN (λ_ _ _ h=>h) _ _ _ _ kQ1 hf⟩
   obtain⟨z,hz,hf⟩:=h1 j kQ1;exact⟨z,hz,gN (λ_ _ _ h=>h) _ _ _ _ kQ1 hf⟩
 exact key row.length (akK _)
section
variable {P:Program} {g:G} {s:S} {a:Act} {w:World} {H:FH} {γ:Gam} {F:Nm->Fp}
theorem BL{F:Nm->Fp}{m:Mm}{n:Nm}{r:Root}(hk:ah m n=some r)(c:Nat):tot F (ci m n) c+F n c=tot F m c:=by induction m<;>grind [ah,ci,fD]
theorem aaS(h:RX g s a w H γ F)(n:Nm):∃H',RX g (s.frzB n) a w H' γ F:=by
 unfold S.frzB;split
 rotate_left
 .grind
 rename_i cells hr;split
 rotate_left
 .grind
 rename_i D;have L:=h.mem.roots _ (al hr)
 unfold cz at L;rw[if_pos rfl]at L;obtain⟨b,cs,ty,fz,f,e1,Q,Z,e4,P,V⟩:=L;dsimp only at e1 e4 P V;have hd:=um h n
 have K:(s.drop n).m=aP (bJ n) (ci s.m n):=rfl
 have I:∀c,tot F (aP (bJ n) (ci s.m n)) c+F n c=tot F s.m c:=λc=>by grind [bC,BL]
 let H':FH:=λk o=>if k=b then(w.cell? ⟨k,o,none⟩).map HV.c else H k o
 have W:F n b≠0:=by grind
 have C:tot F s.m b≠0:=by grind
 have J:∀k o y,H k o=some y->H' k o=some y:=by
  intro k o y hy;simp only[H'];split
  .rename_i e;subst e;rw[h.mem.nofz _ C o]at hy;cases hy
  omega
 have N:∀k o y,H' k o=some y->RdV w k o y:=by
  intro k o y hy;simp only[H']at hy;split at hy
  .obtain⟨z,hz,rfl⟩:=ak0.1 hy;exact hz
  exact h.mem.agree k o y hy
 have r:=hd.mem
 rw[K]at r;have O:Keeps w γ (aP (bJ n) (ci s.m n)) w γ (aP (bJ n) (ci s.m n)):=⟨λq hq=>⟨hq,rfl⟩,λq hq=>⟨hq,rfl⟩⟩
 have M:∀j,w.cell? ⟨b,j,none⟩=cs[j]? := λj=>by simp[World.cell?,Q]
 have G:∃m,BR H' m (cells.map T.toD) b 0:=by
  refine Cz (λj hj=>?_);rw[akT]at hj;have B:cells[j]? = some cells[j]:=akL hj
  obtain⟨v,q,v1,R,_⟩:=EF P B;have E:=akZ.1 D cells[j] (amF hj)
  refine⟨v,?_,?_⟩
  .grind
  rw[List.getD,akN,B];simp only[Option.map_some,amG];generalize cells[j]=t at R E;cases t with
  |d x=>exact fq J R.2
  |_=>grind [T.isD]
 refine⟨H',⟨?_,?_,h.nt,h.df,λi=>?_⟩⟩
 .refine⟨N,λx hx=>bm O J rfl (λ_ _=>rfl) (r.roots x hx),r.keys,r.le1,r.lt,λk hk o=>?_⟩;have u:k≠b:=by intro e;subst e;have h1:=I k;have h2:=h.mem.le1 k;grind
  simp only[H'];rw[if_neg u];exact r.nofz k hk o
 .refine⟨h.fr.size,h.fr.os,h.fr.tape,h.fr.output,h.fr.block,λk o y hy=>J _ _ _ (h.fr.hold k o y hy),λk o h1 h2=>?_,λk hk=>h.fr.tt k ?_,h.fr.nz.1,λk o x l c h1 h2=>?_⟩
  rotate_left 2
  .by_cases u:k=b
   .subst u;have e0:fz=(0,0):=Z.1
    subst e0;exact⟨_,_,Q⟩
   simp only[H']at h1;rw[if_neg u]at h1;exact h.fr.nz.2 k o x l c h1 h2
  .by_cases u:k=b
   .subst u;exact h.fr.tt k C
   simp only[H']at h1;rw[if_neg u]at h1;exact h.fr.hnew k o h1 h2
  grind
 show AR w H' γ _ (bB (u7 _ s.t) i) _
 rw[rv rfl];refine iF (λt y A=>?_) (h.t i);have hk:=λ(t:T) (A:TR w H γ s.m t (λ_=>0) y)=>qZ (fb (n:=n)) J (λ_ hb=>absurd rfl hb) A
 cases t with
 |pl p=>
  obtain⟨pn,Y,X⟩:=p;cases X with
  |nil=>
   simp only[T.frB];split
   .rename_i hc;subst hc;obtain⟨_,_,ad,U,hy⟩:=A;obtain⟨m,hm⟩:=G;have:ad=⟨b,Y,none⟩:=by grind [plA]
    subst this;exact⟨λ_=>rfl,b,0,m,by grind,hm⟩
   grind [bJ,T.kill]
  |cons st q=>exact hk _ A
 |_=>exact hk _ A
variable {Q:Exit->S->Prop}
end
def tI(k:IntKind)(n:Int):T:=.d (.int k n)
theorem ZS(k:IntKind)(n:Int):(tI k n).owned=false:=rfl
attribute [push_cast] Pl.at xL bU cC okO
attribute [push_cast high] ZS
attribute [push_cast] T.isD T.frB S.frzB u7 oM am1 am0 Nat.mul_one Nat.sub_zero T.toD List.replicate_succ List.replicate_zero
section
variable {P:Program} {cs:CT} {all:List Oper} {g:G} {Q:Exit->S->Prop}
end
end Go.Am
end

section
open Go Go.Am
namespace Lt
structure Var where
 Name:List UInt8
 Type_:List UInt8
 deriving Inhabited,DecidableEq
def Var.enc(x:Var):List D:=[.str x.Name,.str x.Type_]
def Var.dec:List D->Option Var
 |[.str v0,.str v1]=>some ⟨v0,v1⟩
 |_=>none
theorem Var.dec_inv:∀(l:List D)(x:Var),Var.dec l=some x->l=x.enc:=by
 intro l x h;unfold Var.dec at h;split at h
 .simp only[akJ]at h;subst h;rfl
 simp at h
def Var.rw:Rw Var:=⟨Var.enc,Var.dec,Var.dec_inv⟩
theorem Var.rows(l:List Var):(∀x∈l.map Var.enc,x.length=2)=True:=by simp[Var.enc]
attribute [push_cast] Var.enc Var.dec Var.rows
structure Class where
 Name:List UInt8
 Fields:List Var
 deriving Inhabited,DecidableEq
def Class.enc(x:Class):List D:=[.str x.Name,.li (x.Fields.map Var.enc)]
def Class.dec:List D->Option Class
 |[.str v0,.li v1]=>(dD Var.rw v1).bind λw1=>some ⟨v0,w1⟩
 |_=>none
theorem Class.dec_inv:∀(l:List D)(x:Class),Class.dec l=some x->l=x.enc:=by
 intro l x h;unfold Class.dec at h;split at h
 .simp only[ak4,akJ]at h;obtain⟨w1,hw1,rfl⟩:=h;rw[aB hw1];rfl
 simp at h
def Class.rw:Rw Class:=⟨Class.enc,Class.dec,Class.dec_inv⟩
theorem Class.rows(l:List Class):(∀x∈l.map Class.enc,x.length=2)=True:=by simp[Class.enc]
attribute [push_cast] Class.enc Class.dec Class.rows
structure Extern where
 Name:List UInt8
 N:Int
 deriving Inhabited,DecidableEq
def Extern.enc(x:Extern):List D:=[.str x.Name,.int .i64 x.N]
def Extern.dec:List D->Option Extern
 |[.str v0,.int .i64 v1]=>some ⟨v0,v1⟩
 |_=>none
theorem Extern.dec_inv:∀(l:List D)(x:Extern),Extern.dec l=some x->l=x.enc:=by
 intro l x h;unfold Extern.dec at h;split at h
 .simp only[akJ]at h;subst h;rfl
 simp at h
def Extern.rw:Rw Extern:=⟨Extern.enc,Extern.dec,Extern.dec_inv⟩
theorem Extern.rows(l:List Extern):(∀x∈l.map Extern.enc,x.length=2)=True:=by simp[Extern.enc]
attribute [push_cast] Extern.enc Extern.dec Extern.rows
structure Arg where
 Kind:Int
 S:List UInt8
 N:Int
 deriving Inhabited,DecidableEq
def Arg.enc(x:Arg):List D:=[.int .i64 x.Kind,.str x.S,.int .i64 x.N]
def Arg.dec:List D->Option Arg
 |[.int .i64 v0,.str v1,.int .i64 v2]=>some ⟨v0,v1,v2⟩
 |_=>none
theorem Arg.dec_inv:∀(l:List D)(x:Arg),Arg.dec l=some x->l=x.enc:=by
 intro l x h;unfold Arg.dec at h;split at h
 .simp only[akJ]at h;subst h;rfl
 simp at h
def Arg.rw:Rw Arg:=⟨Arg.enc,Arg.dec,Arg.dec_inv⟩
theorem Arg.rows(l:List Arg):(∀x∈l.map Arg.enc,x.length=3)=True:=by simp[Arg.enc]
attribute [push_cast] Arg.enc Arg.dec Arg.rows
structure In where
 Block:List UInt8
 A:Arg
 deriving Inhabited,DecidableEq
def In.enc(x:In):List D:=[.str x.Block,.int .i64 x.A.Kind,.str x.A.S,.int .i64 x.A.N]
def In.dec:List D->Option In
 |[.str v0,.int .i64 v1,.str v2,.int .i64 v3]=>some ⟨v0,⟨v1,v2,v3⟩⟩
 |_=>none
theorem In.dec_inv:∀(l:List D)(x:In),In.dec l=some x->l=x.enc:=by
 intro l x h;unfold In.dec at h;split at h
 .simp only[akJ]at h;subst h;rfl
 simp at h
def In.rw:Rw In:=⟨In.enc,In.dec,In.dec_inv⟩
theorem In.rows(l:List In):(∀x∈l.map In.enc,x.length=4)=True:=by simp[In.enc]
attribute [push_cast] In.enc In.dec In.rows
structure Phi where
 Dst:List UInt8
 Ins:List In
 deriving Inhabited,DecidableEq
def Phi.enc(x:Phi):List D:=[.str x.Dst,.li (x.Ins.map In.enc)]
def Phi.dec:List D->Option Phi
 |[.str v0,.li v1]=>(dD In.rw v1).bind λw1=>some ⟨v0,w1⟩
 |_=>none
theorem Phi.dec_inv:∀(l:List D)(x:Phi),Phi.dec l=some x->l=x.enc:=by
 intro l x h;unfold Phi.dec at h;split at h
 .simp only[ak4,akJ]at h;obtain⟨w1,hw1,rfl⟩:=h;rw[aB hw1];rfl
 simp at h
def Phi.rw:Rw Phi:=⟨Phi.enc,Phi.dec,Phi.dec_inv⟩
theorem Phi.rows(l:List Phi):(∀x∈l.map Phi.enc,x.length=2)=True:=by simp[Phi.enc]
attribute [push_cast] Phi.enc Phi.dec Phi.rows
structure Bind where
 Name:List UInt8
 A:Arg
 deriving Inhabited,DecidableEq
def Bind.enc(x:Bind):List D:=[.str x.Name,.int .i64 x.A.Kind,.str x.A.S,.int .i64 x.A.N]
def Bind.dec:List D->Option Bind
 |[.str v0,.int .i64 v1,.str v2,.int .i64 v3]=>some ⟨v0,⟨v1,v2,v3⟩⟩
 |_=>none
theorem Bind.dec_inv:∀(l:List D)(x:Bind),Bind.dec l=some x->l=x.enc:=by
 intro l x h;unfold Bind.dec at h;split at h
 .simp only[akJ]at h;subst h;rfl
 simp at h
def Bind.rw:Rw Bind:=⟨Bind.enc,Bind.dec,Bind.dec_inv⟩
theorem Bind.rows(l:List Bind):(∀x∈l.map Bind.enc,x.length=4)=True:=by simp[Bind.enc]
attribute [push_cast] Bind.enc Bind.dec Bind.rows
structure Frame where
 Func:List UInt8
 Block:List UInt8
 At:Int
 Vars:List Bind
 deriving Inhabited,DecidableEq
def Frame.enc(x:Frame):List D:=[.str x.Func,.str x.Block,.int .i64 x.At,.li (x.Vars.map Bind.enc)]
def Frame.dec:List D->Option Frame
 |[.str v0,.str v1,.int .i64 v2,.li v3]=>(dD Bind.rw v3).bind λw3=>some ⟨v0,v1,v2,w3⟩
 |_=>none
theorem Frame.dec_inv:∀(l:List D)(x:Frame),Frame.dec l=some x->l=x.enc:=by
 intro l x h;unfold Frame.dec at h;split at h
 .simp only[ak4,akJ]at h;obtain⟨w3,hw3,rfl⟩:=h;rw[aB hw3];rfl
 simp at h
def Frame.rw:Rw Frame:=⟨Frame.enc,Frame.dec,Frame.dec_inv⟩
theorem Frame.rows(l:List Frame):(∀x∈l.map Frame.enc,x.length=4)=True:=by simp[Frame.enc]
attribute [push_cast] Frame.enc Frame.dec Frame.rows
structure Virt where
 Class:List UInt8
 Vals:List Arg
 deriving Inhabited,DecidableEq
def Virt.enc(x:Virt):List D:=[.str x.Class,.li (x.Vals.map Arg.enc)]
def Virt.dec:List D->Option Virt
 |[.str v0,.li v1]=>(dD Arg.rw v1).bind λw1=>some ⟨v0,w1⟩
 |_=>none
theorem Virt.dec_inv:∀(l:List D)(x:Virt),Virt.dec l=some x->l=x.enc:=by
 intro l x h;unfold Virt.dec at h;split at h
 .simp only[ak4,akJ]at h;obtain⟨w1,hw1,rfl⟩:=h;rw[aB hw1];rfl
 simp at h
def Virt.rw:Rw Virt:=⟨Virt.enc,Virt.dec,Virt.dec_inv⟩
theorem Virt.rows(l:List Virt):(∀x∈l.map Virt.enc,x.length=2)=True:=by simp[Virt.enc]
attribute [push_cast] Virt.enc Virt.dec Virt.rows
structure Instr where
 Op:Int
 Dst:List UInt8
 Name:List UInt8
 Args:List Arg
 Frames:List Frame
 Objs:List Virt
 deriving Inhabited,DecidableEq
def Instr.enc(x:Instr):List D:=[.int .i64 x.Op,.str x.Dst,.str x.Name,.li (x.Args.map Arg.enc),.li (x.Frames.map Frame.enc),.li (x.Objs.map Virt.enc)]
def Instr.dec:List D->Option Instr
 |[.int .i64 v0,.str v1,.str v2,.li v3,.li v4,.li v5]=>(dD Arg.rw v3).bind λw3=>(dD Frame.rw v4).bind λw4=>(dD Virt.rw v5).bind λw5=>some ⟨v0,v1,v2,w3,w4,w5⟩
 |_=>none
theorem Instr.dec_inv:∀(l:List D)(x:Instr),Instr.dec l=some x->l=x.enc:=by
 intro l x h;unfold Instr.dec at h;split at h
 .simp only[ak4,akJ]at h;obtain⟨w3,hw3,w4,hw4,w5,hw5,rfl⟩:=h;rw[aB hw3,aB hw4,aB hw5];rfl
 simp at h
def Instr.rw:Rw Instr:=⟨Instr.enc,Instr.dec,Instr.dec_inv⟩
theorem Instr.rows(l:List Instr):(∀x∈l.map Instr.enc,x.length=6)=True:=by simp[Instr.enc]
attribute [push_cast] Instr.enc Instr.dec Instr.rows
structure Term where
 Kind:Int
 A:Arg
 To:List (List UInt8)
 N:Int
 deriving Inhabited,DecidableEq
def Term.enc(x:Term):List D:=[.int .i64 x.Kind,.int .i64 x.A.Kind,.str x.A.S,.int .i64 x.A.N,.li (x.To.map rS.enc),.int .i64 x.N]
def Term.dec:List D->Option Term
 |[.int .i64 v0,.int .i64 v1,.str v2,.int .i64 v3,.li v4,.int .i64 v5]=>(dD rS v4).bind λw4=>some ⟨v0,⟨v1,v2,v3⟩,w4,v5⟩
 |_=>none
theorem Term.dec_inv:∀(l:List D)(x:Term),Term.dec l=some x->l=x.enc:=by
 intro l x h;unfold Term.dec at h;split at h
 .simp only[ak4,akJ]at h;obtain⟨w4,hw4,rfl⟩:=h;rw[aB hw4];rfl
 simp at h
def Term.rw:Rw Term:=⟨Term.enc,Term.dec,Term.dec_inv⟩
theorem Term.rows(l:List Term):(∀x∈l.map Term.enc,x.length=6)=True:=by simp[Term.enc]
attribute [push_cast] Term.enc Term.dec Term.rows
structure Block where
 Name:List UInt8
 Phis:List Phi
 Code:List Instr
 End:Term
 deriving Inhabited,DecidableEq
def Block.enc(x:Block):List D:=[.str x.Name,.li (x.Phis.map Phi.enc),.li (x.Code.map Instr.enc),.int .i64 x.End.Kind,.int .i64 x.End.A.Kind,.str x.End.A.S,.int .i64 x.End.A.N,.li (x.End.To.map rS.enc),.int .i64 x.End.N]
def Block.dec:List D->Option Block
 |[.str v0,.li v1,.li v2,.int .i64 v3,.int .i64 v4,.str v5,.int .i64 v6,.li v7,.int .i64 v8]=>(dD Phi.rw v1).bind λw1=>(dD Instr.rw v2).bind λw2=>(dD rS v7).bind λw7=>some ⟨v0,w1,w2,⟨v3,⟨v4,v5,v6⟩,w7,v8⟩⟩
 |_=>none
theorem Block.dec_inv:∀(l:List D)(x:Block),Block.dec l=some x->l=x.enc:=by
 intro l x h;unfold Block.dec at h;split at h
 .simp only[ak4,akJ]at h;obtain⟨w1,hw1,w2,hw2,w7,hw7,rfl⟩:=h;rw[aB hw1,aB hw2,aB hw7];rfl
 simp at h
def Block.rw:Rw Block:=⟨Block.enc,Block.dec,Block.dec_inv⟩
theorem Block.rows(l:List Block):(∀x∈l.map Block.enc,x.length=9)=True:=by simp[Block.enc]
attribute [push_cast] Block.enc Block.dec Block.rows
structure Func where
 Name:List UInt8
 Result:List UInt8
 Params:List Var
 Vars:List Var
 Blocks:List Block
 deriving Inhabited,DecidableEq
def Func.enc(x:Func):List D:=[.str x.Name,.str x.Result,.li (x.Params.map Var.enc),.li (x.Vars.map Var.enc),.li (x.Blocks.map Block.enc)]
def Func.dec:List D->Option Func
 |[.str v0,.str v1,.li v2,.li v3,.li v4]=>(dD Var.rw v2).bind λw2=>(dD Var.rw v3).bind λw3=>(dD Block.rw v4).bind λw4=>some ⟨v0,v1,w2,w3,w4⟩
 |_=>none
theorem Func.dec_inv:∀(l:List D)(x:Func),Func.dec l=some x->l=x.enc:=by
 intro l x h;unfold Func.dec at h;split at h
 .simp only[ak4,akJ]at h;obtain⟨w2,hw2,w3,hw3,w4,hw4,rfl⟩:=h;rw[aB hw2,aB hw3,aB hw4];rfl
 simp at h
def Func.rw:Rw Func:=⟨Func.enc,Func.dec,Func.dec_inv⟩
theorem Func.rows(l:List Func):(∀x∈l.map Func.enc,x.length=5)=True:=by simp[Func.enc]
attribute [push_cast] Func.enc Func.dec Func.rows
structure Program where
 SSA:Bool
 Classes:List Class
 Globals:List Var
 Externs:List Extern
 Funcs:List Func
 deriving Inhabited,DecidableEq
def Program.enc(x:Program):List D:=[.bool x.SSA,.li (x.Classes.map Class.enc),.li (x.Globals.map Var.enc),.li (x.Externs.map Extern.enc),.li (x.Funcs.map Func.enc)]
def Program.dec:List D->Option Program
 |[.bool v0,.li v1,.li v2,.li v3,.li v4]=>(dD Class.rw v1).bind λw1=>(dD Var.rw v2).bind λw2=>(dD Extern.rw v3).bind λw3=>(dD Func.rw v4).bind λw4=>some ⟨v0,w1,w2,w3,w4⟩
 |_=>none
theorem Program.dec_inv:∀(l:List D)(x:Program),Program.dec l=some x->l=x.enc:=by
 intro l x h;unfold Program.dec at h;split at h
 .simp only[ak4,akJ]at h;obtain⟨w1,hw1,w2,hw2,w3,hw3,w4,hw4,rfl⟩:=h;rw[aB hw1,aB hw2,aB hw3,aB hw4];rfl
 simp at h
def Program.rw:Rw Program:=⟨Program.enc,Program.dec,Program.dec_inv⟩
theorem Program.rows(l:List Program):(∀x∈l.map Program.enc,x.length=5)=True:=by simp[Program.enc]
attribute [push_cast] Program.enc Program.dec Program.rows
structure Reader where
 p:Program
 at_:Int
 where_:Int
 first:Bool
 long:Int
 deriving Inhabited,DecidableEq
def Reader.enc(x:Reader):List D:=[.bool x.p.SSA,.li (x.p.Classes.map Class.enc),.li (x.p.Globals.map Var.enc),.li (x.p.Externs.map Extern.enc),.li (x.p.Funcs.map Func.enc),.int .i64 x.at_,.int .i64 x.where_,.bool x.first,.int .i64 x.long]
def Reader.dec:List D->Option Reader
 |[.bool v0,.li v1,.li v2,.li v3,.li v4,.int .i64 v5,.int .i64 v6,.bool v7,.int .i64 v8]=>(dD Class.rw v1).bind λw1=>(dD Var.rw v2).bind λw2=>(dD Extern.rw v3).bind λw3=>(dD Func.rw v4).bind λw4=>some ⟨⟨v0,w1,w2,w3,w4⟩,v5,v6,v7,v8⟩
 |_=>none
theorem Reader.dec_inv:∀(l:List D)(x:Reader),Reader.dec l=some x->l=x.enc:=by
 intro l x h;unfold Reader.dec at h;split at h
 .simp only[ak4,akJ]at h;obtain⟨w1,hw1,w2,hw2,w3,hw3,w4,hw4,rfl⟩:=h;rw[aB hw1,aB hw2,aB hw3,aB hw4];rfl
 simp at h
def Reader.rw:Rw Reader:=⟨Reader.enc,Reader.dec,Reader.dec_inv⟩
theorem Reader.rows(l:List Reader):(∀x∈l.map Reader.enc,x.length=9)=True:=by simp[Reader.enc]
attribute [push_cast] Reader.enc Reader.dec Reader.rows
structure Fault where
 e:Int
 deriving Inhabited,DecidableEq
def Fault.enc(x:Fault):List D:=[.int .i64 x.e]
def Fault.dec:List D->Option Fault
 |[.int .i64 v0]=>some ⟨v0⟩
 |_=>none
theorem Fault.dec_inv:∀(l:List D)(x:Fault),Fault.dec l=some x->l=x.enc:=by
 intro l x h;unfold Fault.dec at h;split at h
 .simp only[akJ]at h;subst h;rfl
 simp at h
def Fault.rw:Rw Fault:=⟨Fault.enc,Fault.dec,Fault.dec_inv⟩
theorem Fault.rows(l:List Fault):(∀x∈l.map Fault.enc,x.length=1)=True:=by simp[Fault.enc]
attribute [push_cast] Fault.enc Fault.dec Fault.rows
structure Line where
 N:Int
 Words:List (List UInt8)
 deriving Inhabited,DecidableEq
def Line.enc(x:Line):List D:=[.int .i64 x.N,.li (x.Words.map rS.enc)]
def Line.dec:List D->Option Line
 |[.int .i64 v0,.li v1]=>(dD rS v1).bind λw1=>some ⟨v0,w1⟩
 |_=>none
theorem Line.dec_inv:∀(l:List D)(x:Line),Line.dec l=some x->l=x.enc:=by
 intro l x h;unfold Line.dec at h;split at h
 .simp only[ak4,akJ]at h;obtain⟨w1,hw1,rfl⟩:=h;rw[aB hw1];rfl
 simp at h
def Line.rw:Rw Line:=⟨Line.enc,Line.dec,Line.dec_inv⟩
theorem Line.eta(x:Line):(⟨x.N,x.Words⟩:Line)=x:=rfl
theorem Line.rwe(x:Line):Line.rw.enc x=x.enc:=rfl
theorem Line.rwd(l:List D):Line.rw.dec l=Line.dec l:=rfl
theorem Line.rwm:Line.rw.enc=Line.enc:=rfl
theorem Line.rows(l:List Line):(∀x∈l.map Line.enc,x.length=2)=True:=by simp[Line.enc]
attribute [push_cast] Line.enc Line.dec Line.eta Line.rwe Line.rwd Line.rwm Line.rows
structure RForm where
 Word:List UInt8
 Dst:Bool
 Named:Bool
 Least:Int
 Most:Int
 deriving Inhabited,DecidableEq
def RForm.enc(x:RForm):List D:=[.str x.Word,.bool x.Dst,.bool x.Named,.int .i64 x.Least,.int .i64 x.Most]
def RForm.dec:List D->Option RForm
 |[.str v0,.bool v1,.bool v2,.int .i64 v3,.int .i64 v4]=>some ⟨v0,v1,v2,v3,v4⟩
 |_=>none
theorem RForm.dec_inv:∀(l:List D)(x:RForm),RForm.dec l=some x->l=x.enc:=by
 intro l x h;unfold RForm.dec at h;split at h
 .simp only[akJ]at h;subst h;rfl
 simp at h
def RForm.rw:Rw RForm:=⟨RForm.enc,RForm.dec,RForm.dec_inv⟩
theorem RForm.rows(l:List RForm):(∀x∈l.map RForm.enc,x.length=5)=True:=by simp[RForm.enc]
attribute [push_cast] RForm.enc RForm.dec RForm.rows
structure asked where
 p:Program
 i:Instr
 dst:List UInt8
 args:List (List UInt8)
 deriving Inhabited,DecidableEq
def asked.enc(x:asked):List D:=[.bool x.p.SSA,.li (x.p.Classes.map Class.enc),.li (x.p.Globals.map Var.enc),.li (x.p.Externs.map Extern.enc),.li (x.p.Funcs.map Func.enc),.int .i64 x.i.Op,.str x.i.Dst,.str x.i.Name,.li (x.i.Args.map Arg.enc),.li (x.i.Frames.map Frame.enc),.li (x.i.Objs.map Virt.enc),.str x.dst,.li (x.args.map rS.enc)]
def asked.dec:List D->Option asked
 |[.bool v0,.li v1,.li v2,.li v3,.li v4,.int .i64 v5,.str v6,.str v7,.li v8,.li v9,.li v10,.str v11,.li v12]=>(dD Class.rw v1).bind λw1=>(dD Var.rw v2).bind λw2=>(dD Extern.rw v3).bind λw3=>(dD Func.rw v4).bind λw4=>(dD Arg.rw v8).bind λw8=>(dD Frame.rw v9).bind λw9=>(dD Virt.rw v10).bind λw10=>(dD rS v12).bind λw12=>some ⟨⟨v0,w1,w2,w3,w4⟩,⟨v5,v6,v7,w8,w9,w10⟩,v11,w12⟩
 |_=>none
theorem asked.dec_inv:∀(l:List D)(x:asked),asked.dec l=some x->l=x.enc:=by
 intro l x h;unfold asked.dec at h;split at h
 .simp only[ak4,akJ]at h;obtain⟨w1,hw1,w2,hw2,w3,hw3,w4,hw4,w8,hw8,w9,hw9,w10,hw10,w12,hw12,rfl⟩:=h;rw[aB hw1,aB hw2,aB hw3,aB hw4,aB hw8,aB hw9,aB hw10,aB hw12];rfl
 simp at h
def asked.rw:Rw asked:=⟨asked.enc,asked.dec,asked.dec_inv⟩
theorem asked.rows(l:List asked):(∀x∈l.map asked.enc,x.length=13)=True:=by simp[asked.enc]
attribute [push_cast] asked.enc asked.dec asked.rows
structure Read where
 P:Program
 Where:Int
 Long:Int
 deriving Inhabited,DecidableEq
def Read.enc(x:Read):List D:=[.bool x.P.SSA,.li (x.P.Classes.map Class.enc),.li (x.P.Globals.map Var.enc),.li (x.P.Externs.map Extern.enc),.li (x.P.Funcs.map Func.enc),.int .i64 x.Where,.int .i64 x.Long]
def Read.dec:List D->Option Read
 |[.bool v0,.li v1,.li v2,.li v3,.li v4,.int .i64 v5,.int .i64 v6]=>(dD Class.rw v1).bind λw1=>(dD Var.rw v2).bind λw2=>(dD Extern.rw v3).bind λw3=>(dD Func.rw v4).bind λw4=>some ⟨⟨v0,w1,w2,w3,w4⟩,v5,v6⟩
 |_=>none
theorem Read.dec_inv:∀(l:List D)(x:Read),Read.dec l=some x->l=x.enc:=by
 intro l x h;unfold Read.dec at h;split at h
 .simp only[ak4,akJ]at h;obtain⟨w1,hw1,w2,hw2,w3,hw3,w4,hw4,rfl⟩:=h;rw[aB hw1,aB hw2,aB hw3,aB hw4];rfl
 simp at h
def Read.rw:Rw Read:=⟨Read.enc,Read.dec,Read.dec_inv⟩
theorem Read.rows(l:List Read):(∀x∈l.map Read.enc,x.length=7)=True:=by simp[Read.enc]
attribute [push_cast] Read.enc Read.dec Read.rows
structure RLine where
 N:Int
 Words:List (List UInt8)
 deriving Inhabited,DecidableEq
def RLine.enc(x:RLine):List D:=[.int .i64 x.N,.li (x.Words.map rS.enc)]
def RLine.dec:List D->Option RLine
 |[.int .i64 v0,.li v1]=>(dD rS v1).bind λw1=>some ⟨v0,w1⟩
 |_=>none
theorem RLine.dec_inv:∀(l:List D)(x:RLine),RLine.dec l=some x->l=x.enc:=by
 intro l x h;unfold RLine.dec at h;split at h
 .simp only[ak4,akJ]at h;obtain⟨w1,hw1,rfl⟩:=h;rw[aB hw1];rfl
 simp at h
def RLine.rw:Rw RLine:=⟨RLine.enc,RLine.dec,RLine.dec_inv⟩
theorem RLine.rows(l:List RLine):(∀x∈l.map RLine.enc,x.length=2)=True:=by simp[RLine.enc]
attribute [push_cast] RLine.enc RLine.dec RLine.rows
structure Form where
 Word:List UInt8
 Dst:Bool
 Named:Bool
 Least:Int
 Most:Int
 deriving Inhabited,DecidableEq
def Form.enc(x:Form):List D:=[.str x.Word,.bool x.Dst,.bool x.Named,.int .i64 x.Least,.int .i64 x.Most]
def Form.dec:List D->Option Form
 |[.str v0,.bool v1,.bool v2,.int .i64 v3,.int .i64 v4]=>some ⟨v0,v1,v2,v3,v4⟩
 |_=>none
theorem Form.dec_inv:∀(l:List D)(x:Form),Form.dec l=some x->l=x.enc:=by
 intro l x h;unfold Form.dec at h;split at h
 .simp only[akJ]at h;subst h;rfl
 simp at h
def Form.rw:Rw Form:=⟨Form.enc,Form.dec,Form.dec_inv⟩
theorem Form.rows(l:List Form):(∀x∈l.map Form.enc,x.length=5)=True:=by simp[Form.enc]
attribute [push_cast] Form.enc Form.dec Form.rows
structure step where
 at_:Int
 next:Int
 deriving Inhabited,DecidableEq
def step.enc(x:step):List D:=[.int .i64 x.at_,.int .i64 x.next]
def step.dec:List D->Option step
 |[.int .i64 v0,.int .i64 v1]=>some ⟨v0,v1⟩
 |_=>none
theorem step.dec_inv:∀(l:List D)(x:step),step.dec l=some x->l=x.enc:=by
 intro l x h;unfold step.dec at h;split at h
 .simp only[akJ]at h;subst h;rfl
 simp at h
def step.rw:Rw step:=⟨step.enc,step.dec,step.dec_inv⟩
theorem step.rows(l:List step):(∀x∈l.map step.enc,x.length=2)=True:=by simp[step.enc]
attribute [push_cast] step.enc step.dec step.rows
inductive Cap where
 |Program (x:Program)
 |Func (x:Func)
 deriving Inhabited,DecidableEq
def Cap.enc:Cap->List D
 |.Program x=>x.enc
 |.Func x=>x.enc
structure Clo where
 fn:Nat
 caps:List Cap
 deriving Inhabited,DecidableEq
structure Asked where
 holds:Clo
 e:Int
 deriving Inhabited,DecidableEq
def Asked.enc(x:Asked):List D:=[.fn x.holds.fn (x.holds.caps.map Cap.enc),.int .i64 x.e]
end Lt
end

section
namespace Go.Am
open Go
inductive Sn where
 |Var|Class|Extern|Arg|In|Phi|Bind|Frame|Virt|Instr|Term|Block|Func|Program|Asked|Reader|Fault|Line|RForm|asked|Read|RLine|Form|step
 deriving DecidableEq,Inhabited
inductive U where
 |i (k:IntKind)|b8|bo|s|sl (u:U)|mp (k v:U)|fn|st (n:Sn)
 deriving DecidableEq,Inhabited
abbrev af2:Sn->Type
 |.Var=>Lt.Var
 |.Class=>Lt.Class
 |.Extern=>Lt.Extern
 |.Arg=>Lt.Arg
 |.In=>Lt.In
 |.Phi=>Lt.Phi
 |.Bind=>Lt.Bind
 |.Frame=>Lt.Frame
 |.Virt=>Lt.Virt
 |.Instr=>Lt.Instr
 |.Term=>Lt.Term
 |.Block=>Lt.Block
 |.Func=>Lt.Func
 |.Program=>Lt.Program
 |.Asked=>Lt.Asked
 |.Reader=>Lt.Reader
 |.Fault=>Lt.Fault
 |.Line=>Lt.Line
 |.RForm=>Lt.RForm
 |.asked=>Lt.asked
 |.Read=>Lt.Read
 |.RLine=>Lt.RLine
 |.Form=>Lt.Form
 |.step=>Lt.step
abbrev El:U->Type
 |.i _=>Int
 |.b8=>UInt8
 |.bo=>Bool
 |.s=>List UInt8
 |.sl u=>List (El u)
 |.mp k v=>Option (List (El k×El v))
 |.fn=>Lt.Clo
 |.st n=>af2 n
abbrev Fl:List U->Type
 |[]=>Unit
 |[u]=>El u
 |u::v::r=>El u×Fl (v::r)
def Fl.cons:(u:U)->(us:List U)->El u->Fl us->Fl (u::us)
 |_,[],x,_=>x
 |_,_::_,x,y=>(x,y)
def Fl.hd:(u:U)->(us:List U)->Fl (u::us)->El u
 |_,[],x=>x
 |_,_::_,x=>x.1
def Fl.tl:(u:U)->(us:List U)->Fl (u::us)->Fl us
 |_,[],_=>()
 |_,_::_,x=>x.2
structure SD (α:Type) where
 fs:List U
 mkF:Fl fs->α
 un:α->Fl fs
 l1:∀x,mkF (un x)=x
 l2:∀y,un (mkF y)=y
 enc:α->List D
 df:α
def sd:(n:Sn)->SD (af2 n)
 |.Var=>⟨[.s,.s],λx=>⟨x.1,x.2⟩,λx=>(x.Name,x.Type_),λ_=>rfl,λ_=>rfl,Lt.Var.enc,default⟩
 |.Class=>⟨[.s,(.sl (.st .Var))],λx=>⟨x.1,x.2⟩,λx=>(x.Name,x.Fields),λ_=>rfl,λ_=>rfl,Lt.Class.enc,default⟩
 |.Extern=>⟨[.s,.i .i64],λx=>⟨x.1,x.2⟩,λx=>(x.Name,x.N),λ_=>rfl,λ_=>rfl,Lt.Extern.enc,default⟩
 |.Arg=>⟨[.i .i64,.s,.i .i64],λx=>⟨x.1,x.2.1,x.2.2⟩,λx=>(x.Kind,x.S,x.N),λ_=>rfl,λ_=>rfl,Lt.Arg.enc,default⟩
 |.In=>⟨[.s,.i .i64,.s,.i .i64],λx=>⟨x.1,⟨x.2.1,x.2.2.1,x.2.2.2⟩⟩,λx=>(x.Block,x.A.Kind,x.A.S,x.A.N),λ_=>rfl,λ_=>rfl,Lt.In.enc,default⟩
 |.Phi=>⟨[.s,(.sl (.st .In))],λx=>⟨x.1,x.2⟩,λx=>(x.Dst,x.Ins),λ_=>rfl,λ_=>rfl,Lt.Phi.enc,default⟩
 |.Bind=>⟨[.s,.i .i64,.s,.i .i64],λx=>⟨x.1,⟨x.2.1,x.2.2.1,x.2.2.2⟩⟩,λx=>(x.Name,x.A.Kind,x.A.S,x.A.N),λ_=>rfl,λ_=>rfl,Lt.Bind.enc,default⟩
 |.Frame=>⟨[.s,.s,.i .i64,(.sl (.st .Bind))],λx=>⟨x.1,x.2.1,x.2.2.1,x.2.2.2⟩,λx=>(x.Func,x.Block,x.At,x.Vars),λ_=>rfl,λ_=>rfl,Lt.Frame.enc,default⟩
 |.Virt=>⟨[.s,(.sl (.st .Arg))],λx=>⟨x.1,x.2⟩,λx=>(x.Class,x.Vals),λ_=>rfl,λ_=>rfl,Lt.Virt.enc,default⟩
 |.Instr=>⟨[.i .i64,.s,.s,(.sl (.st .Arg)),(.sl (.st .Frame)),(.sl (.st .Virt))],λx=>⟨x.1,x.2.1,x.2.2.1,x.2.2.2.1,x.2.2.2.2.1,x.2.2.2.2.2⟩,λx=>(x.Op,x.Dst,x.Name,x.Args,x.Frames,x.Objs),λ_=>rfl,λ_=>rfl,Lt.Instr.enc,default⟩
 |.Term=>⟨[.i .i64,.i .i64,.s,.i .i64,.sl .s,.i .i64],λx=>⟨x.1,⟨x.2.1,x.2.2.1,x.2.2.2.1⟩,x.2.2.2.2.1,x.2.2.2.2.2⟩,λx=>(x.Kind,x.A.Kind,x.A.S,x.A.N,x.To,x.N),λ_=>rfl,λ_=>rfl,Lt.Term.enc,default⟩
 |.Block=>⟨[.s,(.sl (.st .Phi)),(.sl (.st .Instr)),.i .i64,.i .i64,.s,.i .i64,.sl .s,.i .i64],λx=>⟨x.1,x.2.1,x.2.2.1,⟨x.2.2.2.1,⟨x.2.2.2.2.1,x.2.2.2.2.2.1,x.2.2.2.2.2.2.1⟩,x.2.2.2.2.2.2.2.1,x.2.2.2.2.2.2.2.2⟩⟩,λx=>(x.Name,x.Phis,x.Code,x.End.Kind,x.End.A.Kind,x.End.A.S,x.End.A.N,x.End.To,x.End.N),λ_=>rfl,λ_=>rfl,Lt.Block.enc,default⟩
 |.Func=>⟨[.s,.s,(.sl (.st .Var)),(.sl (.st .Var)),(.sl (.st .Block))],λx=>⟨x.1,x.2.1,x.2.2.1,x.2.2.2.1,x.2.2.2.2⟩,λx=>(x.Name,x.Result,x.Params,x.Vars,x.Blocks),λ_=>rfl,λ_=>rfl,Lt.Func.enc,default⟩
 |.Program=>⟨[.bo,(.sl (.st .Class)),(.sl (.st .Var)),(.sl (.st .Extern)),(.sl (.st .Func))],λx=>⟨x.1,x.2.1,x.2.2.1,x.2.2.2.1,x.2.2.2.2⟩,λx=>(x.SSA,x.Classes,x.Globals,x.Externs,x.Funcs),λ_=>rfl,λ_=>rfl,Lt.Program.enc,default⟩
 |.Asked=>⟨[.fn,.i .i64],λx=>⟨x.1,x.2⟩,λx=>(x.holds,x.e),λ_=>rfl,λ_=>rfl,Lt.Asked.enc,default⟩
 |.Reader=>⟨[.bo,(.sl (.st .Class)),(.sl (.st .Var)),(.sl (.st .Extern)),(.sl (.st .Func)),.i .i64,.i .i64,.bo,.i .i64],λx=>⟨⟨x.1,x.2.1,x.2.2.1,x.2.2.2.1,x.2.2.2.2.1⟩,x.2.2.2.2.2.1,x.2.2.2.2.2.2.1,x.2.2.2.2.2.2.2.1,x.2.2.2.2.2.2.2.2⟩,λx=>(x.p.SSA,x.p.Classes,x.p.Globals,x.p.Externs,x.p.Funcs,x.at_,x.where_,x.first,x.long),λ_=>rfl,λ_=>rfl,Lt.Reader.enc,default⟩
 |.Fault=>⟨[.i .i64],λx=>⟨x⟩,λx=>x.e,λ_=>rfl,λ_=>rfl,Lt.Fault.enc,default⟩
 |.Line=>⟨[.i .i64,.sl .s],λx=>⟨x.1,x.2⟩,λx=>(x.N,x.Words),λ_=>rfl,λ_=>rfl,Lt.Line.enc,default⟩
 |.RForm=>⟨[.s,.bo,.bo,.i .i64,.i .i64],λx=>⟨x.1,x.2.1,x.2.2.1,x.2.2.2.1,x.2.2.2.2⟩,λx=>(x.Word,x.Dst,x.Named,x.Least,x.Most),λ_=>rfl,λ_=>rfl,Lt.RForm.enc,default⟩
 |.asked=>⟨[.bo,(.sl (.st .Class)),(.sl (.st .Var)),(.sl (.st .Extern)),(.sl (.st .Func)),.i .i64,.s,.s,(.sl (.st .Arg)),(.sl (.st .Frame)),(.sl (.st .Virt)),.s,.sl .s],λx=>⟨⟨x.1,x.2.1,x.2.2.1,x.2.2.2.1,x.2.2.2.2.1⟩,⟨x.2.2.2.2.2.1,x.2.2.2.2.2.2.1,x.2.2.2.2.2.2.2.1,x.2.2.2.2.2.2.2.2.1,x.2.2.2.2.2.2.2.2.2.1,x.2.2.2.2.2.2.2.2.2.2.1⟩,x.2.2.2.2.2.2.2.2.2.2.2.1,x.2.2.2.2.2.2.2.2.2.2.2.2⟩,λx=>(x.p.SSA,x.p.Classes,x.p.Globals,x.p.Externs,x.p.Funcs,x.i.Op,x.i.Dst,x.i.Name,x.i.Args,x.i.Frames,x.i.Objs,x.dst,x.args),λ_=>rfl,λ_=>rfl,Lt.asked.enc,default⟩
 |.Read=>⟨[.bo,(.sl (.st .Class)),(.sl (.st .Var)),(.sl (.st .Extern)),(.sl (.st .Func)),.i .i64,.i .i64],λx=>⟨⟨x.1,x.2.1,x.2.2.1,x.2.2.2.1,x.2.2.2.2.1⟩,x.2.2.2.2.2.1,x.2.2.2.2.2.2⟩,λx=>(x.P.SSA,x.P.Classes,x.P.Globals,x.P.Externs,x.P.Funcs,x.Where,x.Long),λ_=>rfl,λ_=>rfl,Lt.Read.enc,default⟩
 |.RLine=>⟨[.i .i64,.sl .s],λx=>⟨x.1,x.2⟩,λx=>(x.N,x.Words),λ_=>rfl,λ_=>rfl,Lt.RLine.enc,default⟩
 |.Form=>⟨[.s,.bo,.bo,.i .i64,.i .i64],λx=>⟨x.1,x.2.1,x.2.2.1,x.2.2.2.1,x.2.2.2.2⟩,λx=>(x.Word,x.Dst,x.Named,x.Least,x.Most),λ_=>rfl,λ_=>rfl,Lt.Form.enc,default⟩
 |.step=>⟨[.i .i64,.i .i64],λx=>⟨x.1,x.2⟩,λx=>(x.at_,x.next),λ_=>rfl,λ_=>rfl,Lt.step.enc,default⟩
def EP:Lt.Cap->(u:U)×El u
 |.Program x=>⟨.st .Program,x⟩
 |.Func x=>⟨.st .Func,x⟩
def agV:(u:U)->El u->Option Lt.Cap
 |.st .Program,x=>some (.Program x)
 |.st .Func,x=>some (.Func x)
 |_,_=>none
def aj6:List U:=[.st .Program,.st .Func]
end Go.Am
end

section
namespace Go.Am
open Go.MapKept
def nD:D->D->Bool
 |.int k a,.int k' b=>decide (k=k')&&decide (a=b)
 |.bool a,.bool b=>a==b
 |.str a,.str b=>decide (a=b)
 |_,_=>false
def j8:TK->D->Bool
 |.int k,.int k' _=>decide (k'=k)
 |.bool,.bool _=>true
 |.str,.str _=>true
 |_,_=>false
def pI:List (D×Sh×D)->D->Option (Sh×D)
 |[],_=>none
 |x::l,k=>match nD x.1 k with
  |true=>some x.2
  |false=>pI l k
def lw:List (D×Sh×D)->D->Sh×D->List (D×Sh×D)
 |[],k,v=>[(k,v)]
 |x::l,k,v=>match nD x.1 k with
  |true=>(k,v)::l
  |false=>x::lw l k v
def ES:List (D×Sh×D)->D->List (D×Sh×D)
 |[],_=>[]
 |x::l,k=>match nD x.1 k with
  |true=>l
  |false=>x::ES l k
variable{d:TypeDesc}{k:D}{v:Value}
theorem nA{P:Program}{k':D}{b:Value}{H:FH}(hk:j8 (gJ P d) k=true)(a:j8 (gJ P d) k'=true)(h:FDx H k v)(h':FDx H k' b):IsKey d v/\(nD k k'=true ↔ v=b):=by
 cases d<;>simp only[gJ]at hk a<;>cases k<;>simp only[j8]at hk<;>(first|(cases hk;done)|skip)<;>cases k'<;>simp only[j8]at a<;>(first|(cases a;done)|skip)
 .obtain rfl:=jH h;obtain rfl:=jH h';exact⟨trivial,by simp[nD]⟩
 .obtain⟨rfl,_⟩:=fX h;obtain⟨rfl,_⟩:=fX h';simp only[decide_eq_true_eq]at hk a;subst hk;exact⟨rfl,by simp[nD]⟩
 obtain⟨rfl,_⟩:=iH h;obtain⟨rfl,_⟩:=iH h';exact⟨trivial,by simp[nD]⟩
theorem oU{κ:TK}(h:j8 κ k=true):k.isKey=true:=by cases κ<;>cases k<;>first|rfl|cases h
variable{kv:Value}
theorem yz{P:Program}{w:World}{H:FH}(hk:j8 (gJ P d) k=true)(a:FDx H k kv):∀(l:List (D×Sh×D))(es:List MapEntry)(i:Nat)(f:Fp),MpO w H l es f->(l.all λx=>j8 (gJ P d) x.1)=true ->
  (pI l k=none/\ES l k=l/\Instr.findNow d kv es i=some none/\(∀e∈es,e.key≠kv)/\∀w' v vv b n(fv:Fp),(∀b,f b≠0->w'.heap[b]? = w.heap[b]?)->OD w' H n v.1 v.2 fv vv->MpO w' H (lw l k v) (es++[⟨kv,vv,b⟩]) (λb=>fv b+f b)) \/
  ∃j x e n,∃f1 c:Fp,pI l k=some x/\Instr.findNow d kv es i=some (some (i+j,e.val))/\OD w H n x.1 x.2 f1 e.val/\(∀b,f b=f1 b+c b)/\es[j]? = some e/\e.key=kv /\
   (∀w' v vv n(fv:Fp),(∀b,c b≠0->w'.heap[b]? = w.heap[b]?)->OD w' H n v.1 v.2 fv vv->MpO w' H (lw l k v) (es.set j { e with key:=kv,val:=vv }) (λb=>fv b+c b))/\MpO w H (ES l k) (es.eraseIdx j) c
 |[],[],i,f,h,_=>.inl ⟨rfl,rfl,rfl,by simp,λw' v vv b n fv hw h'=>⟨⟨oU hk,a⟩,fv,f,n,λ_=>rfl,h',h⟩⟩
 |x::l,e::es,i,f,h,m=>by
  simp only[akW,akI]at m;obtain⟨⟨h1,h2⟩,g1,g2,n,h3,h4,hr⟩:=h;obtain⟨p,q2⟩:=nA (P:=P) m.1 hk h2 a;obtain⟨u,_⟩:=nA (P:=P) hk hk a a;obtain⟨r,s,z⟩:=sameNow_of_keys u p;cases r with
  |true=>
   have g:=z.1 rfl
   have hq:=q2.2 g.symm
   refine .inr ⟨0,x.2,e,n,g1,g2,by grind [pI],by simp[Instr.findNow,s],h4,h3,rfl,g.symm,λw' v vv n fv hw hv=>?_,?_⟩
   .simp only[lw,hq];exact⟨⟨oU hk,a⟩,fv,g2,n,λ_=>rfl,hv,kJ (λ_ _ _ h=>h) hw hr⟩
   grind [ES]
  |false=>
   have t:kv≠e.key:=λq=>by grind
   have hq:nD x.1 k=false:=by grind
   rcases yz hk a l es (i+1) g2 hr m.2 with⟨k1,k0,k2,k3,k4⟩|⟨j,x',e',n',f1,c,k1,k2,k3,k4,k5,k6,k7,k8⟩
   .refine .inl ⟨by grind [pI],by grind [ES],by grind [Instr.findNow],λy hy=>?_,λw' v vv b n' fv hw hv=>?_⟩
    .grind
    simp only[lw,hq];exact⟨⟨h1,h2⟩,g1,λb=>fv b+g2 b,n,λb=>by grind,cZ (λ_ _ _ h=>h) n n _ _ _ _ (akK _) (λb hb=>hw b (by grind)) h4,k4 w' v vv b n' fv (λb hb=>hw b (by grind)) hv⟩
   refine .inr ⟨j+1,x',e',n',f1,λb=>g1 b+c b,by grind [pI],by grind [Instr.findNow],k3,λb=>by grind,by grind,k6,λw' v vv o fv hw hv=>?_,?_⟩
   .simp only[lw,hq];exact⟨⟨h1,h2⟩,g1,λb=>fv b+c b,n,λb=>by grind,cZ (λ_ _ _ h=>h) n n _ _ _ _ (akK _) (λb hb=>hw b (by grind)) h4,k7 w' v vv o fv (λb hb=>hw b (by grind)) hv⟩
   simp only[ES,hq];exact⟨⟨h1,h2⟩,g1,c,n,λ_=>rfl,h4,k8⟩
 |[],_::_,_,_,h,_=>h.elim
 |_::_,[],_,_,h,_=>h.elim
variable{b ck:Nat}{es:Array MapEntry}{et kt mt:TypeId}{f:Fp}{l:List (D×Sh×D)}
section
variable {P:Program} {w:World} {H:FH}
theorem N7{j:Nat}{e:MapEntry}(h:es[j]? = some e)(f:MapEntry->MapEntry):(es.modify j f).toList=es.toList.set j (f e):=by
 apply alP
 grind
theorem Bu{vv:Value}(hm:P.underlying mt=some (.map kt et))(hd:P.underlying kt=some d)(hb:w.heap[b]? = some (.map es ck))(hs:Stamped es ck)
  (hl:MpO w H l es.toList f) (o:f b=0) (r:(l.all λx=>j8 (gJ P d) x.1)=true) (hk:j8 (gJ P d) k=true) (g:FDx H k kv) {v:Sh×D} {n:Nat} {fv:Fp} (p:fv b=0) (hv:OD w H n v.1 v.2 fv vv) :
  ∃es' ck',∃i:Fp,(Instr.mapUpdate mt (.map (some b)) kv vv).run P w=.ok () { w with heap:=w.heap.setIfInBounds b (.map es' ck') }/\Stamped es' ck'/\(∀c,i c<=f c)/\MpO { w with heap:=w.heap.setIfInBounds b (.map es' ck') } H (lw l k v) es'.toList (λc=>fv c+i c):=by
 have a:=(nA (P:=P) hk hk g g).1
 have m:∀es' ck' c,c≠b->({ w with heap:=w.heap.setIfInBounds b (.map es' ck') }:World).heap[c]? = w.heap[c]? := λes' ck' c hc=>(heap_set hb).2 c hc
 have s:∀es' ck',OD { w with heap:=w.heap.setIfInBounds b (.map es' ck') } H n v.1 v.2 fv vv:=λes' ck'=>cZ (λ_ _ _ h=>h) n n _ _ _ _ (akK _) (λc hc=>m es' ck' c (λe=>by grind)) hv
 rcases yz hk g l es.toList 0 f hl r with⟨_,_,g2,g3,g4⟩|⟨j,x,e,n',f1,i,_,g2,_,g3,g4,g5,g6,_⟩
 .refine⟨es.push ⟨kv,vv,ck⟩,ck+1,f,?_,stamped_push hs g3,λ_=>akK _,?_⟩
  .simp[Instr.mapUpdate,run_underlying hm,MapKept.run_getObj_map hb,run_checkKey hd a,run_findKey hd g2,run_setObj_map _ hb]
  grind
 have hj:es[j]? = some e:=by grind
 refine⟨es.modify j λe=>{ e with key:=kv,val:=vv },ck,i,?_,stamped_modify hs _ _ (λ_ _=>rfl) (λe' _ q=>by grind),λc=>by grind,?_⟩
 .simp[Instr.mapUpdate,run_underlying hm,MapKept.run_getObj_map hb,run_checkKey hd a,run_findKey hd g2,hj,g5,run_keyThatStays a,run_setObj_map _ hb]
 grind [N7]
theorem OK{ty:TypeId}(hm:P.underlying mt=some (.map kt et))(hd:P.underlying kt=some d)(hb:w.heap[b]? = some (.map es ck))(hs:Stamped es ck)
  (hl:MpO w H l es.toList f) (s:f b=0) (t:(l.all λx=>j8 (gJ P d) x.1)=true) (hk:j8 (gJ P d) k=true) (i:FDx H k kv) (o:Array TypeId) (r:o[0]? = some mt) :
  ∃es',∃a:Fp,(Builtin.delete_ o ty #[.map (some b),kv]).run P w=.ok (.tuple #[]) { w with heap:=w.heap.setIfInBounds b (.map es' ck) }/\Stamped es' ck/\(∀c,a c<=f c)/\MpO { w with heap:=w.heap.setIfInBounds b (.map es' ck) } H (ES l k) es'.toList a:=by
 have g:=(nA (P:=P) hk hk i i).1
 have m:∀es'(a:Fp),(∀c,a c<=f c)->∀{l':List (D×Sh×D)}{q:List MapEntry},MpO w H l' q a->MpO { w with heap:=w.heap.setIfInBounds b (.map es' ck) } H l' q a:=λes' a u _ _ h=>kJ (λ_ _ _ h=>h) (λc hc=>(heap_set hb).2 c (λe=>by grind)) h
 rcases yz hk i l es.toList 0 f hl t with⟨_,g1,g2,_,_⟩|⟨j,x,e,n',f1,a,_,g2,_,g3,g4,_,_,g5⟩
 .refine⟨es,f,?_,hs,λ_=>akK _,m _ _ (λ_=>akK _) (by grind)⟩;simp[Builtin.delete_,r,run_underlying hm,MapKept.run_getObj_map hb,run_checkKey hd g,run_findKey hd g2,run_setObj_map _ hb]
 have p:∀c,a c<=f c:=λc=>by grind
 refine⟨es.eraseIdxIfInBounds j,a,?_,stamped_erase hs j,p,m _ _ p ?_⟩
 .simp[Builtin.delete_,r,run_underlying hm,MapKept.run_getObj_map hb,run_checkKey hd g,run_findKey hd g2,run_setObj_map _ hb]
 simp_all
theorem tR{z:Value}(hm:P.underlying mt=some (.map kt et))(hd:P.underlying kt=some d)(hb:w.heap[b]? = some (.map es ck))
  (hl:MpO w H l es.toList f) (q:(l.all λx=>j8 (gJ P d) x.1)=true) (hk:j8 (gJ P d) k=true) (m:FDx H k kv) (hz:(zeroValue et).run P w=.ok z w) (ok:Bool) :
  ∃v,(Instr.lookup mt (.map (some b)) kv ok).run P w=.ok (if ok then .tuple #[v,.bool (pI l k).isSome]else v) w /\
   (match pI l k with|some x=>∃n,∃f1 p:Fp,OD w H n x.1 x.2 f1 v/\(∀c,f c=f1 c+p c)/\MpO w H (lw l k (x.1,.any)) es.toList p|none=>v=z/\MpO w H l es.toList f):=by
 have g:=(nA (P:=P) hk hk m m).1
 rcases yz hk m l es.toList 0 f hl q with⟨g1,_,g2,_,_⟩|⟨j,x,e,n,f1,p,g1,g2,g3,g4,g5,g6,g7,_⟩
 .refine⟨z,?_,by grind⟩;rw[g1];simp[Instr.lookup,run_underlying hm,MapKept.run_getObj_map hb,run_checkKey hd g,run_findKey hd g2,hz]
 refine⟨e.val,?_,?_⟩
 .rw[g1];simp[Instr.lookup,run_underlying hm,MapKept.run_getObj_map hb,run_checkKey hd g,run_findKey hd g2]
 have o:OD w H (n+1) x.1 .any (λ_=>0) e.val:=by
  cases x.1 with
  |fr=>exact gr.2 ⟨λ_=>rfl,0,trivial⟩
  |ow sub=>exact λ_=>rfl
 have h:=g7 w (x.1,.any) e.val (n+1) (λ_=>0) (λ_ _=>rfl) o
 have r:es.toList.set j { e with key:=kv,val:=e.val }=es.toList:=by
  refine alP λi=>?_
  rw[List.getElem?_set];split
  .split
   .obtain⟨a,b,c⟩:=e;grind
   grind
  rfl
 grind
end
variable{f':Fp}{n:Nm}
theorem LB{F:Nm->Fp}:∀{m:Mm},n ∉ m.map (·.1)->∀c,tot (upd F n f') m c=tot F m c
 |[],_,_=>rfl
 |x::m,h,c=>by simp only[akM,akU,not_or]at h;simp only[tot];rw[mR (λe=>h.1 e.symm),LB h.2]
theorem BM{F:Nm->Fp}{f':Fp}:∀{m:Mm}{r:Root},ah m n=some r->(m.map (·.1)).Nodup->∀c,tot (upd F n f') m c+F n c=tot F m c+f' c
 |[],_,h,_,_=>by simp[ah]at h
 |(k,x)::m,r,h,hk,c=>by
  simp only[akM,al2]at hk;simp only[tot];by_cases e:k=n
  .subst e;rw[eQ,LB hk.1];omega
  simp only[ah]at h;rw[if_neg e]at h;rw[mR e];have:=BM h hk.2 c (F:=F) (f':=f')
  omega
def T.gh:T->Bool
 |.mp _=>true
 |.it _ _=>true
 |_=>false
variable{p:List Step}{t:T}
theorem Oa(h:t.gh=true){off:Nat}(hc:bf [t] off p):p=[]:=by cases p<;>grind [bf,T.gh]
theorem FK(h:t.gh=true){off:Nat}(hc:bO [t] off p):off=0/\p=[]:=by
 unfold bO at hc
 grind [T.gh]
theorem acP(h:t.gh=true):bO [t] 0 []:=by cases t<;>first|trivial|(simp[T.gh]at h)
variable{H':FH}{ck':Nat}{es':Array MapEntry}{l':List (D×Sh×D)}{w':World}
section
variable {P:Program} {g:G} {s:S} {a:Act} {w:World} {H:FH} {γ:Gam} {F:Nm->Fp}
theorem Wn(h:RX g s a w H γ F){t':T}(I:t.gh=true)(R:t'.gh=true)(hr:ah s.m n=some ⟨false,[t]⟩)(j:γ n=.gh v)
  (hT:TR w' H' γ s.m t' f' v) (Q:∀c,tot F s.m c+f' c<=F n c+1) (N:∀c,f' c≠0->c<w.heap.size/\(∀o,H' c o=none)/\(g.own0 c≠0\/g.w0.heap.size<=c))
  (p:w'.heap.size=w.heap.size) (W:w'.os=w.os) (V:w'.tape=w.tape) (J:w'.output=w.output)
  (hb:∀c,F n c=0->w'.heap[c]? = w.heap[c]?) (B:∀b o y,H b o=some y->H' b o=some y) (C:∀b o y,H' b o=some y->RdV w' b o y)
  (hnew:∀b o,H' b o≠none->H b o=none->F n b≠0/\f' b=0)
  (G:(∀b,Thawed w b->Thawed w' b)/\∀b o x l c,H' b o=some (.c (.slice x l c))->H b o=none->Thawed w' b) :
  RX g ⟨s.t,cY s.m n ⟨false,[t']⟩⟩ a w' H' γ (upd F n f'):=by
 have M:∀k,ah (cY s.m n ⟨false,[t']⟩) k=if n=k then some ⟨false,[t']⟩else ah s.m k:=λk=>gj hr
 have L:Keeps w γ s.m w' γ (cY s.m n ⟨false,[t']⟩):=by
  have fr:∀q,cq s.m q->q.root≠n->plA w' γ q=plA w γ q/\plV w' γ q=plV w γ q:=λq hq E=>wU h.mem hq (λc hc=>hb c (by
   obtain⟨O,h1,_⟩:=ay.1 hq;have:=vQ (F:=F) (al hr) (al h1) (λe=>E e.symm) c
   have:=h.mem.le1 c
   grind))
  constructor
  .grind [ay,Oa,bf,plA]
  intro q hq;by_cases e:q.root=n
  .obtain⟨O,h1,h2⟩:=cr.1 hq;rw[e,hr]at h1;obtain rfl:=Option.some.inj h1;obtain⟨ho,hp⟩:=FK I h2;refine⟨?_,?_⟩
   .grind [cr,acP]
   unfold plV;rw[hp,e,j];rfl
  grind [cr,fP]
 have u:∀c,tot (upd F n f') (⟨s.t,cY s.m n ⟨false,[t']⟩⟩:S).m c+F n c=tot F s.m c+f' c:=λc=>by rw[dT];exact BM hr h.mem.keys c
 have U:∀c,F n c<=tot F s.m c:=λc=>bV (F:=F) (al hr) c
 refine⟨⟨C,λx hx=>?_,by rw[nE];exact h.mem.keys,λc=>by grind,λc hc=>?_,λc hc o=>?_⟩,?_,h.nt,h.df,λi=>dK L B (h.t i)⟩
 .rcases qm h.mem.keys hx with⟨hn,hx⟩|rfl
  .rw[mR hn];exact bm L B rfl (λc hc=>hb c (by
    have:=vQ (F:=F) (al hr) hx (λe=>hn e.symm) c
    have:=h.mem.le1 c
    grind)) (h.mem.roots x hx)
  refine⟨v,_,j,rfl,?_⟩;rw[eQ];cases t'<;>first|exact hT|grind [T.gh]
 .rw[p];by_cases hf:f' c=0
  .exact h.mem.lt c (by grind)
  grind
 .cases P:H' c o with
  |none=>rfl
  |some y=>
   by_cases hf:f' c=0
   .cases D:H c o with
    |some z=>
     have:tot F s.m c=0:=by
      rcases alI (tot F s.m c)with h'|h'
      .exact h'
      have:=h.mem.nofz c kQ1 o;grind
     grind
    |none=>
     have h3:=(hnew c o (by grind) D).1
     have:=u c;have:=h.mem.le1 c;omega
   grind
 have d:=h.fr
 have K:∀c,F n c≠0->g.own0 c≠0\/g.w0.heap.size<=c:=λc hc=>d.tt c (by grind)
 refine⟨by rw[p];exact d.size,by grind [Fr.os],by grind [Fr.tape],by grind [Fr.output],λk hk h0=>?_,λb o y hy=>B _ _ _ (d.hold b o y hy),λb o h1 h2=>?_,λb A=>?_,λb A=>G.1 b (d.nz.1 b A),λb o x l2 c h1 h2=>?_⟩
 .grind [Fr.block]
 .cases hc:H b o with
  |some z=>exact d.hnew b o (by grind) h2
  |none=>grind
 .grind [Fr.tt]
 cases hc:H b o<;>grind [Fr.nz]
theorem Md(h:RX g s a w H γ F)(hr:ah s.m n=some ⟨false,[.mp l]⟩)(e:γ n=.gh v)
  (hT:TR w' H' γ s.m (.mp l') f' v) (j:∀c,tot F s.m c+f' c<=F n c+1) (q:∀c,f' c≠0->c<w.heap.size/\(∀o,H' c o=none)/\(g.own0 c≠0\/g.w0.heap.size<=c))
  (i:w'.heap.size=w.heap.size) (k:w'.os=w.os) (p:w'.tape=w.tape) (d:w'.output=w.output)
  (hb:∀c,F n c=0->w'.heap[c]? = w.heap[c]?) (z:∀b o y,H b o=some y->H' b o=some y) (u:∀b o y,H' b o=some y->RdV w' b o y)
  (hnew:∀b o,H' b o≠none->H b o=none->F n b≠0/\f' b=0)
  (r:(∀b,Thawed w b->Thawed w' b)/\∀b o x l c,H' b o=some (.c (.slice x l c))->H b o=none->Thawed w' b) :
  RX g ⟨s.t,cY s.m n ⟨false,[.mp l']⟩⟩ a w' H' γ (upd F n f'):=Wn h rfl rfl hr e hT j q i k p d hb z u hnew r
theorem YX(h:Mem w H γ s.m F)(hr:ah s.m n=some ⟨false,[.mp l]⟩) :
  ∃b es ck,∃f:Fp,γ n=.gh (.map (some b))/\w.heap[b]? = some (.map es ck)/\Stamped es ck/\MpO w H l es.toList f/\(∀c,F n c=f c+if c=b then 1 else 0)/\f b=0:=by
 have a:=h.roots _ (al hr)
 obtain⟨v,t,h1,h2,h3⟩:=a;obtain rfl:t=.mp l:=by grind
 obtain⟨b,es,ck,f,rfl,k2,k3,k4,k5⟩:=h3;have:=h.le1 b
 have:=bV (F:=F) (al hr) b
 grind
theorem O0(hb:w.heap[b]? = some (.map es ck)):∀c,Thawed w c->Thawed { w with heap:=w.heap.setIfInBounds b (.map es' ck') } c:=λc h0=>h0.of_block ((heap_set hb).2 c (λe=>by
 obtain⟨cs,ty,a⟩:=h0
 grind))
theorem ai6{w:World}(hb:w.heap[b]? = some (.map es ck))(a:Addr):({ w with heap:=w.heap.setIfInBounds b (.map es' ck') }:World).cell? a=w.cell? a:=by grind [World.cell?]
theorem vZ(h:RX g s a w H γ F)(hr:ah s.m n=some ⟨false,[.mp l]⟩)(j:γ n=.gh (.map (some b)))(hb:w.heap[b]? = some (.map es ck))(u:∀c,F n c=f c+if c=b then 1 else 0)
  (p:Stamped es' ck') (k:MpO { w with heap:=w.heap.setIfInBounds b (.map es' ck') } H l' es'.toList f') (q:∀c,tot F s.m c+f' c<=f c+1) (r:∀c,f' c≠0->c<w.heap.size/\(∀o,H c o=none)/\(g.own0 c≠0\/g.w0.heap.size<=c)) :
  RX g ⟨s.t,cY s.m n ⟨false,[.mp l']⟩⟩ a { w with heap:=w.heap.setIfInBounds b (.map es' ck') } H γ (upd F n (λc=>f' c+if c=b then 1 else 0)):=by
 have d:=heap_set (o':=.map es' ck') hb
 have i:tot F s.m b≠0:=by have:=bV (F:=F) (al hr) b;grind
 refine Md h hr j ⟨b,es',ck',f',rfl,d.1,p,k,λ_=>rfl⟩ (λc=>by grind) (λc hc=>?_) (by simp) rfl rfl rfl (λc hc=>d.2 c (λe=>by grind)) (λ_ _ _ h=>h) (λb' o y hy=>(h.mem.agree b' o y hy).frame (d.2 b' (λe=>by subst e;rw[h.mem.nofz _ i o]at hy;cases hy))) (λb o h1 h2=>absurd h2 h1) ⟨O0 hb,λc o x y z h1 h2=>by grind⟩;by_cases e:c=b
 .subst e;exact⟨h.mem.lt c i,h.mem.nofz c i,h.fr.tt c i⟩
 grind
theorem RL(h:RX g s a w H γ F)(hno:n.isOut=false)(hn:ah s.m n=none) :
  ∃γ' F',RX g ⟨s.t,(n,⟨false,[.mp []]⟩)::s.m⟩ a (w.alloc (.map #[] 0)) H γ' F'/\γ' n=.gh (.map (some w.heap.size)):=by
 have hold:∀k,k<w.heap.size->(w.alloc (.map #[] 0)).heap[k]? = w.heap[k]? := λk hk=>dl hk
 have h1:=pQ h (w':=w.alloc (.map #[] 0)) (by simp) rfl rfl rfl (λb hb=>.inl (hold b hb))
 have hz:tot F s.m w.heap.size=0:=by
  rcases alI (tot F s.m w.heap.size)with h'|h'
  .exact h'
  have:=h.mem.lt w.heap.size kQ1;omega
 refine eE h1 hno hn (v:=.map (some w.heap.size)) (t:=.mp []) (f:=λb=>if b=w.heap.size then 1 else 0) ⟨w.heap.size,#[],0,λ_=>0,rfl,bL,stamped_empty 0,λ_=>rfl,λ_=>(am1 _).symm⟩ (λb=>?_) (λb hb=>?_) (λb hb=>?_)
 .by_cases e:b=w.heap.size
  .grind
  rw[if_neg e];have:=h.mem.le1 b;omega
 .have e:b=w.heap.size:=by grind
  subst e;refine⟨by simp,λo=>?_⟩;cases hc:H w.heap.size o with
  |none=>rfl
  |some y=>have:=(h.mem.agree _ _ _ hc).lt;omega
 have e:b=w.heap.size:=by grind
 have:=h.fr.size
 omega
theorem vT{m:Mm}(hn:ah m n=some ⟨false,[.mp l]⟩)(a:γ n=.gh v):AR w H γ m (.one (.c (.rf ⟨n,0,[]⟩))) v:=by
 refine⟨λ_=>rfl,?_,?_⟩
 .rw[cr];exact⟨_,hn,trivial⟩
 unfold plV;rw[a];rfl
theorem RN(h:RX g s a w H γ F)(hr:ah s.m n=some ⟨false,[.mp l]⟩){f f1 d:Fp}(e:γ n=.gh (.map (some b)))(hb:w.heap[b]? = some (.map es ck))(hs:Stamped es ck)(r:∀c,F n c=f c+if c=b then 1 else 0)
  (hf:∀c,f c=f1 c+d c) (i:MpO w H l' es.toList d) {n2:Nm} (hno:n2.isOut=false) (q:ah s.m n2=none) {sub:List Sh} {rows:List (List D)} {k:Nat} {v:Value} (j:OD w H k (.ow sub) (.li rows) f1 v) :
  ∃γ' F',RX g ⟨s.t,(n2,⟨false,[.ow sub rows]⟩)::cY s.m n ⟨false,[.mp l']⟩⟩ a w H γ' F'/\γ' n2=.gh v:=by
 have p:∀c,F n c<=tot F s.m c:=λc=>bV (F:=F) (al hr) c
 have h1:RX g ⟨s.t,cY s.m n ⟨false,[.mp l']⟩⟩ a w H γ (upd F n (λc=>d c+if c=b then 1 else 0)):=
  Md h hr e ⟨b,es,ck,d,rfl,hb,hs,i,λ_=>rfl⟩ (λc=>by have:=r c;have:=hf c;have:=h.mem.le1 c;omega) (λc hc=>by
   have h3:tot F s.m c≠0:=by grind
   exact⟨h.mem.lt c h3,h.mem.nofz c h3,h.fr.tt c h3⟩) rfl rfl rfl rfl (λ_ _=>rfl) (λ_ _ _ h=>h) h.mem.agree (λb o h1 h2=>absurd h2 h1) o8
 refine eE h1 hno (by grind [gj]) (v:=v) (t:=.ow sub rows) (f:=f1) ⟨k,j⟩ (λc=>?_) (λc hc=>?_) (λc hc=>?_)
 .have h3:tot (upd F n (λc=>d c+if c=b then 1 else 0)) (cY s.m n ⟨false,[.mp l']⟩) c+F n c=tot F s.m c+(d c+if c=b then 1 else 0):=by rw[dT];exact BM hr h.mem.keys c
  have:=h.mem.le1 c
  grind
 .have h3:tot F s.m c≠0:=by grind
  exact⟨h.mem.lt c h3,h.mem.nofz c h3⟩
 have h3:tot F s.m c≠0:=by grind
 exact h.fr.tt c h3
def ag9(l:List (D×Sh×D)):List (D×Sh×D):=l.map λx=>(x.1,.fr,x.2.2)
theorem PZ(a:∀b o y,H b o=some y->H' b o=some y):∀{l:List (D×Sh×D)}{es:List MapEntry}{f:Fp},MpO w H l es f->(∀b,f b≠0->∀o z,w.cell? ⟨b,o,none⟩=some z->H' b o=some z)->MpO w H' (ag9 l) es (λ_=>0)
 |[],[],_,_,_=>λ_=>rfl
 |x::l,e::es,f,h,hc=>by obtain⟨⟨h1,h2⟩,f1,c,k,h3,h4,h5⟩:=h;exact⟨⟨h1,fq a h2⟩,λ_=>0,λ_=>0,k,λ_=>rfl,gr.2 ⟨λ_=>rfl,Wi a k _ _ _ _ h4 (λb hb=>hc b (by grind))⟩,PZ a h5 (λb hb=>hc b (by grind))⟩
 |[],_::_,_,h,_=>h.elim
 |_::_,[],_,h,_=>h.elim
theorem Ie:∀{l:List (D×Sh×D)}{es:List MapEntry}{f:Fp},MpO w H l es f->∀b,f b≠0->Thawed w b
 |[],[],_,h,b,hb=>absurd (h b) hb
 |x::l,e::es,f,h,b,hb=>by
  obtain⟨_,f1,a,k,h3,h4,h5⟩:=h;by_cases h0:f1 b=0
  .exact Ie h5 b (by grind)
  grind [P5]
 |[],_::_,_,h,_,_=>h.elim
 |_::_,[],_,h,_,_=>h.elim
theorem Wp(h:RX g s a w H γ F)(hr:ah s.m n=some ⟨false,[.mp l]⟩):∃H' F',RX g ⟨s.t,cY s.m n ⟨false,[.mp (ag9 l)]⟩⟩ a w H' γ F':=by
 obtain⟨b,es,ck,f,h1,h2,h3,h4,h5,h6⟩:=YX h.mem hr;have p:∀c,F n c<=tot F s.m c:=λc=>bV (F:=F) (al hr) c
 have i:∀c,f c≠0->tot F s.m c≠0:=λc hc=>by grind
 let H':FH:=λb o=>if f b≠0 then(w.cell? ⟨b,o,none⟩).map HV.c else H b o
 have k:∀b o y,H b o=some y->H' b o=some y:=by
  intro b o y hy;simp only[H'];split
  .rename_i e;rw[h.mem.nofz b (i b e) o]at hy;cases hy
  omega
 have j:∀b o y,H' b o=some y->RdV w b o y:=by
  intro b o y hy;simp only[H']at hy;split at hy
  .obtain⟨z,hz,rfl⟩:=ak0.1 hy;exact hz
  exact h.mem.agree b o y hy
 have d:tot F s.m b≠0:=by grind
 refine⟨H',_,Md h hr h1 ⟨b,es,ck,λ_=>0,rfl,h2,h3,PZ k h4 (λb hb o z hz=>by grind),λ_=>rfl⟩ (λc=>by have:=h.mem.le1 c;grind) (λc hc=>?_) rfl rfl rfl rfl (λ_ _=>rfl) k j (λc o k1 k2=>?_) ⟨λ_ h=>h,λc o x l2 q k1 k2=>?_⟩⟩
 .have e:c=b:=by grind
  subst e;refine⟨h.mem.lt c d,λo=>?_,h.fr.tt c d⟩;simp only[H'];rw[if_neg kQ1];exact h.mem.nofz c d o
 all_goals grind [Ie]
end
end Go.Am
end

section
namespace Go.Am
open MapKept
def mpD(l:List (D×Sh×D)):D:=.mp (some (l.map λe=>(e.1,e.2.2)))
def esV(es:List MapEntry):List (Value×Value):=es.map λe=>(e.key,e.val)
def frL(l:List (D×Sh×D)):Bool:=l.all λe=>match e.2.1 with
 |.fr=>true
 |_=>false
def T.frm(n:Nm)(x:D):T->T
 |.rf p=>if p.root=n then(match p with
  |⟨_,0,[]⟩=>.d x
  |_=>.any)else .rf p
 |t=>t.kill (bJ n)
def frzm(s:S)(n:Nm)(x:D):S:=⟨u7 (AV.map (T.frm n x)) s.t,aP (bJ n) (ci s.m n)⟩
theorem Wg{w:World}{H:FH}:∀{l:List (D×Sh×D)}{es:List MapEntry}{f:Fp},frL l=true->MpO w H l es f->(esV es).length=l.length/\∃m,∀(i:Nat)(x:D×D)(y:Value×Value),(l.map λe=>(e.1,e.2.2))[i]? = some x->(esV es)[i]? = some y->FD H m x.1 y.1/\FD H m x.2 y.2
 |[],[],_,_,_=>⟨rfl,0,λi x y h _=>by simp at h⟩
 |a::l,e::es,f,hf,h=>by
  obtain⟨⟨_,⟨c,h1⟩⟩,f1,j,k,h2,h3,h4⟩:=h;simp only[frL,akW,akI]at hf;obtain⟨n,g,o⟩:=Wg (by grind [frL]) h4;have hs:a.2.1=.fr:=by grind
  rw[hs]at h3;obtain⟨_,b,h5⟩:=gr.1 h3;refine⟨by grind [esV],c+g+b,λi x y hx hy=>?_⟩;have mono:=λ{m:Nat}(hm:m<=c+g+b){d:D}{v:Value}(h:FD H m d v)=>gN (λ_ _ _ h=>h) m (c+g+b) d v hm h
  grind [esV]
 |[],_::_,_,_,h=>h.elim
 |_::_,[],_,_,h=>h.elim
section
variable {g:G} {s:S} {a:Act} {w:World} {H:FH} {γ:Gam} {F:Nm->Fp}
theorem aaT(h:RX g s a w H γ F){n:Nm}{l:List (D×Sh×D)}(hr:ah s.m n=some ⟨false,[.mp l]⟩)(hl:frL l=true):∃H' F',RX g (frzm s n (mpD l)) a w H' γ F':=by
 obtain⟨b,es,ck,f,h1,h2,h3,h4,h5,h6⟩:=YX h.mem hr;have C:∀c,F n c<=tot F s.m c:=λc=>bV (F:=F) (al hr) c
 have k:tot F s.m b≠0:=by grind
 let H':FH:=λc o=>if c=b/\o=0 then some (.m es ck)else H c o
 have d:∀c o y,H c o=some y->H' c o=some y:=by intro c o y hy;simp only[H'];rw[if_neg (λe=>by rw[e.1,h.mem.nofz b k o]at hy;cases hy)];exact hy
 have A:∀c o y,H' c o=some y->RdV w c o y:=by
  intro c o y hy;simp only[H']at hy;split at hy
  .rename_i e;obtain rfl:=Option.some.inj hy;rw[e.1];exact⟨h2,h3⟩
  exact h.mem.agree c o y hy
 have hd:=Ez h.mem n
 have r:∀c,tot F (aP (bJ n) (ci s.m n)) c+F n c=tot F s.m c:=λc=>by grind [bC,BL]
 have v:tot F (aP (bJ n) (ci s.m n)) b=0:=by have:=r b;have:=h.mem.le1 b;grind
 have z:Keeps w γ (aP (bJ n) (ci s.m n)) w γ (aP (bJ n) (ci s.m n)):=⟨λq hq=>⟨hq,rfl⟩,λq hq=>⟨hq,rfl⟩⟩
 have hx:FDx H' (mpD l) (.map (some b)):=by obtain⟨I,m,G⟩:=Wg hl h4;refine⟨m+1,b,es,ck,rfl,by simp[H'],by grind [esV],λi x y hx hy=>?_⟩;obtain⟨E,B⟩:=G i x (y.key,y.val) hx (by grind [esV]);exact⟨gN d _ _ _ _ (akK _) E,gN d _ _ _ _ (akK _) B⟩
 refine⟨H',F,⟨⟨A,λx hx=>bm z d rfl (λ_ _=>rfl) (hd.roots x hx),hd.keys,hd.le1,hd.lt,λc hc o=>?_⟩,?_,h.nt,h.df,λi=>?_⟩⟩
 .simp only[H'];rw[if_neg (λe=>hc (by rw[e.1];exact v))];exact hd.nofz c hc o
 .refine⟨h.fr.size,h.fr.os,h.fr.tape,h.fr.output,h.fr.block,λc o y hy=>d _ _ _ (h.fr.hold c o y hy),λc o k1 k2=>?_,λc hc=>h.fr.tt c ?_,h.fr.nz.1,λc o x l' q k1 k2=>?_⟩
  .simp only[H']at k1;split at k1
   .rename_i e;rw[e.1];exact h.fr.tt b k
   exact h.fr.hnew c o k1 k2
  .have:=r c
   have hc:tot F (aP (bJ n) (ci s.m n)) c≠0:=hc
   omega
  simp only[H']at k1;split at k1
  .cases k1
  exact h.fr.nz.2 c o x l' q k1 k2
 show AR w H' γ _ (bB (u7 _ s.t) i) _
 rw[rv rfl];refine iF (λt y j=>?_) (h.t i);have hk:=λ(t:T) (j:TR w H γ s.m t (λ_=>0) y)=>qZ (fb (n:=n)) d (λ_ hb=>absurd rfl hb) j
 cases t with
 |rf p=>
  simp only[T.frm];split
  .rename_i e;split
   .rename_i q;subst e;obtain⟨_,_,hv⟩:=j;have u:aI w (γ q) 0=some y:=hv
    rw[h1]at u;obtain rfl:Value.map (some b)=y:=by grind [aI]
    exact⟨λ_=>rfl,hx⟩
   exact λ_=>rfl
  rename_i e;have:=hk _ j
  simp only[T.kill]at this;rw[if_neg (by simp[bJ,e])]at this;exact this
 |_=>exact hk _ j
end
theorem Br{P:Program}{w:World}{H:FH}{mt kt et:TypeId}{d:TypeDesc}{k:D}{kv z:Value}(hm:P.underlying mt=some (.map kt et))(hd:P.underlying kt=some d)(hk:j8 (gJ P d) k=true)(a:FDx H k kv)(hz:(zeroValue et).run P w=.ok z w)(ok:Bool) :
  (Instr.lookup mt (.map none) kv ok).run P w=.ok (if ok then .tuple #[z,.bool false]else z) w:=by
 have b:IsKey d kv:=(nA (P:=P) hk hk a a).1
 simp_all[Instr.lookup,run_underlying,run_checkKey,Instr.findKey,Instr.findNow]
theorem Wh{w:World}{H:FH}{m:Nat}:∀{l:List (D×D)}{es:List MapEntry},(esV es).length=l.length->(∀(i:Nat)(x:D×D)(y:Value×Value),l[i]? = some x->(esV es)[i]? = some y->FD H m x.1 y.1/\FD H m x.2 y.2)->(∀e∈l,e.1.isKey=true)->MpO w H (l.map λe=>(e.1,Sh.fr,e.2)) es (λ_=>0)
 |[],[],_,_,_=>λ_=>rfl
 |x::l,e::es,hl,h,hk=>by
  have h0:=h 0 x (e.key,e.val) rfl rfl
  refine⟨⟨hk x (by simp),m,h0.1⟩,λ_=>0,λ_=>0,0,λ_=>rfl,gr.2 ⟨λ_=>rfl,m,h0.2⟩,Wh (by grind [esV]) (λi a b c hb=>h (i+1) a b (by grind) (by grind [esV])) (λa c=>hk a (by simp[c]))⟩
 |[],_::_,h,_,_=>by simp[esV]at h
 |_::_,[],h,_,_=>by simp[esV]at h
theorem VA{w:World}{H:FH}{l:List (D×D)}{y:Value}(a:∀b o y,H b o=some y->RdV w b o y)(hk:∀e∈l,e.1.isKey=true)(h:FDx H (.mp (some l)) y) :
  ∃b es ck,y=.map (some b)/\w.heap[b]? = some (.map es ck)/\Stamped es ck/\MpO w H (l.map λe=>(e.1,Sh.fr,e.2)) es.toList (λ_=>0):=by
 obtain⟨m,h⟩:=h;cases m with
 |zero=>exact h.elim
 |succ m=>
  obtain⟨b,es,ck,h1,h2,h3,h4⟩:=h;obtain⟨h5,h6⟩:=a b 0 _ h2;refine⟨b,es,ck,h1,h5,h6,Wh (m:=m) (by grind [esV]) (λi x y hx hy=>?_) hk⟩
  grind [esV]
end Go.Am
end

section
namespace Go.Am
inductive C where
 |i (k:IntKind) (n:Int)
 |b (x:UInt8)
 |bo (x:Bool)
 |s (l:List UInt8)
 |li (u:U) (l:List (El u))
 |mp (k v:U) (l:Option (List (El k×El v)))
 |nm
 |fn (c:Lt.Clo)
 |v (x:Value)
 |any
 deriving Inhabited
def dflt:(u:U)->El u
 |.i _=>(default:Int)
 |.b8=>(default:UInt8)
 |.bo=>(default:Bool)
 |.s=>(default:List UInt8)
 |.sl _=>[]
 |.mp _ _=>none
 |.fn=>default
 |.st n=>(sd n).df
def sA(u' u:U)(l:List (El u')):Option (List (El u)):=if h:u'=u then some (cast (by rw[h]) l)else none
variable{u:U}
theorem jM{u':U}{l:List (El u')}{x:List (El u)}(h:sA u' u l=some x):∃e:u'=u,x=e ▸ l:=by grind [sA]
def XB(k' a k v:U)(l:Option (List (El k'×El a))):Option (Option (List (El k×El v))):=if h:k'=k/\a=v then some (cast (by grind) l)else none
theorem XC{k' a k v:U}{l:Option (List (El k'×El a))}{x:Option (List (El k×El v))}(h:XB k' a k v l=some x):∃e:k'=k,∃b:a=v,x=e ▸ b ▸ l:=by grind [XB]
def au:(u:U)->El u->C
 |.i k,n=>.i k n
 |.b8,x=>.b x
 |.bo,x=>.bo x
 |.s,l=>.s l
 |.sl u,l=>.li u l
 |.mp k v,l=>.mp k v l
 |.fn,x=>.fn x
 |.st _,_=>.any
def ka:(u:U)->C->Option (El u)
 |.i k,.i k' n=>if k'=k then some n else none
 |.b8,.b x=>some x
 |.bo,.bo x=>some x
 |.s,.s l=>some l
 |.sl u,.li u' l=>sA u' u l
 |.mp k v,.mp k' a l=>XB k' a k v l
 |.fn,.fn c=>some c
 |_,_=>none
def leaf:U->Bool
 |.st _=>false
 |_=>true
variable{x:El u}
theorem eL{c:C}(h:ka u c=some x):c=au u x:=by
 unfold ka at h;split at h
 .split at h
  .rename_i e;subst e;rw[<- Option.some.inj h];rfl
  grind
 .rw[<- Option.some.inj h];rfl
 .rw[<- Option.some.inj h];rfl
 .rw[<- Option.some.inj h];rfl
 .obtain⟨e,rfl⟩:=jM h;subst e;rfl
 .obtain⟨e,a,rfl⟩:=XC h;subst e a;rfl
 .rw[<- Option.some.inj h];rfl
 grind
def fM:(us:List U)->Fl us->List C
 |[],_=>[]
 |u::r,x=>au u (Fl.hd u r x)::fM r (Fl.tl u r x)
def mm:(us:List U)->List C->Option (Fl us)
 |[],[]=>some ()
 |u::r,c::cs=>match ka u c,mm r cs with
  |some x,some y=>some (Fl.cons u r x y)
  |_,_=>none
 |_,_=>none
theorem uR(u:U)(us:List U)(x:El u)(y:Fl us):Fl.hd u us (Fl.cons u us x y)=x:=by cases us<;>rfl
theorem vN(u:U)(us:List U)(x:El u)(y:Fl us):Fl.tl u us (Fl.cons u us x y)=y:=by cases us<;>rfl
theorem AU:∀{us:List U}{cs:List C}{x:Fl us},mm us cs=some x->cs=fM us x
 |[],[],_,_=>rfl
 |u::r,c::cs,x,h=>by
  simp only[mm]at h;cases h1:ka u c with
  |none=>grind
  |some a=>
   cases h2:mm r cs with
   |none=>grind
   |some b=>rw[h1,h2]at h;simp only[akJ]at h;subst h;rw[fM,uR,vN,<- eL h1,<- AU h2]
 |[],_::_,_,h=>by simp[mm]at h
 |_::_,[],_,h=>by simp[mm]at h
def flat:(u:U)->El u->List C
 |.st n,x=>fM (sd n).fs ((sd n).un x)
 |.i k,x=>[.i k x]
 |.b8,x=>[.b x]
 |.bo,x=>[.bo x]
 |.s,x=>[.s x]
 |.sl u,x=>[.li u x]
 |.mp k v,x=>[.mp k v x]
 |.fn,x=>[.fn x]
def unflat:(u:U)->List C->Option (El u)
 |.st n,cs=>match mm (sd n).fs cs with
  |some y=>some ((sd n).mkF y)
  |none=>none
 |u,[c]=>ka u c
 |_,_=>none
theorem nl:∀{u:U}(_:leaf u=true)(x:El u),flat u x=[au u x]
 |.i _,_,_=>rfl
 |.b8,_,_=>rfl
 |.bo,_,_=>rfl
 |.s,_,_=>rfl
 |.sl _,_,_=>rfl
 |.mp _ _,_,_=>rfl
 |.fn,_,_=>rfl
 |.st _,h,_=>by cases h
theorem xj{cs:List C}(h:unflat u cs=some x):cs=flat u x:=by
 cases u with
 |st n=>
  simp only[unflat]at h;cases h1:mm (sd n).fs cs with
  |none=>grind
  |some y=>
   rw[h1]at h;have hx:=Option.some.inj h
   subst hx;show cs=fM (sd n).fs ((sd n).un ((sd n).mkF y))
   rw[(sd n).l2,<- AU h1]
 |_=>
  cases cs with
  |nil=>cases h
  |cons c r=>cases r with
   |nil=>rw[nl rfl,<- eL h]
   |cons _ _=>cases h
def nc:U->Nat
 |.st n=>(sd n).fs.length
 |_=>1
theorem sB:∀(us:List U)(x:Fl us),(fM us x).length=us.length
 |[],_=>rfl
 |u::r,x=>by simp only[fM,ak3,sB r]
theorem xB(x:El u):(flat u x).length=nc u:=by
 cases u with
 |st n=>exact sB _ _
 |_=>rfl
def aw:(u:U)->El u->List D
 |.i k,n=>[.int k n]
 |.b8,x=>[.int .u8 (x.toNat:Int)]
 |.bo,x=>[.bool x]
 |.s,l=>[.str l]
 |.sl u,l=>[.li (l.map (aw u))]
 |.mp k v,l=>[.mp (l.map λl=>l.map λx=>((aw k x.1).headD .any,(aw v x.2).headD .any))]
 |.fn,x=>[.fn x.fn (x.caps.map Lt.Cap.enc)]
 |.st n,x=>(sd n).enc x
def C.toD:C->D
 |.i k n=>.int k n
 |.b x=>.int .u8 (x.toNat:Int)
 |.bo x=>.bool x
 |.s l=>.str l
 |.li u l=>.li (l.map (aw u))
 |.mp ku vu l=>.mp (l.map λl=>l.map λx=>((aw ku x.1).headD .any,(aw vu x.2).headD .any))
 |.nm=>.mp none
 |.fn c=>.fn c.fn (c.caps.map Lt.Cap.enc)
 |.v x=>.v x
 |.any=>.any
theorem ah6:∀(n:Sn)(x:af2 n),(fM (sd n).fs ((sd n).un x)).map C.toD=(sd n).enc x:=by intro n;cases n<;>intro x<;>rfl
theorem cj(x:El u):(flat u x).map C.toD=aw u x:=by
 cases u with
 |st n=>exact ah6 n x
 |_=>rfl
theorem XA(c:Lt.Cap):aw (EP c).1 (EP c).2=c.enc:=by cases c<;>rfl
theorem ab2{c:Lt.Cap}(h:agV u x=some c):EP c=⟨u,x⟩/\c.enc=aw u x:=by unfold agV at h;split at h<;>first|(cases h;exact⟨rfl,rfl⟩)|cases h
theorem ma(x:El u):(aw u x).length=nc u:=by rw[<- cj,akT,xB]
inductive Tt where
 |d (c:C)
 |nil
 |ow (sh:List Sh) (u:U) (l:List (El u))
 |mp (ku vu:U) (l:List (El ku×El vu))
 |mo (ku u:U) (l:List (El ku×List (El u))) (h:Option (El ku))
 |it (ku vu:U) (cur:Option (El ku×El vu)) (rest:List (El ku×El vu))
 |el (row:List C) (off:Nat)
 |ga (u:U) (l:List (El u)) (i:Nat)
 |pl (p:Pl)
 |rf (p:Pl)
 |any
 deriving Inhabited
def ag2(ku u:U)(x:El ku×List (El u)):D×Sh×D:=((au ku x.1).toD,.ow (List.replicate (nc u) .fr),.li (x.2.map (aw u)))
def BS(l:List (D×Sh×D))(k:D):List (D×Sh×D):=match pI l k with
 |some x=>lw l k (x.1,.any)
 |none=>l
def moD(ku u:U)(l:List (El ku×List (El u))):Option (El ku)->List (D×Sh×D)
 |none=>l.map (ag2 ku u)
 |some k=>BS (l.map (ag2 ku u)) (au ku k).toD
def yf(ku vu:U)(x:El ku×El vu):D×D:=((au ku x.1).toD,(au vu x.2).toD)
def Tt.toT:Tt->T
 |.d c=>.d c.toD
 |.nil=>.nil
 |.ow sh u l=>.ow sh (l.map (aw u))
 |.mp ku vu l=>.mp (l.map λx=>((au ku x.1).toD,.fr,(au vu x.2).toD))
 |.mo ku u l h=>.mp (moD ku u l h)
 |.it ku vu cur rest=>.it (cur.map (yf ku vu)) (rest.map (yf ku vu))
 |.el row off=>.el (row.map C.toD) off
 |.ga u l i=>.el (l.map λx=>(au u x).toD) i
 |.pl p=>.pl p
 |.rf p=>.rf p
 |.any=>.any
inductive A1 where
 |c (t:Tt)
 |agg (ts:List Tt)
 deriving Inhabited
def A1.toV:A1->AV1
 |.c t=>.c t.toT
 |.agg ts=>.agg (ts.map Tt.toT)
inductive At where
 |one (x:A1)
 |tup (vs:List A1)
 |any
 deriving Inhabited
def At.toV:At->AV
 |.one x=>.one x.toV
 |.tup vs=>.tup (vs.map A1.toV)
 |.any=>.any
structure Rt where
 blk:Bool
 cells:List Tt
 hole:Option (Nat×Step×List Step)
def holed(cells:List T):Option (Nat×Step×List Step)->List T
 |none=>cells
 |some (off,st,q)=>match cells[off]? with
  |some (.ow sub l)=>cells.set off (.ow sub (cC sub l .any (st::q)))
  |_=>cells
def Rt.toR(r:Rt):Root:=⟨r.blk,holed (r.cells.map Tt.toT) r.hole⟩
structure St where
 nx:Nat
 t:List (Nat×Nat×At)
 m:List (Nm×Nat×Rt)
def St.toS(s:St):S:=⟨s.t.map λx=>(x.1,x.2.2.toV),s.m.map λx=>(x.1,x.2.2.toR)⟩
def gtA:List (Nat×Nat×At)->Nat->At
 |[],_=>.any
 |(k,_,v)::t,i=>match Nat.beq k i with
  |true=>v
  |false=>gtA t i
def cm:List (Nm×Nat×Rt)->Nm->Option Rt
 |[],_=>none
 |(k,_,r)::m,n=>if k=n then some r else cm m n
def fp:List (Nm×Nat×Rt)->Nm->Nat->Rt->List (Nm×Nat×Rt)
 |[],_,_,_=>[]
 |(k,j,x)::m,n,i,r=>if k=n then(k,i,r)::m else(k,j,x)::fp m n i r
def fN:List (Nm×Nat×Rt)->Nm->List (Nm×Nat×Rt)
 |[],_=>[]
 |(k,j,x)::m,n=>if k=n then fN m n else(k,j,x)::fN m n
theorem dy(i:Nat):∀t:List (Nat×Nat×At),bB (t.map λx=>(x.1,x.2.2.toV)) i=(gtA t i).toV
 |[]=>rfl
 |(k,j,v)::t=>by
  simp only[akM,bB,gtA];by_cases h:k=i
  .grind [Nat.beq_refl]
  rw[if_neg h];have:Nat.beq k i=false:=by grind [akO]
  rw[this];exact dy i t
abbrev toM(m:List (Nm×Nat×Rt)):Mm:=m.map λx=>(x.1,x.2.2.toR)
theorem uP(n:Nm):∀m:List (Nm×Nat×Rt),ah (toM m) n=(cm m n).map Rt.toR
 |[]=>rfl
 |(k,j,v)::m=>by
  simp only[toM,akM,ah,cm];by_cases h:k=n
  .grind
  rw[if_neg h,if_neg h];exact uP n m
theorem fV(n:Nm)(i:Nat)(r:Rt):∀m:List (Nm×Nat×Rt),toM (fp m n i r)=cY (toM m) n r.toR
 |[]=>rfl
 |(k,j,v)::m=>by
  simp only[toM,akM,cY,fp];by_cases h:k=n
  .grind
  rw[if_neg h,if_neg h,akM];exact congrArg _ (fV n i r m)
abbrev ND(m:List (Nm×Nat×Rt)):Prop:=(m.map (·.1)).Nodup
theorem Qp(n:Nm):∀m:List (Nm×Nat×Rt),n ∉ m.map (·.1)->fN m n=m
 |[],_=>rfl
 |(k,j,v)::m,h=>by simp only[akM,akU,not_or]at h;simp only[fN];rw[if_neg (λe=>h.1 e.symm),Qp n m h.2]
theorem nh(n:Nm):∀m:List (Nm×Nat×Rt),ND m->toM (fN m n)=ci (toM m) n
 |[],_=>rfl
 |(k,j,v)::m,hn=>by
  have hn':k ∉ m.map (·.1)/\(m.map (·.1)).Nodup:=by grind
  simp only[toM,akM,ci,fN];by_cases h:k=n
  .grind [Qp]
  rw[if_neg h,if_neg h,akM];exact congrArg _ (nh n m hn'.2)
def St.put(s:St):Option Tmp->At->St
 |none,_=>s
 |some d,v=>⟨s.nx+1,(d,s.nx,v)::s.t,s.m⟩
def Tt.kill(bad:Bool->Pl->Bool):Tt->Tt
 |.pl p=>if bad false p then .any else .pl p
 |.rf p=>if bad true p then .any else .rf p
 |t=>t
def A1.kill(bad:Bool->Pl->Bool):A1->A1
 |.c t=>.c (t.kill bad)
 |.agg ts=>.agg (ts.map (·.kill bad))
def At.kill(bad:Bool->Pl->Bool):At->At
 |.one x=>.one (x.kill bad)
 |.tup xs=>.tup (xs.map (·.kill bad))
 |.any=>.any
def Tt.ment(n:Nm):Tt->Bool
 |.pl p=>decide (p.root=n)
 |.rf p=>decide (p.root=n)
 |_=>false
def Tt.hit(bad:Bool->Pl->Bool):Tt->Bool
 |.pl p=>bad false p
 |.rf p=>bad true p
 |_=>false
def A1.hit(bad:Bool->Pl->Bool):A1->Bool
 |.c t=>t.hit bad
 |.agg ts=>ts.any (·.hit bad)
def At.hit(bad:Bool->Pl->Bool):At->Bool
 |.one x=>x.hit bad
 |.tup xs=>xs.any (·.hit bad)
 |.any=>false
def Rt.kill(bad:Bool->Pl->Bool)(r:Rt):Rt:=⟨r.blk,r.cells.map (·.kill bad),r.hole⟩
def stp:Bool->Nat->Nat->Nat
 |true,i,_=>i
 |false,_,j=>j
def nF(bad:Bool->Pl->Bool)(nx:Nat)(t:List (Nat×Nat×At)):List (Nat×Nat×At):=t.map λx=>(x.1,stp (x.2.2.hit bad) nx x.2.1,x.2.2.kill bad)
def cO(bad:Bool->Pl->Bool)(nx:Nat)(m:List (Nm×Nat×Rt)):List (Nm×Nat×Rt):=m.map λx=>(x.1,stp (x.2.2.cells.any (·.hit bad)) nx x.2.1,x.2.2.kill bad)
def St.drop(s:St)(n:Nm):St:=⟨s.nx+1,nF (bJ n) s.nx s.t,cO (bJ n) s.nx (fN s.m n)⟩
def St.fresh(s:St)(n:Nm):St:=match cm s.m n with
 |none=>s
 |some _=>s.drop n
def St.root(s:St)(n:Nm)(r:Rt):St:=⟨s.nx+1,s.t,(n,s.nx,r)::s.m⟩
def Tt.frz(q:Pl)(u:U)(l:List (El u)):Tt->Tt
 |.rf p=>match p with
  |⟨n,o,[]⟩=>if n=q.root/\o=q.off then .d (.li u l)else(Tt.rf ⟨n,o,[]⟩).kill (thr q)
  |p=>(Tt.rf p).kill (thr q)
 |t=>t.kill (thr q)
def A1.map(f:Tt->Tt):A1->A1
 |.c t=>.c (f t)
 |.agg ts=>.agg (ts.map f)
def At.map(f:Tt->Tt):At->At
 |.one x=>.one (x.map f)
 |.tup xs=>.tup (xs.map (·.map f))
 |.any=>.any
def setCell(m:List (Nm×Nat×Rt))(n:Nm)(i:Nat)(off:Nat)(t:Tt):List (Nm×Nat×Rt):=match cm m n with
 |some r=>fp m n i { r with cells:=r.cells.set off t }
 |none=>m
def O1(q:Pl)(rf:Bool)(p:Pl):Bool:=thr q rf p||(rf&&decide (p.root=q.root/\p.off=q.off))
def Tt.frm(n:Nm)(c:C):Tt->Tt
 |.rf p=>if p.root=n then(match p with
  |⟨_,0,[]⟩=>.d c
  |_=>.any)else .rf p
 |t=>t.kill (bJ n)
def XU(s:St)(n:Nm)(c:C):St:=⟨s.nx+1,s.t.map λx=>(x.1,stp (x.2.2.hit (bJ n)) s.nx x.2.1,x.2.2.map (Tt.frm n c)),cO (bJ n) s.nx (fN s.m n)⟩
def uO(s:St)(q:Pl):St:=
 match q.path,cm s.m q.root with
 |[],some r=>match r.hole,r.cells[q.off]? with
  |none,some (.ow _ u l)=>⟨s.nx+1,s.t.map λx=>(x.1,stp (x.2.2.hit (O1 q)) s.nx x.2.1,x.2.2.map (Tt.frz q u l)),
    setCell (cO (thr q) s.nx (setCell s.m q.root s.nx q.off .any)) q.root s.nx q.off (.d (.li u l))⟩
  |none,some (.mp ku vu l)=>match r.blk,r.cells,leaf ku&&leaf vu with
   |false,[_],true=>XU s q.root (.mp ku vu (some l))
   |_,_,_=>s
  |_,_=>s
 |_,_=>s
def Qw(s:St):Tt->St
 |.rf p=>uO s p
 |_=>s
def EW:St->List Tt->St
 |s,[]=>s
 |s,t::ts=>EW (Qw s t) ts
def ja(s:St):At->St
 |.one (.c t)=>Qw s t
 |.one (.agg ts)=>EW s ts
 |_=>s
def eJ(s:St):List At->St
 |[]=>s
 |v::vs=>eJ (ja s v) vs
def mkC(k:IntKind)(n:Int):C:=match k with
 |.u8=>.b (UInt8.ofNat n.toNat)
 |k=>.i k n
def sF:C->Option (IntKind×Int)
 |.i k n=>match k with
  |.u8=>none
  |k=>some (k,n)
 |.b x=>some (.u8,(x.toNat:Int))
 |_=>none
def uJ:Value->Tt
 |.bool b=>.d (.bo b)
 |.int k n=>match k with
  |.u8=>if 0<=n/\n < 256 then .d (.b (UInt8.ofNat n.toNat))else .any
  |k=>.d (.i k n)
 |.string s=>.d (.s s.data.toList)
 |.slice none 0 0=>.nil
 |.pointer none=>.d (.v (.pointer none))
 |.map none=>.d .nm
 |.nilFunc=>.d (.v .nilFunc)
 |.nilIface=>.d (.v .nilIface)
 |.func f a b=>.d (.v (.func f a b))
 |_=>.any
def agZ:Value->At
 |.agg cs=>.one (.agg (cs.toList.map uJ))
 |v=>.one (.c (uJ v))
abbrev sct(x:C):At:=.one (.c (.d x))
def afC(k:Nat):Option (List (List UInt8)):=match sC k with
 |none=>none
 |some _=>some gw
def evA(s:St):Operand->At
 |.tmp t=>gtA s.t t
 |.const v=>agZ v
 |.func f=>sct (.fn ⟨f,[]⟩)
 |.global g=>match afC g with
  |some l=>.one (.c (.ga .s l 0))
  |none=>.any
def DU(c x y:At)(k:At->Prop):Prop:=
 match c with
 |.one (.c (.d (.bo b)))=>if b then k x else k y
 |_=>False
def Y2(op:BinOp)(k:IntKind)(a b:Int)(K:C->Prop):Prop:=
 match op with
 |.add=>K (mkC k (k.wrap (a+b)))
 |.sub=>K (mkC k (k.wrap (a-b)))
 |.mul=>K (mkC k (k.wrap (a*b)))
 |.quo=>b≠0/\K (mkC k (k.wrap (a.tdiv b)))
 |.rem=>b≠0/\K (mkC k (a.tmod b))
 |.and=>K (mkC k (k.wrap (BitVec.ofInt k.bits a &&& BitVec.ofInt k.bits b).toNat))
 |.or=>K (mkC k (k.wrap (BitVec.ofInt k.bits a ||| BitVec.ofInt k.bits b).toNat))
 |.xor=>K (mkC k (k.wrap (BitVec.ofInt k.bits a ^^^ BitVec.ofInt k.bits b).toNat))
 |.andNot=>K (mkC k (k.wrap (BitVec.ofInt k.bits a &&& ~~~BitVec.ofInt k.bits b).toNat))
 |.shl=>0<=b/\K (mkC k (k.wrap (a*2 ^ (min b.toNat k.bits))))
 |.shr=>0<=b/\K (mkC k (a.fdiv (2 ^ (min b.toNat k.bits))))
 |.eql=>K (.bo (decide (a=b)))
 |.neq=>K (.bo (!decide (a=b)))
 |.lss=>K (.bo (decide (a<b)))
 |.leq=>K (.bo (decide (a<=b)))
 |.gtr=>K (.bo (decide (b<a)))
 |.geq=>K (.bo (decide (b<=a)))
def ajL:BinOp->Bool
 |.shl=>true
 |.shr=>true
 |_=>false
def Iw(op:BinOp)(x y:C)(K:C->Prop):Prop:=
 match x,y with
 |.s a,.s b=>match op with
  |.add=>a.length+b.length<=4611686018427387904/\K (.s (a++b))
  |.eql=>K (.bo (decide (a=b)))
  |.neq=>K (.bo (!decide (a=b)))
  |.lss=>K (.bo (Op.bytesLess a b))
  |.leq=>K (.bo (Op.bytesLess a b||decide (a=b)))
  |.gtr=>K (.bo (!(Op.bytesLess a b||decide (a=b))))
  |.geq=>K (.bo (!Op.bytesLess a b))
  |_=>False
 |x,y=>match sF x,sF y with
  |some (k,a),some (k',b)=>if ajL op=true\/k=k' then Y2 op k a b K else False
  |_,_=>False
def eqC(ck:CK)(x y:C):Option Bool:=
 match ck with
 |.i=>match sF x,sF y with
  |some (k,a),some (k',b)=>if k=k' then some (decide (a=b))else none
  |_,_=>none
 |.s=>match x,y with
  |.s a,.s b=>some (decide (a=b))
  |_,_=>none
 |.b=>match x,y with
  |.bo a,.bo b=>some (a==b)
  |_,_=>none
def XJ:List (Nat×CK)->List C->List C->Option Bool
 |[],_,_=>some true
 |(o,ck)::l,xs,ys=>match xs[o]?,ys[o]? with
  |some x,some y=>match eqC ck x y,l with
   |some b,[]=>some b
   |some b,l=>match XJ l xs ys with
    |some r=>some (b&&r)
    |none=>none
   |none,_=>none
  |_,_=>none
def TC:Tt->C
 |.d c=>c
 |_=>.any
def ajM:C->Option Bool
 |.mp _ _ z=>some z.isNone
 |.nm=>some true
 |_=>none
def Sf(P:Program)(op:BinOp)(t:TypeId)(x y:At)(k:At->Prop):Prop:=
 match x,y with
 |.one (.c (.d (.bo a))),.one (.c (.d (.bo b)))=>match(ty P t).k with
  |.bool=>match op with
   |.eql=>k (sct (.bo (a==b)))
   |.neq=>k (sct (.bo (!(a==b))))
   |_=>False
  |_=>False
 |.one (.c (.d a)),.one (.c (.d .nm))=>match(ty P t).k,ajM a with
  |.mp _ _,some z=>match op with
   |.eql=>k (sct (.bo z))
   |.neq=>k (sct (.bo (!z)))
   |_=>False
  |_,_=>False
 |.one (.c (.d a)),.one (.c (.d b))=>Iw op a b λd=>k (sct d)
 |.one (.agg xs),.one (.agg ys)=>match Qs P t with
  |some l=>match XJ l (xs.map TC) (ys.map TC),op with
   |some b,.eql=>k (sct (.bo b))
   |some b,.neq=>k (sct (.bo (!b)))
   |_,_=>False
  |none=>False
 |_,_=>False
def unT(op:UnOp)(x:At)(k:At->Prop):Prop:=
 match op,x with
 |.not,.one (.c (.d (.bo b)))=>k (sct (.bo (!b)))
 |.neg,.one (.c (.d c))=>match sF c with
  |some (κ,n)=>k (sct (mkC κ (κ.wrap (0-n))))
  |none=>False
 |.xor,.one (.c (.d c))=>match sF c with
  |some (κ,n)=>k (sct (mkC κ (κ.wrap (BitVec.ofInt κ.bits (if κ.signed then -1 else κ.max) ^^^ BitVec.ofInt κ.bits n).toNat)))
  |none=>False
 |_,_=>False
def nk(x:At)(i:Nat)(k:At->Prop):Prop:=
 match x with
 |.tup vs=>match vs[i]? with
  |some v=>k (.one v)
  |none=>False
 |_=>False
def inT(sub:List Sh)(u:U)(l:List (El u))(n:Nat):List Step->Option (List Tt)
 |[]=>none
 |[st]=>match Nat.ble (st.off+n) sub.length with
  |true=>some (List.zipWith (λs c=>match s,c with
    |Sh.fr,x=>Tt.d x
    |Sh.ow s,C.li u' l'=>Tt.ow s u' l'
    |_,_=>Tt.any) ((sub.drop st.off).take n) (((flat u (l.getD st.idx (dflt u))).drop st.off).take n))
  |false=>none
 |st::a::r=>match sub[st.off]?,(flat u (l.getD st.idx (dflt u)))[st.off]? with
  |some (.ow s),some (.li u' l')=>inT s u' l' n (a::r)
  |_,_=>none
def ahR:Option (Nat×Step×List Step)->List Step->Bool
 |none,_=>true
 |some (_,_,a),p=>Nat.blt p.length (a.length+1)
def atT(m:List (Nm×Nat×Rt))(p:Pl)(n:Nat):Option (List Tt):=
 match cm m p.root with
 |none=>none
 |some r=>match p.path with
  |[]=>match Nat.ble (p.off+n) r.cells.length with
   |true=>some ((r.cells.drop p.off).take n)
   |false=>none
  |st::q=>match ahR r.hole (st::q),r.cells[p.off]? with
   |true,some (.ow sub u l)=>inT sub u l n (st::q)
   |_,_=>none
def QZ(q:Pl):Tt->Tt
 |.ow _ _ _=>.rf q
 |.mp _ _ _=>.rf q
 |.mo _ _ _ _=>.rf q
 |.it _ _ _ _=>.rf q
 |t=>t
def FU(p:Pl)(ts:List Tt):List Tt:=ts.zipIdx.map λx=>QZ (p.add x.2) x.1
def sliceAt(m:List (Nm×Nat×Rt))(p:Pl):Option ((_:List Sh)×(u:U)×List (El u)):=
 match atT m p 1 with
 |some [.ow sh u l]=>some ⟨sh,u,l⟩
 |_=>none
def gift:Option (Nat×Bool)->Nat->Prop->Prop
 |none,n,q=>n<=4611686018427387904->q
 |some _,_,q=>q
def Ud(gd:Option (Nat×Bool))(m:List (Nm×Nat×Rt))(x:At)(k:Nat->Prop):Prop:=
 match x with
 |.one (.c (.d (.s l)))=>gift gd l.length (k l.length)
 |.one (.c (.d (.li _ l)))=>gift gd l.length (k l.length)
 |.one (.c .nil)=>k 0
 |.one (.c (.rf p))=>match sliceAt m p with
  |some ⟨_,_,l⟩=>gift gd l.length (k l.length)
  |_=>False
 |_=>False
def xi(x i:At)(k:At->Prop):Prop:=
 match x,i with
 |.one (.c (.d (.s l))),.one (.c (.d (.i _ n)))=>(0<=n/\n.toNat<l.length)/\k (sct (.b (l.getD n.toNat 0)))
 |_,_=>False
def iJ(x:Option At)(d:Nat)(k:Nat->Prop):Prop:=
 match x with
 |none=>k d
 |some (.one (.c (.d (.i _ n))))=>0<=n/\k n.toNat
 |_=>False
def xe(P:Program)(t:TypeId)(x:At)(lo hi:Option At)(k:At->Prop):Prop:=
 match x with
 |.one (.c (.d (.s l)))=>match(ty P t).k with
  |.str=>iJ lo 0 λa=>iJ hi l.length λb=>(a<=b/\b<=l.length)/\k (sct (.s ((l.drop a).take (b-a))))
  |_=>False
 |.one (.c (.d (.li u l)))=>match(ty P t).k with
  |.sl e=>match(ty P e).ok&&Nat.beq (nc u) (ty P e).size with
   |true=>iJ lo 0 λa=>iJ hi l.length λb=>(a<=b/\b<=l.length)/\k (sct (.li u ((l.drop a).take (b-a))))
   |false=>False
  |_=>False
 |.one (.c .nil)=>match(ty P t).k with
  |.sl e=>match(ty P e).ok with
   |true=>iJ lo 0 λa=>iJ hi 0 λb=>a<=b/\b<=0/\k (.one (.c .nil))
   |false=>False
  |_=>False
 |_=>False
def qf(m:List (Nm×Nat×Rt))(p:Pl)(n:Nat):Bool:=
 match cm m p.root with
 |none=>false
 |some r=>match p.path,r.cells[p.off]? with
  |[],_=>Nat.ble (n+1) (r.cells.length-p.off)
  |st::q,some (.ow sub _ _)=>match xL sub (st::q)with
   |some k=>Nat.ble (n+1) k
   |none=>false
  |_,_=>false
def jm(P:Program)(m:List (Nm×Nat×Rt))(t:TypeId)(x:At)(i:Nat)(k:At->Prop):Prop:=
 match(ty P t).k with
 |.st fs=>match fs[i]? with
  |some (off,size+1,_)=>match x with
   |.one (.c (.pl p))=>match qf m p off with
    |true=>k (.one (.c (.pl (p.add off))))
    |false=>False
   |.one (.c (.el row o))=>k (.one (.c (.el row (o+off))))
   |_=>False
  |_=>False
 |_=>False
def gZ(P:Program)(m:List (Nm×Nat×Rt))(t:TypeId)(x i:At)(k:At->Prop):Prop:=
 match i with
 |.one (.c (.d (.i _ n)))=>match(ty P t).k with
  |.sl e=>match x with
   |.one (.c (.d (.li u l)))=>match(ty P e).ok&&Nat.beq (nc u) (ty P e).size with
    |true=>(0<=n/\n.toNat<l.length)/\k (.one (.c (.el (flat u (l.getD n.toNat (dflt u))) 0)))
    |false=>False
   |.one (.c (.rf p))=>match(ty P e).ok&&Nat.ble 1 (ty P e).size with
    |true=>match sliceAt m p with
     |some ⟨sh,_,l⟩=>match Nat.beq sh.length (ty P e).size with
      |true=>(0<=n/\n < (l.length:Int))/\k (.one (.c (.pl (p.at n.toNat (ty P e).size))))
      |false=>False
     |_=>False
    |false=>False
   |_=>False
  |.ar N e=>match x with
   |.one (.c (.ga u l i))=>match(ty P e).ok&&Nat.beq (ty P e).size 1&&leaf u with
    |true=>(0<=n/\n < (N:Int))/\k (.one (.c (.ga u l (n.toNat+i))))
    |false=>False
   |.one (.c (.pl p))=>match(ty P e).ok&&qf m p (n.toNat*(ty P e).size)with
    |true=>(0<=n/\n < (N:Int))/\k (.one (.c (.pl (p.add (n.toNat*(ty P e).size)))))
    |false=>False
   |_=>False
  |_=>False
 |_=>False
def pH(P:Program)(m:List (Nm×Nat×Rt))(t:TypeId)(x:At)(k:At->Prop):Prop:=
 match(ty P t).ok with
 |true=>match x with
  |.one (.c (.el row o))=>match(ty P t).agg with
   |true=>match Nat.ble (o+(ty P t).size) row.length with
    |true=>k (.one (.agg (((row.drop o).take (ty P t).size).map Tt.d)))
    |false=>False
   |false=>match row[o]? with
    |some c=>k (sct c)
    |none=>False
  |.one (.c (.ga u l i))=>match(ty P t).agg,leaf u with
   |false,true=>i<l.length/\k (sct (au u (l.getD i (dflt u))))
   |_,_=>False
  |.one (.c (.pl p))=>match(ty P t).agg with
   |true=>match atT m p (ty P t).size with
    |some ts=>k (.one (.agg (FU p ts)))
    |none=>False
   |false=>match atT m p 1 with
    |some [t']=>k (.one (.c (QZ p t')))
    |_=>False
  |_=>False
 |false=>False
def wA(P:Program)(t:TypeId)(x:At)(i:Nat)(k:At->Prop):Prop:=
 match(ty P t).k,x with
 |.st fs,.one (.agg ts)=>match fs[i]? with
  |some (off,_,some false)=>match ts[off]? with
   |some t'=>k (.one (.c t'))
   |none=>False
  |some (off,size,some true)=>match Nat.ble (off+size) ts.length with
   |true=>k (.one (.agg ((ts.drop off).take size)))
   |false=>False
  |_=>False
 |_,_=>False
def kU(x:At)(k:At->Prop):Prop:=
 match x with
 |.one (.c (.pl _))=>k x
 |.one (.c (.el _ _))=>k x
 |.one (.c (.ga _ _ _))=>k x
 |_=>False
def Tt.sure:Tt->Bool
 |.any=>false
 |.d .any=>false
 |_=>true
def ri:At->Option (List Tt)
 |.one (.c t)=>some [t]
 |.one (.agg ts)=>some ts
 |_=>none
def ta(pl:Nat->Option (Nat×Nat)):List Tt->List (Nat×At)->Option (List Tt)
 |ts,[]=>some ts
 |ts,(i,x)::r=>match pl i,ri x with
  |some (off,size),some cs=>match Nat.beq cs.length size&&Nat.ble (off+cs.length) ts.length&&cs.all Tt.sure with
   |true=>ta pl (overw ts off cs) r
   |false=>none
  |_,_=>none
def lD(s:St)(ps:Array (Nat×Operand)):List (Nat×At):=ps.toList.map λx=>(x.1,evA s x.2)
def wq(P:Program)(t:TypeId)(b:List (Nat×At))(k:At->Prop):Prop:=
 match zst P t with
 |some (zs,a)=>match ta (a[·]?) (zs.map uJ) b with
  |some ts=>k (.one (.agg ts))
  |none=>False
 |none=>False
def De(P:Program)(b a:TypeId)(x:At)(k:At->Prop):Prop:=
 match(ty P b).k,(ty P a).k with
 |.int _,.int κ=>match x with
  |.one (.c (.d c))=>match sF c with
   |some (_,n)=>k (sct (mkC κ (κ.wrap n)))
   |none=>False
  |_=>False
 |.sl e,.str=>match(ty P e).k with
  |.int .u8=>match x with
   |.one (.c (.d (.li .b8 l)))=>k (sct (.s l))
   |.one (.c .nil)=>k (sct (.s []))
   |_=>False
  |_=>False
 |_,_=>False
def we(P:Program)(s:St)(t:TypeId)(d:Tmp)(k:St->Prop):Prop:=
 match zcells P t with
 |some (z::zs)=>match Nat.blt d 1000000 with
  |true=>k (((s.fresh (o6 t d)).root (o6 t d) ⟨true,(z::zs).map uJ,none⟩).put (some d) (.one (.c (.pl ⟨o6 t d,0,[]⟩))))
  |false=>False
 |_=>False
def Sl(s:St)(x:Operand)(d:Tmp)(k:St->Prop):Prop:=
 match ri (evA (s.fresh (.loc d)) x)with
 |some (t::ts)=>match(t::ts).all Tt.sure&&Nat.blt d 1000000 with
  |true=>k (((s.fresh (.loc d)).root (.loc d) ⟨true,t::ts,none⟩).put (some d) (.one (.c (.pl ⟨.loc d,0,[]⟩))))
  |false=>False
 |_=>False
def Ut:=List (TypeId×U)
def Ut.get:Ut->TypeId->Option U
 |[],_=>none
 |(t,u)::r,i=>match Nat.beq t i with
  |true=>some u
  |false=>Ut.get r i
def BW(u:U)(c:Tt):Option (El u):=
 match c with
 |.d .nm=>match u with
  |.mp _ _=>some none
  |_=>none
 |.d c=>ka u c
 |.nil=>match u with
  |.sl _=>some []
  |_=>none
 |_=>none
def l7:(us:List U)->List Tt->Option (Fl us)
 |[],[]=>some ()
 |u::r,c::cs=>match BW u c,l7 r cs with
  |some x,some y=>some (Fl.cons u r x y)
  |_,_=>none
 |_,_=>none
def oE(u:U)(ts:List Tt):Option (El u):=
 match u with
 |.st n=>match l7 (sd n).fs ts with
  |some y=>some ((sd n).mkF y)
  |none=>none
 |u=>match ts with
  |[t]=>BW u t
  |_=>none
def l8(u:U):List (List Tt)->Option (List (El u))
 |[]=>some []
 |r::rs=>match oE u r,l8 u rs with
  |some x,some xs=>some (x::xs)
  |_,_=>none
def Tt.noRf:Tt->Bool
 |.rf _=>false
 |_=>true
def At.noRf:At->Bool
 |.one (.c t)=>t.noRf
 |.one (.agg ts)=>ts.all Tt.noRf
 |_=>true
def ir(P:Program)(E:Ut)(s0:St)(t:TypeId)(len:Nat)(ps:Array (Nat×Operand))(d:Tmp)(k:St->Prop):Prop:=
 match(ty P t).k with
 |.sl e=>match E.get e,zcells P e with
  |some u,some _=>match(ty P e).ok&&Nat.beq (nc u) (ty P e).size&&Nat.ble (len*nc u) 16777216&&Nat.ble len 16777216 with
   |true=>
    let s1:=eJ s0 (ps.toList.map λx=>evA s0 x.2)
    let s:=s1.fresh (.gh d)
    match ta (λi=>some (i*nc u,nc u)) (List.replicate (len*nc u) .any) (lD s ps),(lD s1 ps).all (λx=>x.2.noRf)with
    |some ts,true=>match l8 u (chunk (nc u) len ts)with
     |some l=>k ((s.root (.gh d) ⟨false,[.ow (List.replicate (nc u) .fr) u l],none⟩).put (some d) (.one (.c (.rf ⟨.gh d,0,[]⟩))))
     |none=>False
    |_,_=>False
   |false=>False
  |_,_=>False
 |_=>False
def Tt.owned:Tt->Bool
 |.ow _ _ _=>true
 |.mp _ _ _=>true
 |.mo _ _ _ _=>true
 |.it _ _ _ _=>true
 |_=>false
def Lb(u:U)(x:El u)(off:Nat)(c:C):Option (El u):=match(flat u x)[off]? with
 |some _=>unflat u ((flat u x).set off c)
 |none=>none
def Li(sub:List Sh)(u:U)(l:List (El u))(t:Tt):List Step->Option (List (El u))
 |[]=>none
 |[st]=>match sub[st.off]?,t with
  |some .fr,.d c=>match Lb u (l.getD st.idx (dflt u)) st.off c with
   |some x=>some (l.set st.idx x)
   |none=>none
  |some .fr,.nil=>match(flat u (l.getD st.idx (dflt u)))[st.off]? with
   |some (.li u' _)=>match Lb u (l.getD st.idx (dflt u)) st.off (.li u' [])with
    |some x=>some (l.set st.idx x)
    |none=>none
   |_=>none
  |_,_=>none
 |st::a::r=>match sub[st.off]?,(flat u (l.getD st.idx (dflt u)))[st.off]? with
  |some (.ow s),some (.li u' l')=>match Li s u' l' t (a::r)with
   |some b=>match Lb u (l.getD st.idx (dflt u)) st.off (.li u' b)with
    |some x=>some (l.set st.idx x)
    |none=>none
   |none=>none
  |_,_=>none
mutual
def Q8:Sh->Sh->Bool
 |.fr,.fr=>true
 |.ow a,.ow b=>mP a b
 |_,_=>false
def mP:List Sh->List Sh->Bool
 |[],[]=>true
 |a::r,b::q=>Q8 a b&&mP r q
 |_,_=>false
end
def I6(sub:List Sh)(u:U)(l:List (El u))(sh:List Sh)(v:U)(c:List (El v)):List Step->Option (List (El u))
 |[]=>none
 |[st]=>match sub[st.off]?,(flat u (l.getD st.idx (dflt u)))[st.off]? with
  |some (.ow s),some _=>match mP s sh,Lb u (l.getD st.idx (dflt u)) st.off (.li v c)with
   |true,some x=>some (l.set st.idx x)
   |_,_=>none
  |_,_=>none
 |st::a::r=>match sub[st.off]?,(flat u (l.getD st.idx (dflt u)))[st.off]? with
  |some (.ow s),some (.li u' l')=>match I6 s u' l' sh v c (a::r)with
   |some b=>match Lb u (l.getD st.idx (dflt u)) st.off (.li u' b)with
    |some x=>some (l.set st.idx x)
    |none=>none
   |none=>none
  |_,_=>none
def frs(sub:List Sh)(off:Nat):Nat->Bool
 |0=>true
 |n+1=>match sub[off]? with
  |some .fr=>frs sub (off+1) n
  |_=>false
def lB(cs:List C)(off:Nat):List Tt->Option (List C)
 |[]=>some cs
 |.d c::r=>match c,cs[off]? with
  |.any,_=>none
  |c,some _=>lB (cs.set off c) (off+1) r
  |_,none=>none
 |.nil::r=>match cs[off]? with
  |some (.li u' _)=>lB (cs.set off (.li u' [])) (off+1) r
  |_=>none
 |_=>none
def vH(sub:List Sh)(u:U)(l:List (El u))(ts:List Tt):List Step->Option (List (El u))
 |[]=>none
 |[st]=>match frs sub st.off ts.length,lB (flat u (l.getD st.idx (dflt u))) st.off ts with
  |true,some cs=>match unflat u cs with
   |some x=>some (l.set st.idx x)
   |none=>none
  |_,_=>none
 |st::a::r=>match sub[st.off]?,(flat u (l.getD st.idx (dflt u)))[st.off]? with
  |some (.ow s),some (.li u' l')=>match vH s u' l' ts (a::r)with
   |some b=>match Lb u (l.getD st.idx (dflt u)) st.off (.li u' b)with
    |some x=>some (l.set st.idx x)
    |none=>none
   |none=>none
  |_,_=>none
def tG(sub:List Sh)(u:U)(l:List (El u)):List Step->Prop->Prop
 |[],_=>False
 |[st],k=>st.idx<l.length/\k
 |st::a::r,k=>match sub[st.off]?,(flat u (l.getD st.idx (dflt u)))[st.off]? with
  |some (.ow s),some (.li u' l')=>st.idx<l.length/\tG s u' l' (a::r) k
  |_,_=>False
def s9:List Step->List Step->Prop->Prop
 |[],[],p=>p
 |a::r,b::q,p=>match Nat.beq a.esz b.esz&&Nat.beq a.off b.off with
  |true=>a.idx=b.idx/\s9 r q p
  |false=>False
 |_,_,_=>False
def K2(s:St)(p:Pl)(t:Tt)(k:St->Prop):Prop:=
 match cm s.m p.root with
 |none=>False
 |some r=>match p.path,r.hole,r.cells[p.off]? with
  |[],none,some t0=>match t0.owned with
   |false=>k ⟨s.nx+1,s.t,fp s.m p.root s.nx { r with cells:=r.cells.set p.off t }⟩
   |true=>False
  |st::q,none,some (.ow sub u l)=>match Li sub u l t (st::q)with
   |some l'=>tG sub u l (st::q) (k ⟨s.nx+1,s.t,fp s.m p.root s.nx { r with cells:=r.cells.set p.off (.ow sub u l') }⟩)
   |none=>False
  |st::q,some (off,a,c),some (.ow sub u l)=>match Nat.beq off p.off,t with
   |true,.ow sh v b=>match I6 sub u l sh v b (st::q)with
    |some l'=>tG sub u l (st::q) (s9 (a::c) (st::q) (k ⟨s.nx+1,s.t,fp s.m p.root s.nx ⟨r.blk,r.cells.set p.off (.ow sub u l'),none⟩⟩))
    |none=>False
   |_,_=>False
  |_,_,_=>False
def aj9:Tt->Bool
 |.d _=>true
 |.nil=>true
 |_=>false
def afM(p:Pl)(ts:List Tt):Bool:=!p.path.isEmpty&&Nat.blt 1 ts.length&&ts.all aj9
def rW(s:St)(p:Pl)(ts:List Tt)(k:St->Prop):Prop:=
 match cm s.m p.root with
 |none=>False
 |some r=>match p.path,r.hole,r.cells[p.off]? with
  |st::q,none,some (.ow sub u l)=>match vH sub u l ts (st::q)with
   |some l'=>tG sub u l (st::q) (k ⟨s.nx+1,s.t,fp s.m p.root s.nx { r with cells:=r.cells.set p.off (.ow sub u l') }⟩)
   |none=>False
  |_,_,_=>False
def kE(s:St)(p:Pl):List Tt->(St->Prop)->Prop
 |[],k=>k s
 |.rf q::ts,k=>match cm s.m q.root with
  |some ⟨false,[.ow sub u l],none⟩=>match q.path,decide (q.root=p.root),ts.all λt=>!t.ment q.root with
   |[],false,true=>K2 (s.drop q.root) p (.ow sub u l) λs'=>kE s' (p.add 1) ts k
   |_,_,_=>False
  |_=>False
 |.any::_,_=>False
 |.d .any::_,_=>False
 |t::ts,k=>K2 s p t λs'=>kE s' (p.add 1) ts k
def xg(P:Program)(s:St)(t:TypeId)(x v:At)(k:St->Prop):Prop:=
 match x,ri v with
 |.one (.c (.pl p)),some ts=>match(ty P t).ok&&Nat.beq ts.length (ty P t).size&&qf s.m p (ts.length - 1)with
  |true=>match afM p ts with
   |true=>rW s p ts k
   |false=>kE s p ts k
  |false=>False
 |_,_=>False
def ZT(s:St)(q:Pl):Option St:=
 match cm s.m q.root with
 |none=>none
 |some r=>match q.path,r.hole with
  |[],none=>some ⟨s.nx+1,nF (thr q) s.nx s.t,cO (thr q) s.nx (fp s.m q.root s.nx { r with cells:=r.cells.set q.off .any })⟩
  |st::p,none=>some ⟨s.nx+1,nF (thr q) s.nx s.t,cO (thr q) s.nx (fp s.m q.root s.nx { r with hole:=some (q.off,st,p) })⟩
  |_,_=>none
def ah8(u:U):At->Option (List (El u))
 |.one (.c .nil)=>some []
 |.one (.c (.d (.li u' l)))=>sA u' u l
 |.one (.c (.d (.s b)))=>match u with
  |.b8=>some b
  |_=>none
 |_=>none
def pX(s:St)(u:U):At->Option (St×List Sh×List (El u))
 |.one (.c .nil)=>some (s,List.replicate (nc u) .fr,[])
 |.one (.c (.rf q))=>match sliceAt s.m q with
  |some ⟨sub,u',l⟩=>match sA u' u l,Nat.beq sub.length (nc u),ZT s q with
   |some l',true,some s'=>some (s',sub,l')
   |_,_,_=>none
  |none=>none
 |_=>none
def q8(P:Program)(E:Ut)(a:St)(t u0:TypeId)(x y:Operand)(d:Tmp)(k:St->Prop):Prop:=
 let s:=ja a (evA a y)
 match(ty P t).k with
 |.sl e=>match E.get e,zcells P e with
  |some u,some z=>match(ty P e).ok&&(ty P u0).k.isSS&&Nat.beq z.length (ty P e).size&&Nat.beq (nc u) (ty P e).size with
   |true=>match ah8 u (evA s y),pX s u (evA s x)with
    |some ys,some (s1,sub,l)=>match sub.all Sh.isFr with
     |true=>(l.length+ys.length<=4611686018427387904/\(l.length+ys.length)*(ty P e).bytes<=140737488355328) /\
      k (((s1.fresh (.gh d)).root (.gh d) ⟨false,[.ow sub u (l++ys)],none⟩).put (some d) (.one (.c (.rf ⟨.gh d,0,[]⟩))))
     |false=>False
    |_,_=>False
   |false=>False
  |_,_=>False
 |_=>False
def qL:List Sh->List Tt->Bool
 |[],[]=>true
 |.fr::r,_::ts=>qL r ts
 |.ow _::r,.nil::ts=>qL r ts
 |_,_=>false
def fZ(P:Program)(E:Ut)(sub:List Sh)(s0:St)(t:TypeId)(len:Nat)(ps:Array (Nat×Operand))(d:Tmp)(k:St->Prop):Prop:=
 match(ty P t).k with
 |.sl e=>match E.get e,zcells P e with
  |some u,some _=>match(ty P e).ok&&Nat.beq (nc u) (ty P e).size&&Nat.ble (len*nc u) 16777216&&Nat.ble len 16777216&&Nat.beq sub.length (nc u)with
   |true=>
    let s1:=eJ s0 (ps.toList.map λx=>evA s0 x.2)
    let s:=s1.fresh (.gh d)
    match ta (λi=>some (i*nc u,nc u)) (List.replicate (len*nc u) .any) (lD s ps),(lD s1 ps).all (λx=>x.2.noRf)with
    |some ts,true=>match l8 u (chunk (nc u) len ts),qL (List.replicate len sub).flatten ts with
     |some l,true=>k ((s.root (.gh d) ⟨false,[.ow sub u l],none⟩).put (some d) (.one (.c (.rf ⟨.gh d,0,[]⟩))))
     |_,_=>False
    |_,_=>False
   |false=>False
  |_,_=>False
 |_=>False
def D9:List Tt->Nat->Option (Nat×Pl)
 |[],_=>none
 |.rf q::_,j=>some (j,q)
 |_::r,j=>D9 r (j+1)
def ah5(sub:List Sh)(s:St)(ps:Array (Nat×Operand)):Bool:=match lD s ps with
 |[(0,.one (.agg ts))]=>match D9 ts 0 with
  |some (j,_)=>match sub[j]? with
   |some (.ow _)=>true
   |_=>false
  |none=>false
 |_=>false
def gf(P:Program)(E:Ut)(sub:List Sh)(s:St)(t:TypeId)(len:Nat)(ps:Array (Nat×Operand))(d:Tmp)(k:St->Prop):Prop:=
 match(ty P t).k with
 |.sl e=>match E.get e,zcells P e,lD s ps with
  |some u,some _,[(0,.one (.agg ts))]=>match D9 ts 0 with
   |some (j,q)=>match sub[j]?,sliceAt s.m q with
    |some (.ow b),some ⟨_,u',_⟩=>match pX s u' (.one (.c (.rf q)))with
     |some (s1,a,l')=>match(ty P e).ok&&Nat.beq (nc u) (ty P e).size&&Nat.ble (nc u) 16777216&&Nat.beq len 1&&Nat.beq sub.length (nc u)&&Nat.beq ts.length (nc u)&&(mP a b&&((ts.set j .nil).all Tt.noRf&&qL sub (ts.set j .nil))),l8 u [ts.set j (.d (.li u' l'))]with
      |true,some l=>k (((s1.fresh (.gh d)).root (.gh d) ⟨false,[.ow sub u l],none⟩).put (some d) (.one (.c (.rf ⟨.gh d,0,[]⟩))))
      |_,_=>False
     |none=>False
    |_,_=>False
   |none=>False
  |_,_,_=>False
 |_=>False
def mZ(P:Program)(E:Ut)(s:St)(t u0:TypeId)(x y:Operand)(d:Tmp)(k:St->Prop):Prop:=
 match(ty P t).k with
 |.sl e=>match E.get e,zcells P e with
  |some u,some z=>match(ty P e).ok&&(ty P u0).k.isSS&&Nat.beq z.length (ty P e).size&&Nat.beq (nc u) (ty P e).size with
   |true=>match pX s u (evA s y)with
    |some (s1,a,ys)=>match pX s1 u (evA s1 x)with
     |some (s2,sub,l)=>match mP a sub with
      |true=>(l.length+ys.length<=4611686018427387904/\(l.length+ys.length)*(ty P e).bytes<=140737488355328) /\
       k (((s2.fresh (.gh d)).root (.gh d) ⟨false,[.ow sub u (l++ys)],none⟩).put (some d) (.one (.c (.rf ⟨.gh d,0,[]⟩))))
      |false=>False
     |none=>False
    |none=>False
   |false=>False
  |_,_=>False
 |_=>False
def ahU(s:St):At->Bool
 |.one (.c (.rf q))=>match sliceAt s.m q with
  |some ⟨sub,_,_⟩=>!(sub.all Sh.isFr)
  |none=>false
 |_=>false
def XS(sub:List Sh):List Step->Bool
 |[]=>false
 |[st]=>match sub[st.off]? with
  |some .fr=>true
  |_=>false
 |st::a::r=>match sub[st.off]? with
  |some (.ow s)=>XS s (a::r)
  |_=>false
def ag8(m:List (Nm×Nat×Rt))(p:Pl):Bool:=
 match cm m p.root with
 |none=>false
 |some r=>match p.path,r.hole,r.cells[p.off]? with
  |st::q,none,some (.ow sub _ _)=>XS sub (st::q)
  |_,_,_=>false
def ae4(m:List (Nm×Nat×Rt))(n:Nm):Bool:=
 match cm m n with
 |some r=>r.blk
 |none=>false
def xD(s:St)(p:Pl):List Tt->St
 |[]=>s
 |.rf q::ts=>match ag8 s.m p||ae4 s.m q.root with
  |true=>xD (uO s q) (p.add 1) ts
  |false=>xD s (p.add 1) ts
 |_::ts=>xD s (p.add 1) ts
def Jl(s:St)(x v:At):St:=
 match x,ri v with
 |.one (.c (.pl p)),some ts=>xD s p ts
 |_,_=>s
abbrev PKt:=Value->St->Prop
abbrev CKt:=PKt->St->List Operand->(St->At->Prop)->Prop
abbrev CTt:=List (Nat×CKt)
def CTt.get:CTt->Nat->Option CKt
 |[],_=>none
 |(f,c)::r,i=>match Nat.beq f i with
  |true=>some c
  |false=>CTt.get r i
def Yk:At->Bool
 |.one (.c (.d (.s _)))=>true
 |_=>false
structure En where
 P:Program
 E:Ut
 cs:CTt
 sh:List (TypeId×List Sh)
 pk:PKt
def jb:List (TypeId×List Sh)->TypeId->Option (List Sh)
 |[],_=>none
 |(t,u)::r,i=>match Nat.beq t i with
  |true=>some u
  |false=>jb r i
def akC(e:En)(t:TypeId):Option (List Sh):=match(ty e.P t).k with
 |.sl el=>jb e.sh el
 |_=>none
def AQ(a:Nat):List Sh->Nat->St->St
 |[],_,s=>s
 |.fr::r,j,s=>AQ a r (j+1) s
 |.ow _::r,j,s=>match gtA s.t a with
  |.one (.agg ts)=>match ts[j]? with
   |some (.rf q)=>match q.path,ae4 s.m q.root,sliceAt s.m q with
    |[],true,some ⟨_,u,_⟩=>match pX s u (.one (.c (.rf q)))with
     |some (s1,sub,l)=>
      let s2:=(s1.fresh (.gh (700000+j))).root (.gh (700000+j)) ⟨false,[.ow sub u l],none⟩
      match gtA s2.t a with
      |.one (.agg b)=>AQ a r (j+1) (s2.put (some a) (.one (.agg (b.set j (.rf ⟨.gh (700000+j),0,[]⟩)))))
      |_=>AQ a r (j+1) s2
     |none=>AQ a r (j+1) s
    |_,_,_=>AQ a r (j+1) s
   |_=>AQ a r (j+1) s
  |_=>s
def N8(sh:List (TypeId×List Sh))(s:St)(t:TypeId)(v:Operand):St:=match jb sh (t+1000000),v with
 |some l,.tmp a=>AQ a l 0 s
 |_,_=>s
def ag7:At->Option Nat
 |.one (.c (.d (.v (.func (.func f) a b))))=>match a.size,b.size with
  |0,0=>some f
  |_,_=>none
 |.one (.c (.d (.fn c)))=>match c.caps with
  |[]=>some c.fn
  |_=>none
 |_=>none
def IW:At->Option Nat
 |.one (.c (.d (.fn c)))=>some (c.fn+1000000)
 |_=>none
def tdC:List Tt->Option (List C)
 |[]=>some []
 |.d c::r=>match c with
  |.any=>none
  |c=>(tdC r).map (c::·)
 |_=>none
def Tt.frB(n:Nm)(row:List C):Tt->Tt
 |.pl p=>match p.path with
  |[]=>if p.root=n then .el row p.off else .pl p
  |_=>(Tt.pl p).kill (bJ n)
 |t=>t.kill (bJ n)
def Ji(s:St)(n:Nm):St:=match cm s.m n with
 |some ⟨true,cells,none⟩=>match tdC cells with
  |some row=>⟨s.nx+1,s.t.map λx=>(x.1,stp (x.2.2.hit (bJ n)) s.nx x.2.1,x.2.2.map (Tt.frB n row)),cO (bJ n) s.nx (fN s.m n)⟩
  |none=>s
 |_=>s
def uN:St->List At->St
 |s,[]=>s
 |s,.one (.c (.pl ⟨n,_,[]⟩))::r=>uN (Ji s n) r
 |s,_::r=>uN s r
def IT(row:List C):List U->Option Lt.Cap
 |[]=>none
 |n::r=>match unflat n row with
  |some x=>match agV n x with
   |some c=>some c
   |none=>IT row r
  |none=>IT row r
def EQ(s:St):List Operand->Option (List Lt.Cap)
 |[]=>some []
 |x::r=>match evA s x with
  |.one (.c (.el row 0))=>match Nat.beq row.length 1,IT row aj6,EQ s r with
   |false,some c,some cs=>some (c::cs)
   |_,_,_=>none
  |_=>none
def kS(s0:St)(f:Nat)(caps:List Operand)(d:Option Tmp)(k:St->Prop):Prop:=
 let s:=uN s0 (caps.map (evA s0))
 match EQ s caps with
 |some cs=>k (s.put d (sct (.fn ⟨f,cs⟩)))
 |none=>False
def ab1(c:Lt.Cap):At:=.one (.c (.el (flat (EP c).1 (EP c).2) 0))
def uO1(P:Program)(t:TypeId):Option U:=match(ty P t).k with
 |.str=>some .s
 |.bool=>some .bo
 |.int .u8=>some .b8
 |.int k=>some (.i k)
 |_=>none
def uOf(P:Program)(E:Ut)(t:TypeId):Option U:=match(ty P t).k with
 |.sl e=>match E.get e with
  |some u=>some (.sl u)
  |none=>none
 |.mp k v=>match uO1 P k,uO1 P v with
  |some a,some b=>some (.mp a b)
  |_,_=>none
 |_=>uO1 P t
def jQ(P:Program)(t:TypeId):U->Bool
 |.s=>decide ((ty P t).k=.str)
 |.bo=>decide ((ty P t).k=.bool)
 |.i k=>decide ((ty P t).k=.int k)
 |_=>false
def uV:(u:U)->El u->El u->Bool
 |.i _,a,b=>decide ((a:Int)=b)
 |.bo,a,b=>(a:Bool)==b
 |.s,a,b=>decide ((a:List UInt8)=b)
 |_,_,_=>false
variable{β:Type}
def aU(ku:U):List (El ku×β)->El ku->Option β
 |[],_=>none
 |x::l,k=>match uV ku x.1 k with
  |true=>some x.2
  |false=>aU ku l k
def dz(ku:U):List (El ku×β)->El ku->β->List (El ku×β)
 |[],k,v=>[(k,v)]
 |x::l,k,v=>match uV ku x.1 k with
  |true=>(k,v)::l
  |false=>x::dz ku l k v
def zOK(P:Program)(t:TypeId)(u:U):Bool:=match(P.info? t).bind (·.zero),u with
 |some (.int k n),.i k'=>decide (k=k')&&decide (n=0)&&decide (k≠.u8)
 |some (.bool b),.bo=>!b
 |some (.string s),.s=>s.data.toList.isEmpty
 |some (.slice none 0 0),.sl _=>true
 |some (.map none),.mp _ _=>true
 |_,_=>false
def wN(m:List (Nm×Nat×Rt))(p:Pl):Option ((ku:U)×(vu:U)×List (El ku×El vu)):=match p with
 |⟨n,0,[]⟩=>match cm m n with
  |some ⟨false,[.mp ku vu l],none⟩=>some ⟨ku,vu,l⟩
  |_=>none
 |_=>none
def wL(m:List (Nm×Nat×Rt))(n:Nm):Option ((ku:U)×(u:U)×List (El ku×List (El u))×Option (El ku)):=match cm m n with
 |some ⟨false,[.mo ku u l h],none⟩=>some ⟨ku,u,l,h⟩
 |_=>none
def ajK(s:St):At->Bool
 |.one (.c (.rf ⟨n,0,[]⟩))=>(wL s.m n).isSome
 |_=>false
def ajP(vu:U)(ok:Bool)(r:Option (El vu)):At:=match ok with
 |true=>.tup [.c (.d (au vu (r.getD (dflt vu)))),.c (.d (.bo r.isSome))]
 |false=>.one (.c (.d (au vu (r.getD (dflt vu)))))
def jO(P:Program)(E:Ut)(own:Bool)(s:St)(t:TypeId)(d:Tmp)(k:St->Prop):Prop:=match(ty P t).k with
 |.mp kt et=>match uOf P E kt,uOf P E et,own with
  |some ku,some vu,false=>k (((s.fresh (.gh d)).root (.gh d) ⟨false,[.mp ku vu []],none⟩).put (some d) (.one (.c (.rf ⟨.gh d,0,[]⟩))))
  |some ku,some (.sl u),true=>k (((s.fresh (.gh d)).root (.gh d) ⟨false,[.mo ku u [] none],none⟩).put (some d) (.one (.c (.rf ⟨.gh d,0,[]⟩))))
  |_,_,_=>False
 |_=>False
def rJ(P:Program)(m:List (Nm×Nat×Rt))(t:TypeId)(x key:At)(ok:Bool)(k:At->Prop):Prop:=match(ty P t).k with
 |.mp kt et=>match x,key with
  |.one (.c (.rf p)),.one (.c (.d c))=>match wN m p with
   |some ⟨ku,vu,l⟩=>match jQ P kt ku&&zOK P et vu,ka ku c with
    |true,some kx=>k (ajP vu ok (aU ku l kx))
    |_,_=>False
   |none=>False
  |.one (.c (.d (.mp ku vu z))),.one (.c (.d c))=>match jQ P kt ku&&(zOK P et vu&&leaf vu),ka ku c with
   |true,some kx=>k (ajP vu ok (aU ku (z.getD []) kx))
   |_,_=>False
  |_,_=>False
 |_=>False
def rM(P:Program)(s:St)(t:TypeId)(x key v:At)(k:St->Prop):Prop:=match(ty P t).k with
 |.mp kt _=>match x,key,v with
  |.one (.c (.rf p)),.one (.c (.d c)),.one (.c tv)=>match wN s.m p with
   |some ⟨ku,vu,l⟩=>match jQ P kt ku&&leaf vu,ka ku c,oE vu [tv]with
    |true,some kx,some a=>k ⟨s.nx+1,s.t,fp s.m p.root s.nx ⟨false,[.mp ku vu (dz ku l kx a)],none⟩⟩
    |_,_,_=>False
   |none=>False
  |_,_,_=>False
 |_=>False
def S5(ku:U):List (El ku×β)->El ku->List (El ku×β)
 |[],_=>[]
 |x::l,k=>match uV ku x.1 k with
  |true=>l
  |false=>x::S5 ku l k
def rG(P:Program)(s:St)(t:TypeId)(x key:At)(k:St->Prop):Prop:=match(ty P t).k with
 |.mp kt _=>match x,key with
  |.one (.c (.rf p)),.one (.c (.d c))=>match wN s.m p with
   |some ⟨ku,vu,l⟩=>match jQ P kt ku,ka ku c with
    |true,some kx=>k ⟨s.nx+1,s.t,fp s.m p.root s.nx ⟨false,[.mp ku vu (S5 ku l kx)],none⟩⟩
    |_,_=>False
   |none=>False
  |_,_=>False
 |_=>False
def nM(P:Program)(s:St)(t:TypeId)(x key:Operand)(d:Tmp)(k:St->Prop):Prop:=match(ty P t).k with
 |.mp kt et=>
  let s1:=s.fresh (.gh d)
  match evA s1 x,evA s1 key with
  |.one (.c (.rf ⟨n,0,[]⟩)),.one (.c (.d c))=>match wL s1.m n with
   |some ⟨ku,u,l,none⟩=>match jQ P kt ku&&zOK P et (.sl u),ka ku c with
    |true,some kx=>k (((⟨s1.nx+1,s1.t,fp s1.m n s1.nx ⟨false,[.mo ku u l (some kx)],none⟩⟩:St).root (.gh d) ⟨false,[.ow (List.replicate (nc u) .fr) u ((aU ku l kx).getD [])],none⟩).put (some d) (.one (.c (.rf ⟨.gh d,0,[]⟩))))
    |_,_=>False
   |_=>False
  |_,_=>False
 |_=>False
def rL(P:Program)(s:St)(t:TypeId)(x key v:At)(k:St->Prop):Prop:=match(ty P t).k with
 |.mp kt _=>match x,key,v with
  |.one (.c (.rf ⟨n,0,[]⟩)),.one (.c (.d c)),.one (.c (.rf ⟨q,0,[]⟩))=>match wL s.m n,cm s.m q with
   |some ⟨ku,u,l,h⟩,some ⟨false,[.ow sub u' rows],none⟩=>match jQ P kt ku&&(mP sub (List.replicate (nc u) .fr)&&!(decide (q=n))),ka ku c,sA u' u rows with
    |true,some kx,some a=>(match h with
     |some k0=>kx=k0
     |none=>True)/\(let s1:=s.drop q;k ⟨s1.nx+1,s1.t,fp s1.m n s1.nx ⟨false,[.mo ku u (dz ku l kx a) none],none⟩⟩)
    |_,_,_=>False
   |_,_=>False
  |_,_,_=>False
 |_=>False
def wY(P:Program)(s0:St)(t:TypeId)(x:Operand)(d:Tmp)(k:St->Prop):Prop:=
 let s:=ja s0 (evA s0 x)
 match(ty P t).k with
 |.mp kt _=>match evA (s.fresh (.gh d)) x with
  |.one (.c (.d (.mp ku vu z)))=>match jQ P kt ku&&leaf vu with
   |true=>k (((s.fresh (.gh d)).root (.gh d) ⟨false,[.it ku vu none (z.getD [])],none⟩).put (some d) (.one (.c (.rf ⟨.gh d,0,[]⟩))))
   |false=>False
  |_=>False
 |_=>False
def acZ(m:List (Nm×Nat×Rt)):At->Option (Nm×((ku:U)×(vu:U)×Option (El ku×El vu)×List (El ku×El vu)))
 |.one (.c (.rf ⟨n,0,[]⟩))=>match cm m n with
  |some ⟨false,[.it ku vu cur rest],none⟩=>some (n,⟨ku,vu,cur,rest⟩)
  |_=>none
 |_=>none
def DG(s:St)(x:At)(d:Option Tmp)(k:St->Prop):Prop:=match acZ s.m x with
 |some (n,⟨ku,vu,_,rest⟩)=>(rest=[]->k (s.put d (.tup [.c (.d (.bo false))])))/\∀i,i<rest.length ->
   k ((⟨s.nx+1,s.t,fp s.m n s.nx ⟨false,[.it ku vu (some (rest.getD i (dflt ku,dflt vu))) (rest.eraseIdx i)],none⟩⟩:St).put d
    (.tup [.c (.d (.bo true)),.c (.d (au ku (rest.getD i (dflt ku,dflt vu)).1)),.c (.d (au vu (rest.getD i (dflt ku,dflt vu)).2))]))
 |none=>False
def rk(s:St)(x:At)(d:Option Tmp)(k:St->Prop):Prop:=match acZ s.m x with
 |some (_,⟨ku,vu,some y,_⟩)=>k (s.put d (.tup [.c (.d (au ku y.1)),.c (.d (au vu y.2))]))
 |_=>False
def rK(s:St)(x:At)(d:Tmp)(k:St->Prop):Prop:=match x with
 |.one (.c (.d (.mp _ _ z)))=>(z.getD []).length<=4611686018427387904/\k (s.put (some d) (sct (.i .i64 ((z.getD []).length:Int))))
 |.one (.c (.rf p))=>match wN s.m p with
  |some ⟨_,_,l⟩=>l.length<=4611686018427387904/\k (s.put (some d) (sct (.i .i64 (l.length:Int))))
  |none=>False
 |_=>False
def ahV(e:En)(o:Oper):Bool:=match o.op,o.dst with
 |.slice _ _ none (some _) none,some d=>(jb e.sh (3000000+d)).isSome
 |.assign _,some d=>(jb e.sh (5000000+d)).isSome
 |.call c,some _=>match c.callee,c.argTypes.toList with
  |.builtin .len,[t]=>match(ty e.P t).k with
   |.mp _ _=>true
   |_=>false
  |_,_=>false
 |.indexAddr _ _ _,some d=>(jb e.sh (8000000+d)).isSome
 |_,_=>false
def nR(e:En)(s:St)(t:TypeId)(x hi:Operand)(d:Tmp)(k:St->Prop):Prop:=match(ty e.P t).k with
 |.sl el=>match evA s x,evA s hi with
  |.one (.c (.rf q)),.one (.c (.d (.i .i64 n)))=>match sliceAt s.m q with
   |some ⟨_,u,_⟩=>match(ty e.P el).ok,pX s u (.one (.c (.rf q)))with
    |true,some (s1,sub,l)=>(0<=n/\n.toNat<=l.length)/\k (((s1.fresh (.gh d)).root (.gh d) ⟨false,[.ow sub u (l.take n.toNat)],none⟩).put (some d) (.one (.c (.rf ⟨.gh d,0,[]⟩))))
    |_,_=>False
   |none=>False
  |_,_=>False
 |_=>False
def rH(s:St)(x:Operand)(d:Tmp)(k:St->Prop):Prop:=match evA s x with
 |.one (.c (.rf ⟨n,0,[]⟩))=>match wL s.m n with
  |some ⟨ku,u,l,none⟩=>k ((⟨s.nx+1,s.t,fp s.m n s.nx ⟨false,[.mp ku (.sl u) l],none⟩⟩:St).put (some d) (.one (.c (.rf ⟨n,0,[]⟩))))
  |_=>False
 |_=>False
def BF:List C->Option (List (List UInt8))
 |[]=>some []
 |.s x::r=>match BF r with
  |some l=>some (x::l)
  |none=>none
 |_=>none
def Ln(e:En)(o:Oper)(s:St)(k:St->Prop):Prop:=match o.op,o.dst with
 |.slice t x none (some hi) none,some d=>nR e s t x hi d k
 |.assign x,some d=>rH s x d k
 |.call c,some d=>match c.args.toList with
  |[x]=>rK s (evA s x) d k
  |_=>False
 |.indexAddr t x i,some d=>
  let s1:=uN s [evA s x]
  match evA s1 x with
  |.one (.c (.el row 0))=>match BF row with
   |some l=>gZ e.P s1.m t (.one (.c (.ga .s l 0))) (evA s1 i) λv=>k (s1.put (some d) v)
   |none=>False
  |_=>False
 |_,_=>False
def ZJ:List Sh->U->Bool
 |[.fr],_=>true
 |[.ow _],.sl _=>true
 |_,_=>false
def F7:Operand->Operand->Bool
 |.tmp a,.tmp b=>Nat.beq a b
 |_,_=>false
def ju(e:En)(s:St)(t:TypeId)(n c:At)(same:Bool)(d:Tmp)(k:St->Prop):Prop:=match(ty e.P t).k,same with
 |.sl el,true=>match n with
  |.one (.c (.d (.i .i64 n)))=>match e.E.get el with
   |some u=>match zOK e.P el u&&Nat.beq (ty e.P el).size 1&&ZJ ((jb e.sh el).getD [.fr]) u with
    |true=>(0<=n/\n<=4611686018427387904/\(ty e.P el).bytes*n.toNat<=281474976710656) /\
     k (((s.fresh (.gh d)).root (.gh d) ⟨false,[.ow ((jb e.sh el).getD [.fr]) u (List.replicate n.toNat (dflt u))],none⟩).put (some d) (.one (.c (.rf ⟨.gh d,0,[]⟩))))
    |false=>False
   |none=>False
  |_=>False
 |_,_=>False
def KV(s:St)(o:Oper):St:=
 match o.op with
 |.convert _ _ x=>ja s (evA s x)
 |.slice _ x _ _ _=>ja s (evA s x)
 |_=>s
def qT(e:En)(o:Oper)(s:St)(k:At->Prop):Prop:=
 match o.op with
 |.move x=>k (evA s x)
 |.assign x=>k (evA s x)
 |.pick c x y=>DU (evA s c) (evA s x) (evA s y) k
 |.binOp op t x y _=>Sf e.P op t (evA s x) (evA s y) k
 |.unOp op _ x=>unT op (evA s x) k
 |.load t x=>pH e.P s.m t (evA s x) k
 |.field t x i=>wA e.P t (evA s x) i k
 |.fieldAddr t x i=>jm e.P s.m t (evA s x) i k
 |.indexAddr t x i=>gZ e.P s.m t (evA s x) (evA s i) k
 |.index t x i=>match(ty e.P t).k with
  |.str=>xi (evA s x) (evA s i) k
  |_=>False
 |.extract x i=>nk (evA s x) i k
 |.convert b a x=>De e.P b a (evA s x) k
 |.slice t x lo hi none=>xe e.P t (evA s x) (lo.map (evA s)) (hi.map (evA s)) k
 |.nilCheck x=>kU (evA s x) k
 |.build t ps=>wq e.P t (lD s ps) k
 |.call c=>match c.callee,c.args.toList,c.argTypes.toList with
  |.builtin .len,[x],[t]=>match AA (ty e.P t).k (Yk (evA s x))with
   |true=>Ud o.guard s.m (evA s x) λn=>k (sct (.i .i64 (n:Int)))
   |false=>False
  |_,_,_=>False
 |_=>False
def lT(e:En)(o:Oper)(s:St)(k:St->Prop):Prop:=
 match o.op with
 |.store t x v=>let s0:=N8 e.sh s t v;let s1:=Jl s0 (evA s0 x) (evA s0 v);xg e.P s1 t (evA s1 x) (evA s1 v) λs'=>k (s'.put o.dst .any)
 |.alloc t=>match o.dst with
  |some d=>we e.P s t d k
  |none=>False
 |.box _ x=>match o.dst with
  |some d=>Sl s x d k
  |none=>False
 |.buildSlice t n ps=>match o.dst with
  |some d=>match akC e t with
   |none=>ir e.P e.E s t n ps d k
   |some sub=>match ah5 sub s ps with
    |true=>gf e.P e.E sub s t n ps d k
    |false=>fZ e.P e.E sub s t n ps d k
  |none=>False
 |.call c=>match c.callee,c.args.toList,c.argTypes.toList with
  |.builtin .append,[x,y],[t,u]=>match o.dst with
   |some d=>match ahU s (evA s x)with
    |false=>q8 e.P e.E s t u x y d k
    |true=>mZ e.P e.E s t u x y d k
   |none=>False
  |.builtin .delete,[x,i],t::_=>rG e.P s t (evA s x) (evA s i) λs'=>k (s'.put o.dst (.tup []))
  |.value (.func f),args,_=>match e.cs.get f,Nat.blt f 1000000 with
   |some C,true=>C e.pk s args λs' av=>k (s'.put o.dst av)
   |_,_=>False
  |.value (.tmp t),args,_=>match Nat.blt t 100000,ag7 (gtA s.t t)with
   |true,some f=>match e.cs.get f,Nat.blt f 1000000 with
    |some C,true=>C e.pk s args λs' av=>k (s'.put o.dst av)
    |_,_=>False
   |true,none=>match IW (gtA s.t t)with
    |some f=>match e.cs.get f with
     |some C=>C e.pk s (.tmp t::args) λs' av=>k (s'.put o.dst av)
     |none=>False
    |none=>False
   |_,_=>False
  |_,_,_=>False
 |.makeMap t r=>match o.dst,r with
  |some d,none=>jO e.P e.E (jb e.sh (4000000+t)).isSome s t d k
  |some d,some x=>match evA s x with
   |.one (.c (.d (.i _ _)))=>jO e.P e.E (jb e.sh (4000000+t)).isSome s t d k
   |_=>False
  |none,_=>False
 |.lookup t x i ok=>match ajK s (evA s x),ok,o.dst with
  |true,false,some d=>nM e.P s t x i d k
  |_,_,_=>rJ e.P s.m t (evA s x) (evA s i) ok λv=>k (s.put o.dst v)
 |.mapUpdate t m i v=>match ajK s (evA s m)with
  |true=>rL e.P s t (evA s m) (evA s i) (evA s v) λs'=>k (s'.put o.dst .any)
  |false=>let s1:=ja s (evA s v);rM e.P s1 t (evA s1 m) (evA s1 i) (evA s1 v) λs'=>k (s'.put o.dst .any)
 |.makeSlice t n c=>match o.dst with
  |some d=>ju e s t (evA s n) (evA s c) (F7 n c) d k
  |none=>False
 |.makeFunc fn first caps=>match fn,first.toList with
  |.func f,[]=>kS s f caps.toList o.dst k
  |_,_=>False
 |.range t x=>match o.dst with
  |some d=>wY e.P s t x d k
  |none=>False
 |.next x false=>DG s (evA s x) o.dst k
 |.entry x=>rk s (evA s x) o.dst k
 |_=>False
def FN(e:En)(o:Oper)(s:St)(k:St->Prop):Prop:=
 match isQ o with
 |true=>let s1:=KV s o;qT e o s1 λv=>k (s1.put o.dst v)
 |false=>lT e o s k
def opT(e:En)(o:Oper)(s:St)(k:St->Prop):Prop:=
 match ahV e o with
 |true=>Ln e o s k
 |false=>FN e o s k
def dand(p:Prop)[d:Decidable p](b:Bool):Bool:=match d with
 |.isTrue _=>b
 |.isFalse _=>false
def wk(x:Option At)(d:Nat)(k:Nat->Bool):Bool:=
 match x with
 |none=>k d
 |some (.one (.c (.d (.i _ n))))=>dand (0<=n) (k n.toNat)
 |_=>false
def sliceB(P:Program)(t:TypeId)(x:At)(lo hi:Option At)(k:At->Bool):Bool:=
 match x with
 |.one (.c (.d (.s l)))=>match(ty P t).k with
  |.str=>wk lo 0 λa=>wk hi l.length λb=>dand ((a<=b/\b<=l.length)) (k (sct (.s ((l.drop a).take (b-a)))))
  |_=>false
 |.one (.c (.d (.li u l)))=>match(ty P t).k with
  |.sl e=>match(ty P e).ok&&Nat.beq (nc u) (ty P e).size with
   |true=>wk lo 0 λa=>wk hi l.length λb=>dand ((a<=b/\b<=l.length)) (k (sct (.li u ((l.drop a).take (b-a)))))
   |false=>false
  |_=>false
 |.one (.c .nil)=>match(ty P t).k with
  |.sl e=>match(ty P e).ok with
   |true=>wk lo 0 λa=>wk hi 0 λb=>dand (a<=b/\b<=0) (k (.one (.c .nil)))
   |false=>false
  |_=>false
 |_=>false
def o9(e:En)(all:List Oper):List Oper->St->(St->Prop)->Prop
 |[],s,k=>k s
 |o::r,s,k=>match o.guard with
  |none=>opT e o s λs'=>o9 e all r s' k
  |some (j,want)=>match(all[j]?).bind (·.dst)with
   |some d=>match gtA s.t d with
    |.one (.c (.d (.bo c)))=>match want with
     |true=>if c then opT e o (s.put (some d) (sct (.bo true))) λs'=>o9 e all r s' k
      else o9 e all r ((s.put (some d) (sct (.bo false))).put o.dst (.tup [])) k
     |false=>if c then o9 e all r ((s.put (some d) (sct (.bo true))).put o.dst (.tup [])) k
      else opT e o (s.put (some d) (sct (.bo false))) λs'=>o9 e all r s' k
    |.tup []=>o9 e all r (s.put o.dst (.tup [])) k
    |_=>False
   |none=>False
def St.clr(s:St):St:=⟨s.nx,[],s.m⟩
abbrev En.cl(e:En):En:=⟨e.P,e.E,e.cs,e.sh,λv s=>e.pk v s.clr⟩
def Yj:At->Bool
 |.one (.c (.el _ _))=>true
 |.one (.c (.ga _ _ _))=>true
 |_=>false
def oL(s:St)(o:Oper):Bool:=
 match o.op with
 |.load _ x=>Yj (evA s x)
 |_=>true
def ai1(ops:Array Oper)(listed:Array Bool)(i:Nat):List Nat:=
 (List.range ops.size).foldl (λA j=>if unlisted listed j&&!(Nat.beq j i)&&(match ops[j]? with
  |some o=>o.after.any λe=>Region.binds .any e&&unlisted listed e.on&&(Nat.beq e.on i||A.contains e.on)
  |none=>false)then j::A else A) []
def A6(ops:Array Oper)(listed:Array Bool)(s:St):List Nat->Option (Nat×List Nat×Bool)
 |[]=>none
 |i::r=>match ops[i]? with
  |none=>A6 ops listed s r
  |some o=>match isQ o with
   |false=>A6 ops listed s r
   |true=>match oL s o with
    |true=>match BJ ops listed i [] true with
     |true=>some (i,[],true)
     |false=>A6 ops listed s r
    |false=>match BJ ops listed i (ai1 ops listed i) false with
     |true=>some (i,ai1 ops listed i,false)
     |false=>A6 ops listed s r
def gT(ops:List Oper)(o:Oper)(s:St)(f:St->Prop)(no:St->Prop):Prop:=
 match o.guard with
 |none=>f s
 |some (j,want)=>match(ops[j]?).bind (·.dst)with
  |some d=>match gtA s.t d with
   |.one (.c (.d (.bo c)))=>match want with
    |true=>if c then f (s.put (some d) (sct (.bo true)))else no ((s.put (some d) (sct (.bo false))).put o.dst (.tup []))
    |false=>if c then no ((s.put (some d) (sct (.bo true))).put o.dst (.tup []))else f (s.put (some d) (sct (.bo false)))
   |.tup []=>no (s.put o.dst (.tup []))
   |_=>False
  |none=>False
def WF(f:Nat->Prop):List Nat->Prop
 |[]=>True
 |[i]=>f i
 |i::r=>f i/\WF f r
def kh(e:En)(ops:Array Oper):Nat->Array Bool->St->(St->Prop)->Prop
 |0,listed,s,k=>match Region.ready .any ops listed with
  |[]=>k s
  |_=>False
 |n+1,listed,s,k=>match Region.ready .any ops listed with
  |[]=>k s
  |a::b=>match A6 ops listed s (a::b)with
   |some (i,_,fz)=>match ops[i]? with
    |some o=>match o.guard with
     |none=>let s1:=KV s o;qT e o s1 λv=>kh e ops n (listed.setIfInBounds i true) (s1.put o.dst v) k
     |some _=>gT ops.toList o s (λs=>match !fz||oL s o with
      |true=>qT e o s λv=>kh e ops n (listed.setIfInBounds i true) (s.put o.dst v) k
      |false=>False) (λs=>kh e ops n (listed.setIfInBounds i true) s k)
    |none=>False
   |none=>WF (λi=>match ops[i]? with
    |some o=>gT ops.toList o s (λs=>FN e.cl o s λs'=>kh e ops n (listed.setIfInBounds i true) s' k) (λs=>kh e ops n (listed.setIfInBounds i true) s k)
    |none=>False) (a::b)
inductive Sp where
 |sl (k:Nat) (u:U)
 |ow (k:Nat) (sh:List Sh) (u:U)
 |rt (n:Nm) (sh:List Sh) (u:U)
 |mp (n:Nm) (ku vu:U)
 |mo (n:Nm) (ku u:U)
 |it (n:Nm) (ku vu:U)
 |gw (n:Nm) (sh:List Sh) (u:U)
abbrev Sp.ty:Sp->Type
 |.sl _ u=>El u
 |.ow _ _ u=>List (El u)
 |.rt _ _ u=>El u
 |.mp _ ku vu=>List (El ku×El vu)
 |.mo _ ku u=>List (El ku×List (El u))
 |.it _ ku vu=>List (El ku×El vu)
 |.gw _ _ u=>List (El u)
abbrev FSp:List Sp->Type
 |[]=>Unit
 |[p]=>p.ty
 |p::q::r=>p.ty×FSp (q::r)
def FSp.cons:(p:Sp)->(r:List Sp)->p.ty->FSp r->FSp (p::r)
 |_,[],x,_=>x
 |_,_::_,x,y=>(x,y)
def FSp.hd:(p:Sp)->(r:List Sp)->FSp (p::r)->p.ty
 |_,[],x=>x
 |_,_::_,x=>x.1
def FSp.tl:(p:Sp)->(r:List Sp)->FSp (p::r)->FSp r
 |_,[],_=>()
 |_,_::_,x=>x.2
theorem sQ(p:Sp)(r:List Sp)(x:p.ty)(y:FSp r):FSp.hd p r (FSp.cons p r x y)=x:=by cases r<;>rfl
theorem sR(p:Sp)(r:List Sp)(x:p.ty)(y:FSp r):FSp.tl p r (FSp.cons p r x y)=y:=by cases r<;>rfl
def IU(ku vu b a:U)(l:List (El ku×El vu)):Option (List (El b×El a)):=if h:ku=b/\vu=a then some (h.1 ▸ h.2 ▸ l)else none
structure Sg where
 ks:List Nat
 kr:List Nm
 ps:List (Nat×Nm×Nat)
 sp:List Sp
def BK:(u:U)->El u->At
 |.st n,x=>.one (.agg ((flat (.st n) x).map Tt.d))
 |u,x=>sct (au u x)
def Cp:(u:U)->El u->A1
 |.st n,x=>.agg ((flat (.st n) x).map Tt.d)
 |u,x=>.c (.d (au u x))
def kz(k:Nat):Nm:=.gh (900000+k)
def bX:List Sh->List C->List Tt
 |.ow s::r,.li u l::cs=>.ow s u l::bX r cs
 |_::r,c::cs=>.d c::bX r cs
 |_,_=>[]
def dQ:List Sh->List C->List Tt
 |.ow []::r,_::cs=>.nil::dQ r cs
 |.ow (a::b)::r,.li u l::cs=>.ow (a::b) u l::dQ r cs
 |_::r,c::cs=>.d c::dQ r cs
 |_,_=>[]
def unmark:List Sh->List Sh
 |[]=>[]
 |.ow []::r=>.fr::unmark r
 |s::r=>s::unmark r
def cF:List (Nat×Nat×At)->Nat->Option (Nat×At)
 |[],_=>none
 |(k,j,v)::t,i=>match Nat.beq k i with
  |true=>some (j,v)
  |false=>cF t i
def dx:List (Nm×Nat×Rt)->Nm->Option (Nat×Rt)
 |[],_=>none
 |(k,j,v)::t,i=>if k=i then some (j,v)else dx t i
def mH(nx:Nat):(sp:List Sp)->FSp sp->List (Nat×Nat×At)
 |[],_=>[]
 |.sl k u::r,x=>(k,nx,BK u (FSp.hd (.sl k u) r x))::mH nx r (FSp.tl (.sl k u) r x)
 |.ow k sh u::r,x=>(k,nx,.one (.c (.rf ⟨kz k,0,[]⟩)))::mH nx r (FSp.tl (.ow k sh u) r x)
 |.rt n sh u::r,x=>mH nx r (FSp.tl (.rt n sh u) r x)
 |.mp n ku vu::r,x=>mH nx r (FSp.tl (.mp n ku vu) r x)
 |.mo n ku u::r,x=>mH nx r (FSp.tl (.mo n ku u) r x)
 |.it n ku vu::r,x=>mH nx r (FSp.tl (.it n ku vu) r x)
 |.gw n sh u::r,x=>mH nx r (FSp.tl (.gw n sh u) r x)
def fO(nx:Nat):(sp:List Sp)->FSp sp->List (Nm×Nat×Rt)
 |[],_=>[]
 |.sl k u::r,x=>fO nx r (FSp.tl (.sl k u) r x)
 |.ow k sh u::r,x=>(kz k,nx,⟨false,[.ow sh u (FSp.hd (.ow k sh u) r x)],none⟩)::fO nx r (FSp.tl (.ow k sh u) r x)
 |.rt n sh u::r,x=>(n,nx,⟨true,dQ sh (flat u (FSp.hd (.rt n sh u) r x)),none⟩)::fO nx r (FSp.tl (.rt n sh u) r x)
 |.mp n ku vu::r,x=>(n,nx,⟨false,[.mp ku vu (FSp.hd (.mp n ku vu) r x)],none⟩)::fO nx r (FSp.tl (.mp n ku vu) r x)
 |.mo n ku u::r,x=>(n,nx,⟨false,[.mo ku u (FSp.hd (.mo n ku u) r x) none],none⟩)::fO nx r (FSp.tl (.mo n ku u) r x)
 |.it n ku vu::r,x=>(n,nx,⟨false,[.it ku vu none (FSp.hd (.it n ku vu) r x)],none⟩)::fO nx r (FSp.tl (.it n ku vu) r x)
 |.gw n sh u::r,x=>(n,nx,⟨false,[.ow sh u (FSp.hd (.gw n sh u) r x)],none⟩)::fO nx r (FSp.tl (.gw n sh u) r x)
def Dt(t:List (Nat×Nat×At)):List Nat->List (Nat×Nat×At)
 |[]=>[]
 |k::r=>match cF t k with
  |some (j,v)=>(k,j,v)::Dt t r
  |none=>Dt t r
def qj(m:List (Nm×Nat×Rt)):List Nm->List (Nm×Nat×Rt)
 |[]=>[]
 |k::r=>match dx m k with
  |some (j,v)=>(k,j,v)::qj m r
  |none=>qj m r
def Sg.st(σ:Sg)(s:St)(x:FSp σ.sp):St:=⟨s.nx+1,Dt s.t σ.ks++(σ.ps.map (λp=>(p.1,s.nx,.one (.c (.pl ⟨p.2.1,p.2.2,[]⟩))))++mH s.nx σ.sp x),qj s.m σ.kr++fO s.nx σ.sp x⟩
def DN(s:St)(k:Nat)(sh:List Sh)(u:U):St:=
 match gtA s.t k with
 |.one (.c .nil)=>
  let s1:=s.fresh (kz k)
  ⟨s1.nx+1,(k,s1.nx,.one (.c (.rf ⟨kz k,0,[]⟩)))::s1.t,(kz k,s1.nx,⟨false,[.ow sh u []],none⟩)::s1.m⟩
 |.one (.c (.rf ⟨n,0,[]⟩))=>match decide (n=kz k),cm s.m n with
  |false,some ⟨false,[.ow a u' l],none⟩=>
   let s1:=(s.drop n).fresh (kz k)
   ⟨s1.nx+1,(k,s1.nx,.one (.c (.rf ⟨kz k,0,[]⟩)))::s1.t,(kz k,s1.nx,⟨false,[.ow a u' l],none⟩)::s1.m⟩
  |_,_=>s
 |_=>s
def cu(s:St)(n:Nm)(us:List U):List Sh->Nat->St
 |[],_=>s
 |.ow sh::r,off=>match cm s.m n with
  |some ⟨true,cells,none⟩=>match cells[off]?,us[off]? with
   |some .nil,some (.sl u)=>cu ⟨s.nx+1,s.t,fp s.m n s.nx ⟨true,cells.set off (.ow sh u []),none⟩⟩ n us r (off+1)
   |_,_=>cu s n us r (off+1)
  |_=>s
 |.fr::r,off=>match cm s.m n with
  |some ⟨true,cells,none⟩=>match cells[off]? with
   |some (.ow _ _ _)=>cu (uO s ⟨n,off,[]⟩) n us r (off+1)
   |_=>cu s n us r (off+1)
  |_=>s
def mD:U->List U
 |.st n=>(sd n).fs
 |u=>[u]
def prep:List Sp->St->St
 |[],s=>s
 |.sl k _::r,s=>prep r (ja s (gtA s.t k))
 |.ow k sh u::r,s=>prep r (DN s k sh u)
 |.rt n sh u::r,s=>prep r (cu s n (mD u) (unmark sh) 0)
 |.mp _ _ _::r,s=>prep r s
 |.mo _ _ _::r,s=>prep r s
 |.it _ _ _::r,s=>prep r s
 |.gw _ _ _::r,s=>prep r s
mutual
def ajT:Sh->Sh->Bool
 |.fr,.fr=>true
 |.ow a,.ow b=>nZ a b
 |_,_=>false
def nZ:List Sh->List Sh->Bool
 |[],[]=>true
 |a::r,b::q=>ajT a b&&nZ r q
 |_,_=>false
end
def Xz(u:U):A1->Option (El u)
 |.c t=>match leaf u with
  |true=>oE u [t]
  |false=>none
 |.agg ts=>match leaf u with
  |true=>none
  |false=>oE u ts
def pY(u:U):At->Option (El u)
 |.one x=>Xz u x
 |_=>none
def i7:List Sh->List Tt->Option (List Tt)
 |[],[]=>some []
 |.ow s::r,.ow s' u l::cs=>match nZ s s',i7 r cs with
  |true,some x=>some (.d (.li u l)::x)
  |_,_=>none
 |.fr::r,.d c::cs=>match i7 r cs with
  |some x=>some (.d c::x)
  |none=>none
 |.fr::r,.nil::cs=>match i7 r cs with
  |some x=>some (.nil::x)
  |none=>none
 |_,_=>none
def jc:List Sh->List Tt->Option (List Tt)
 |[],[]=>some []
 |.ow []::r,.nil::cs=>match jc r cs with
  |some x=>some (.nil::x)
  |none=>none
 |.ow (a::b)::r,.ow s' u l::cs=>match nZ (a::b) s',jc r cs with
  |true,some x=>some (.d (.li u l)::x)
  |_,_=>none
 |.fr::r,.d c::cs=>match jc r cs with
  |some x=>some (.d c::x)
  |none=>none
 |.fr::r,.nil::cs=>match jc r cs with
  |some x=>some (.nil::x)
  |none=>none
 |_,_=>none
def LC(s:St):(p:Sp)->Option p.ty
 |.sl k u=>pY u (gtA s.t k)
 |.ow k sh u=>match gtA s.t k,cm s.m (kz k)with
  |.one (.c (.rf ⟨n,0,[]⟩)),some ⟨false,[.ow d u' l],none⟩=>match decide (n=kz k),nZ sh d with
   |true,true=>sA u' u l
   |_,_=>none
  |_,_=>none
 |.rt n sh u=>match cm s.m n with
  |some ⟨true,cells,none⟩=>match jc sh cells with
   |some ts=>oE u ts
   |none=>none
  |_=>none
 |.mp n ku vu=>match cm s.m n with
  |some ⟨false,[.mp a b l],none⟩=>IU a b ku vu l
  |_=>none
 |.mo n ku u=>match cm s.m n with
  |some ⟨false,[.mo a u' l none],none⟩=>IU a (.sl u') ku (.sl u) l
  |_=>none
 |.it n ku vu=>match cm s.m n with
  |some ⟨false,[.it a b _ l],none⟩=>IU a b ku vu l
  |_=>none
 |.gw n sh u=>match cm s.m n with
  |some ⟨false,[.ow d u' l],none⟩=>match nZ sh d with
   |true=>sA u' u l
   |false=>none
  |_=>none
def unS(s:St):(sp:List Sp)->Option (FSp sp)
 |[]=>some ()
 |p::r=>match LC s p,unS s r with
  |some x,some y=>some (FSp.cons p r x y)
  |_,_=>none
def Sp.rn:Sp->List Nm
 |.sl _ _=>[]
 |.ow k _ _=>[kz k]
 |.rt n _ _=>[n]
 |.mp n _ _=>[n]
 |.mo n _ _=>[n]
 |.it n _ _=>[n]
 |.gw n _ _=>[n]
def Sg.rn(σ:Sg):List Nm:=σ.kr++σ.sp.flatMap Sp.rn
def Tt.inR(rs:List Nm):Tt->Bool
 |.pl p=>rs.contains p.root
 |.rf p=>rs.contains p.root
 |_=>true
def A1.inR(rs:List Nm):A1->Bool
 |.c t=>t.inR rs
 |.agg ts=>ts.all (·.inR rs)
def At.inR(rs:List Nm):At->Bool
 |.one x=>x.inR rs
 |.tup xs=>xs.all (·.inR rs)
 |.any=>true
def FF:List Nm->Bool
 |[]=>true
 |n::r=>!r.contains n&&FF r
def acE(s0 s:St)(rs:List Nm):List Nat->Bool
 |[]=>true
 |k::r=>(match cF s0.t k,cF s.t k with
  |some (j,_),some (j',v)=>Nat.beq j j'&&Nat.blt j s0.nx&&v.inR rs
  |_,_=>false)&&acE s0 s rs r
def Td(s0 s:St)(rs:List Nm):List Nm->Bool
 |[]=>true
 |k::r=>(match dx s0.m k,dx s.m k with
  |some (j,_),some (j',v)=>Nat.beq j j'&&Nat.blt j s0.nx&&v.cells.all (·.inR rs)
  |_,_=>false)&&Td s0 s rs r
def acD(s:St)(rs:List Nm):List (Nat×Nm×Nat)->Bool
 |[]=>true
 |(k,n,o)::r=>(match gtA s.t k with
  |.one (.c (.pl ⟨n',o',[]⟩))=>decide (n'=n)&&Nat.beq o' o&&rs.contains n
  |_=>false)&&acD s rs r
def Sg.fit(σ:Sg)(s0 s:St):Bool:=FF σ.rn&&acD s σ.rn σ.ps&&acE s0 s σ.rn σ.ks&&Td s0 s σ.rn σ.kr
def jn(σ:Sg)(s0:St)(J:FSp σ.sp->Prop)(s:St):Prop:=
 let s1:=prep σ.sp s
 match σ.fit s0 s1 with
 |true=>match unS s1 σ.sp with
  |some x=>J x
  |none=>False
 |false=>False
variable{α:Type}
def aa(A:(α->Prop)->Prop)(B:α->Prop):Prop:=∀J:α->Prop,(∀x,B x->J x)->A J
def mj(body:(α->Prop)->α->Prop):Nat->α->Prop
 |0,_=>False
 |n+1,x=>body (mj body n) x
def ab(body:(α->Prop)->α->Prop)(x:α):Prop:=∃n,mj body n x
inductive An where
 |l
 |s (a b:An)
 |j (σ:Sg) (a b:An)
 |c (a b:An)
 |b (a:An)
 |lp (σ:Sg) (a:An)
 |a (t:Nat) (n:Nm) (x y:An)
 |un (n:Nat) (a:An)
def An.pick:An->St->An
 |.a t n x y,st0=>match gtA st0.t t with
  |.one (.c (.pl p))=>match decide (p.root=n)with
   |true=>x
   |false=>y
  |_=>y
 |an,_=>an
structure Kt where
 n:St->Prop
 x:Nat->St->Prop
 r:St->Prop
def AK(body:(St->Prop)->St->Prop):Nat->St->Prop
 |0,_=>False
 |n+1,s=>body (AK body n) s
def wpT(e:En):An->Code->St->Kt->Prop
 |_,.skip,s,K=>K.n s
 |_,.region _ ops false,s,K=>o9 e ops.toList ops.toList s K.n
 |_,.region _ ops true,s,K=>kh e ops ops.size (Array.replicate ops.size false) s K.n
 |.s a b,.seq x y,s,K=>wpT e a x s ⟨λs'=>wpT e (b.pick s') y s' K,K.x,K.r⟩
 |.j σ a b,.seq x y,s,K=>aa (λJ=>wpT e a x s ⟨jn σ s J,K.x,K.r⟩) (λv=>wpT e b y (σ.st s v) K)
 |.c a b,.cond (.tmp t) x y,s,K=>match gtA s.t t with
  |.one (.c (.d (.bo c)))=>if c then wpT e a x s K else wpT e b y s K
  |_=>False
 |.b a,.block id x,s,K=>wpT e a x s ⟨K.n,λi s'=>match Nat.beq i id with
  |true=>K.n s'
  |false=>K.x i s',K.r⟩
 |.lp σ a,.loop x,s,K=>
  let s1:=prep σ.sp s
  match σ.fit s1 s1 with
  |true=>match unS s1 σ.sp with
   |some f=>ab (λR v=>wpT e a x (σ.st s1 v) ⟨jn σ s1 R,K.x,K.r⟩) f
   |none=>False
  |false=>False
 |.un n a,.loop x,s,K=>AK (λR s'=>wpT e a x s' ⟨R,K.x,K.r⟩) n s
 |_,.exit id,s,K=>K.x id s
 |_,.ret,s,K=>K.r s
 |_,_,_,_=>False
def ic:(us:List U)->Fl us->At
 |[],_=>.tup []
 |[u],x=>BK u x
 |u::v::r,x=>.tup (resL (u::v::r) x)
where resL:(us:List U)->Fl us->List A1
 |[],_=>[]
 |u::r,x=>Cp u (Fl.hd u r x)::resL r (Fl.tl u r x)
def dw:(us:List U)->List At->Option (Fl us)
 |[],[]=>some ()
 |u::r,v::vs=>match pY u v,dw r vs with
  |some x,some y=>some (Fl.cons u r x y)
  |_,_=>none
 |_,_=>none
def Ah(s:St)(n:Nm):Nat->St
 |0=>s
 |i+1=>uO (Ah s n i) ⟨n,i,[]⟩
def EV(s:St):ResultVar->St
 |.tmp t=>ja s (gtA s.t t)
 |.cell a _=>match gtA s.t a with
  |.one (.c (.pl p))=>match cm s.m p.root with
   |some r=>Ah s p.root r.cells.length
   |none=>s
  |_=>s
def qd:St->List ResultVar->St
 |s,[]=>s
 |s,r::rs=>qd (EV s r) rs
def rY(P:Program)(s:St)(k:At->Prop):ResultVar->Prop
 |.tmp t=>k (gtA s.t t)
 |.cell a t=>match gtA s.t a with
  |.one (.c (.pl p))=>match cm s.m p.root with
   |some r=>match r.hole.isNone&&r.cells.all (λt=>!t.owned)with
    |true=>pH P s.m t (gtA s.t a) k
    |false=>False
   |none=>False
  |_=>False
def fB(P:Program)(s:St):List ResultVar->(List At->Prop)->Prop
 |[],k=>k []
 |r::rs,k=>rY P s (λv=>fB P s rs λvs=>k (v::vs)) r
def vD(P:Program)(rs:List ResultVar)(us:List U)(KK:Fl us->Prop)(s:St):Prop:=
 fB P (qd s rs) rs λvs=>match dw us vs with
  |some x=>KK x
  |none=>False
def phT(ps rs:List U)(a:Fl ps->(Fl rs->Prop)->(Value->Prop)->Prop):CKt:=λpk s ops k=>
 let s1:=eJ s (ops.map (evA s))
 match dw ps (ops.map (evA s1))with
 |some x=>a x (λy=>k s1 (ic rs y)) (λv=>pk v s1)
 |none=>False
abbrev Bc(ps rs:List U)(pre:Fl ps->Prop)(f:Fl ps->Fl rs):CKt:=phT ps rs λx K _=>pre x/\K (f x)
abbrev Bd(ps rs:List U)(f:Fl ps->Fl rs):CKt:=phT ps rs λx K _=>K (f x)
def lent(s:St)(v:At):At:=match v with
 |.one (.c (.rf p))=>match cm s.m p.root with
  |some r=>match r.hole,sliceAt s.m p with
   |none,some ⟨_,u,l⟩=>sct (.li u l)
   |_,_=>v
  |none=>v
 |v=>v
def scU:U->Bool
 |.i _=>true
 |.b8=>true
 |.bo=>true
 |.s=>true
 |_=>false
def QH(ps rs:List U)(Φ:Fl ps->(Fl rs->Prop)->Prop):CKt:=λ_ s ops k=>
 match dw ps (ops.map λx=>lent s (evA s x)),rs.all scU with
 |some x,true=>∃KK,Φ x KK/\∀y,KK y->k s (ic rs y)
 |_,_=>False
def YL(ps rs:List U)(pre:Fl ps->Prop)(f:Fl ps->Fl rs):CKt:=λ_ s ops k=>
 match dw ps (ops.map λx=>lent s (evA s x)),rs.all scU with
 |some x,true=>pre x/\k s (ic rs (f x))
 |_,_=>False
def m7(r:Nm)(rf:Bool)(p:Pl):Bool:=decide (p.root=r)&&(rf||!p.path.isEmpty)
abbrev noP:PKt:=λ_ _=>False
def swP(w:List UInt8)(K:Nat->Prop)(df:Nat):List (List UInt8×Nat)->Prop
 |[]=>K df
 |(w0,f)::r=>if decide (w=w0)=true then K f else swP w K df r
def swT(a:List (List UInt8×Nat))(df:Nat):CKt:=λ_ s ops k=>
 let s1:=eJ s (ops.map (evA s))
 match dw [.s] (ops.map (evA s1))with
 |some w=>swP w (λf=>k s1 (sct (.v (.func (.func f) #[] #[])))) df a
 |none=>False
def exP(r:Except Value α×β)(K:α->β->Prop)(KP:Value->β->Prop):Prop:=match r.1 with
 |.ok a=>K a r.2
 |.error v=>KP v r.2
def exQ(r:Except Value α)(K:α->Prop)(KP:Value->Prop):Prop:=match r with
 |.ok a=>K a
 |.error v=>KP v
abbrev ahZ(ps rs:List U)(pre:Fl ps->Prop)(f:Fl ps->Except Value (Fl rs)):CKt:=phT ps rs λx K KP=>pre x/\exQ (f x) K KP
def KZ(sh:List Sh)(u:U)(ps rs:List U)(pre:El u->Fl ps->Prop)(f:El u->Fl ps->Except Value (Fl rs)×El u):CKt:=λpk s ops k=>
 match ops with
 |[]=>False
 |o::os=>
  let s1:=eJ s (os.map (evA s))
  match evA s1 o with
  |.one (.c (.pl ⟨r,0,[]⟩))=>
   let s2:=cu s1 r (mD u) sh 0
   match evA s2 o with
   |.one (.c (.pl ⟨a,0,[]⟩))=>match decide (a=r),r.tyd,cm s2.m r with
    |true,none,some ⟨true,cells,none⟩=>match i7 sh cells with
     |some ts=>match oE u ts,dw ps (os.map (evA s2))with
      |some x,some y=>pre x y/\exP (f x y) (λz x'=>k ⟨s2.nx+1,nF (m7 r) s2.nx s2.t,(r,s2.nx,⟨true,bX sh (flat u x'),none⟩)::cO (m7 r) s2.nx (fN s2.m r)⟩ (ic rs z))
        (λv x'=>pk v ⟨s2.nx+1,nF (m7 r) s2.nx s2.t,(r,s2.nx,⟨true,bX sh (flat u x'),none⟩)::cO (m7 r) s2.nx (fN s2.m r)⟩)
      |_,_=>False
     |none=>False
    |_,_,_=>False
   |_=>False
  |_=>False
def ajN(v:Int->Value):CKt:=λpk s ops _=>
 match dw [.i .i64] (ops.map (evA s))with
 |some n=>pk (v n) s
 |none=>False
def shT:List (Nat×Nat×At)->List (Nat×Nat×At)
 |[]=>[]
 |(k,j,v)::r=>(k+100000,j,v)::shT r
def sx:List (Nat×Nat×At)->List (Nat×Nat×At)
 |[]=>[]
 |(k,j,v)::r=>match Nat.ble 100000 k with
  |true=>(k - 100000,j,v)::sx r
  |false=>sx r
def BU(nx:Nat):Nat->List At->List (Nat×Nat×At)
 |_,[]=>[]
 |i,v::r=>(i,nx,v)::BU nx (i+1) r
def YP(P:Program)(m:List (Nm×Nat×Rt))(t:TypeId)(x:At):Option A1:=
 match(ty P t).ok,x with
 |true,.one (.c (.pl p))=>match(ty P t).agg with
  |true=>match atT m p (ty P t).size with
   |some ts=>some (.agg (FU p ts))
   |none=>none
  |false=>match atT m p 1 with
   |some [t']=>some (.c (QZ p t'))
   |_=>none
 |_,_=>none
def OJ(P:Program)(s:St):List ResultVar->Option (List A1)
 |[]=>some []
 |.tmp t::r=>match gtA s.t t,OJ P s r,Nat.blt t 100000 with
  |.one x,some xs,true=>some (x::xs)
  |_,_,_=>none
 |.cell a t::r=>match YP P s.m t (gtA s.t a),OJ P s r,Nat.blt a 100000 with
  |some x,some xs,true=>some (x::xs)
  |_,_,_=>none
def akG:List A1->At
 |[x]=>.one x
 |xs=>.tup xs
def oT(P:Program)(res:List ResultVar)(k:St->At->Prop)(s:St):Prop:=
 match OJ P s res with
 |some xs=>k ⟨s.nx,sx s.t,s.m⟩ (akG xs)
 |none=>False
def acT(e:En)(fn:Func)(an:An):CKt:=λpk s ops k=>
 match Nat.ble ops.length fn.ntmps with
 |true=>wpT ⟨e.P,e.E,e.cs,e.sh,λv s=>pk v ⟨s.nx,sx s.t,s.m⟩⟩ an (fn.body.getD .skip) ⟨s.nx+1,BU s.nx 0 (ops.map (evA s))++shT s.t,s.m⟩ ⟨oT e.P fn.results.toList k,λ_ _=>False,oT e.P fn.results.toList k⟩
 |false=>False
def acS(e:En)(fn:Func)(an:An):CKt:=λpk s ops k=>match ops with
 |.tmp t::os=>match gtA s.t t with
  |.one (.c (.d (.fn c)))=>match Nat.ble (os.length+c.caps.length) fn.ntmps with
   |true=>wpT ⟨e.P,e.E,e.cs,e.sh,λv s=>pk v ⟨s.nx,sx s.t,s.m⟩⟩ an (fn.body.getD .skip) ⟨s.nx+1,BU s.nx 0 (os.map (evA s)++c.caps.map ab1)++shT s.t,s.m⟩ ⟨oT e.P fn.results.toList k,λ_ _=>False,oT e.P fn.results.toList k⟩
   |false=>False
  |_=>False
 |_=>False
def aeC(t:Nat)(C D:CKt):CKt:=λpk s ops k=>match ops with
 |.tmp i::_=>match Nat.beq i t with
  |true=>C pk s ops k
  |false=>D pk s ops k
 |_=>D pk s ops k
def wO(s:St)(k:Nat)(sh:List Sh)(u:U):St:=
 match gtA s.t k with
 |.one (.c .nil)=>DN s k sh u
 |_=>s
def adS(u:U)(ps:List U)(pre:List (El u)->Fl ps->Prop)(f:List (El u)->Fl ps->List (El u)):CKt:=λ_ s ops k=>
 match ops with
 |.tmp t::os=>
  let s0:=wO s t (List.replicate (nc u) .fr) u
  let s1:=eJ s0 (os.map (evA s0))
  match evA s1 (.tmp t)with
  |.one (.c (.rf ⟨r,0,[]⟩))=>match cm s1.m r with
   |some ⟨false,[.ow sh u' l],none⟩=>match nZ sh (List.replicate (nc u) .fr),sA u' u l,dw ps (os.map (evA s1))with
    |true,some l',some x=>pre l' x/\k ⟨s1.nx+1,nF (bJ r) s1.nx s1.t,(r,s1.nx,⟨false,[.ow sh u (f l' x)],none⟩)::cO (bJ r) s1.nx (fN s1.m r)⟩ (.one (.c (.rf ⟨r,0,[]⟩)))
    |_,_,_=>False
   |_=>False
  |_=>False
 |_=>False
def IZ:Nat->(us:List U)->Fl us->List (Nat×Nat×At)
 |_,[],_=>[]
 |i,u::r,x=>(i,0,BK u (Fl.hd u r x))::IZ (i+1) r (Fl.tl u r x)
def MP(us:List U)(x:Fl us):St:=⟨1,IZ 0 us x,[]⟩
def Iz(e:En)(fn:Func)(an:An)(ps rs:List U)(x:Fl ps)(KK:Fl rs->Prop):Prop:=wpT ⟨e.P,e.E,e.cs,e.sh,λ_ _=>False⟩ an (fn.body.getD .skip) (MP ps x) ⟨vD e.P fn.results.toList rs KK,λ_ _=>False,vD e.P fn.results.toList rs KK⟩
def wj(e:En)(fn:Func)(an:An)(ps rs:List U)(x:Fl ps)(KK:Fl rs->Prop)(KP:Value->Prop):Prop:=wpT ⟨e.P,e.E,e.cs,e.sh,λv _=>KP v⟩ an (fn.body.getD .skip) (MP ps x) ⟨vD e.P fn.results.toList rs KK,λ_ _=>False,vD e.P fn.results.toList rs KK⟩
def Q4(P:Program)(res:List ResultVar)(sh:List Sh)(u:U)(rs:List U)(KK:Fl rs×El u->Prop)(s:St):Prop:=
 let s1:=cu (qd s res) (.out 0) (mD u) sh 0
 fB P s1 res λvs=>match dw rs vs,cm s1.m (.out 0)with
  |some x,some ⟨true,cells,none⟩=>match i7 sh cells with
   |some ts=>match oE u ts with
    |some y=>KK (x,y)
    |none=>False
   |none=>False
  |_,_=>False
def ZE(sh:List Sh)(u:U)(KP:Value->El u->Prop)(v:Value)(s:St):Prop:=
 let s1:=cu s (.out 0) (mD u) sh 0
 match cm s1.m (.out 0)with
 |some ⟨true,cells,none⟩=>match i7 sh cells with
  |some ts=>match oE u ts with
   |some y=>KP v y
   |none=>False
  |none=>False
 |_=>False
def yr(e:En)(fn:Func)(an:An)(sh:List Sh)(u:U)(ps rs:List U)(x:El u)(y:Fl ps)(KK:Fl rs×El u->Prop)(KP:Value->El u->Prop):Prop:=wpT ⟨e.P,e.E,e.cs,e.sh,ZE sh u KP⟩ an (fn.body.getD .skip) ⟨1,(0,0,.one (.c (.pl ⟨.out 0,0,[]⟩)))::IZ 1 ps y,[(.out 0,0,⟨true,bX sh (flat u x),none⟩)]⟩ ⟨Q4 e.P fn.results.toList sh u rs KK,λ_ _=>False,Q4 e.P fn.results.toList sh u rs KK⟩
def QX(e:En)(fn:Func)(an:An)(sh:List Sh)(u:U)(ps rs:List U):CKt:=λpk s ops k=>
 match ops with
 |[]=>False
 |o::os=>
  let s1:=eJ s (os.map (evA s))
  match evA s1 o with
  |.one (.c (.pl ⟨r,0,[]⟩))=>
   let s2:=cu s1 r (mD u) sh 0
   match evA s2 o with
   |.one (.c (.pl ⟨a,0,[]⟩))=>match decide (a=r),r.tyd,cm s2.m r with
    |true,none,some ⟨true,cells,none⟩=>match i7 sh cells with
     |some ts=>match oE u ts,dw ps (os.map (evA s2))with
      |some x,some y=>∃(KK:Fl rs×El u->Prop)(KP:Value->El u->Prop),yr e fn an sh u ps rs x y KK KP /\
        (∀z x',KK (z,x')->k ⟨s2.nx+1,nF (m7 r) s2.nx s2.t,(r,s2.nx,⟨true,bX sh (flat u x'),none⟩)::cO (m7 r) s2.nx (fN s2.m r)⟩ (ic rs z)) /\
        ∀v x',KP v x'->pk v ⟨s2.nx+1,nF (m7 r) s2.nx s2.t,(r,s2.nx,⟨true,bX sh (flat u x'),none⟩)::cO (m7 r) s2.nx (fN s2.m r)⟩
      |_,_=>False
     |none=>False
    |_,_,_=>False
   |_=>False
  |_=>False
def Q3(res:List ResultVar)(u:U)(KK:List (El u)->Prop)(s:St):Prop:=
 match res with
 |[.tmp t]=>match gtA s.t t with
  |.one (.c (.rf ⟨n,0,[]⟩))=>match cm s.m n with
   |some ⟨false,[.ow sh u' l],none⟩=>match nZ sh (List.replicate (nc u) .fr),sA u' u l with
    |true,some l'=>KK l'
    |_,_=>False
   |_=>False
  |_=>False
 |_=>False
def WN(e:En)(fn:Func)(an:An)(u:U)(ps:List U)(x:List (El u))(y:Fl ps)(KK:List (El u)->Prop):Prop:=wpT ⟨e.P,e.E,e.cs,e.sh,λ_ _=>False⟩ an (fn.body.getD .skip) ⟨1,(0,0,.one (.c (.rf ⟨.out 0,0,[]⟩)))::IZ 1 ps y,[(.out 0,0,⟨false,[.ow (List.replicate (nc u) .fr) u x],none⟩)]⟩ ⟨Q3 fn.results.toList u KK,λ_ _=>False,Q3 fn.results.toList u KK⟩
end Go.Am
end
