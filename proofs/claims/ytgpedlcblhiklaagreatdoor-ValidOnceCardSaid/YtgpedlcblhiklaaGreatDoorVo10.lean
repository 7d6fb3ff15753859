/-
  Part 10: AmWalk · AmPtrCon · AmOwn · AmPtrFn · AmAuto · AmArr · AmSem · AmData · AmU · AmMp · AmMq · AmE1 · AmE2 · AmE4.
-/
import Derived.Test.YtgpedlcblhiklaaGreatDoorVo9
import Derived.IntWalk
set_option linter.unusedSimpArgs false
set_option linter.unusedVariables false
set_option linter.unusedSectionVars false
set_option linter.unnecessarySimpa false
section
namespace Go.Am
def adZ(ks:List Nat)(t:List (Nat×AV)):List (Nat×AV):=ks.map fun k=>(k,bd t k)
def S.drops:List Nm->S->S
 |[],s=>s
 |n::ns,s=>S.drops ns (s.drop n)
def S.cut(ks:List Nat)(ds:List Nm)(s:S):S:=S.drops ds ⟨adZ ks s.t,s.m⟩
section
variable {P:Program} {cs:CT} {g:G} {Q:Exit->S->Prop} {s:S}
def S.one(s:S)(d:Nat)(v:AV):S:=⟨(d,v)::s.t,s.m⟩
end
structure Rw (α:Type) where
 enc:α->List D
 dec:List D->Option α
 inv:∀l x,dec l=some x->l=enc x
structure Cd (α:Type) where
 enc:α->AV1
 dec:AV1->Option α
 inv:∀v x,dec v=some x->v=enc x
def dB{α:Type}(c:Rw α):List (List D)->Option (List α)
 |[]=>some []
 |r::rs=>match c.dec r with
  |some x=>match dB c rs with
   |some xs=>some (x::xs)
   |none=>none
  |none=>none
theorem aG{α:Type}{c:Rw α}:∀{l:List (List D)}{xs:List α},dB c l=some xs->l=xs.map c.enc
 |[],xs,h=>by grind [dB]
 |r::rs,xs,h=>by
  simp only[dB]at h;cases h1:c.dec r with
  |none=>grind
  |some x=>
   rw[h1]at h;cases h2:dB c rs with
   |none=>grind
   |some a=>
    rw[h2]at h;simp only[aiX]at h;subst h;rw[c.inv r x h1,aG h2];rfl
def tds:List T->Option (List D)
 |[]=>some []
 |.d x::ts=>match tds ts with
  |some xs=>some (x::xs)
  |none=>none
 |_=>none
theorem QN:∀{ts:List T}{xs:List D},tds ts=some xs->ts=xs.map T.d
 |[],xs,h=>by grind [tds]
 |.d x::ts,xs,h=>by
  simp only[tds]at h;cases h2:tds ts with
  |none=>grind
  |some a=>
   rw[h2]at h;simp only[aiX]at h;subst h;rw[QN h2];rfl
 |.nil::_,_,h=>by simp[tds]at h
 |.ow _ _::_,_,h=>by simp[tds]at h
 |.el _ _::_,_,h=>by simp[tds]at h
 |.pl _::_,_,h=>by simp[tds]at h
 |.rf _::_,_,h=>by simp[tds]at h
 |.any::_,_,h=>by simp[tds]at h
def ahU(k:IntKind):AV1->Option Int
 |.c (.d (.int k' n))=>if k'=k then some n else none
 |_=>none
def cI(k:IntKind):Cd Int where
 enc n:=.c (.d (.int k n))
 dec:=ahU k
 inv v x h:=by
  unfold ahU at h
  grind
def ahT:AV1->Option Bool
 |.c (.d (.bool b))=>some b
 |_=>none
def cB:Cd Bool where
 enc b:=.c (.d (.bool b))
 dec:=ahT
 inv v x h:=by unfold ahT at h;grind
def ahV:AV1->Option (List UInt8)
 |.c (.d (.str b))=>some b
 |_=>none
def cS:Cd (List UInt8) where
 enc b:=.c (.d (.str b))
 dec:=ahV
 inv v x h:=by unfold ahV at h;grind
def adQ{α:Type}(c:Rw α):AV1->Option (List α)
 |.c (.d (.li l))=>dB c l
 |_=>none
def cL{α:Type}(c:Rw α):Cd (List α) where
 enc l:=.c (.d (.li (l.map c.enc)))
 dec:=adQ c
 inv v x h:=by
  unfold adQ at h;grind [aG]
def ahS{α:Type}(c:Rw α):AV1->Option α
 |.agg ts=>match tds ts with
  |some l=>c.dec l
  |none=>none
 |_=>none
def cA{α:Type}(c:Rw α):Cd α where
 enc x:=.agg ((c.enc x).map T.d)
 dec:=ahS c
 inv v x h:=by
  unfold ahS at h
  grind [QN,Rw.inv]
def adP:List D->Option (List UInt8)
 |[.str b]=>some b
 |_=>none
def rS:Rw (List UInt8) where
 enc b:=[.str b]
 dec:=adP
 inv l x h:=by unfold adP at h;grind
def adO(k:IntKind):List D->Option Int
 |[.int k' n]=>if k'=k then some n else none
 |_=>none
def rI(k:IntKind):Rw Int where
 enc n:=[.int k n]
 dec:=adO k
 inv l x h:=by
  unfold adO at h
  grind
theorem agH(a:List UInt8):rS.dec [.str a]=some a:=rfl
section
variable {α β γ δ ρ:Type}
def fn0(r:ρ->AV)(v:ρ):List AV->(AV->Prop)->Prop
 |[],K=>K (r v)
 |_,_=>False
def fn1(a:Cd α)(r:ρ->AV)(pre:α->Prop)(f:α->ρ):List AV->(AV->Prop)->Prop
 |[.one x],K=>match a.dec x with
  |some x=>pre x/\K (r (f x))
  |none=>False
 |_,_=>False
def fn2(a:Cd α)(b:Cd β)(r:ρ->AV)(pre:α->β->Prop)(f:α->β->ρ):List AV->(AV->Prop)->Prop
 |[.one x,.one y],K=>match a.dec x,b.dec y with
  |some x,some y=>pre x y/\K (r (f x y))
  |_,_=>False
 |_,_=>False
def fn3(a:Cd α)(b:Cd β)(c:Cd γ)(r:ρ->AV)(pre:α->β->γ->Prop)(f:α->β->γ->ρ):List AV->(AV->Prop)->Prop
 |[.one x,.one y,.one z],K=>match a.dec x,b.dec y,c.dec z with
  |some x,some y,some z=>pre x y z/\K (r (f x y z))
  |_,_,_=>False
 |_,_=>False
def o1(c:Cd ρ)(x:ρ):AV:=.one (c.enc x)
def o2(a:Cd α)(b:Cd β)(x:α×β):AV:=.tup [a.enc x.1,b.enc x.2]
def o3(a:Cd α)(b:Cd β)(c:Cd γ)(x:α×β×γ):AV:=.tup [a.enc x.1,b.enc x.2.1,c.enc x.2.2]
variable {P:Program} {f:Nat} {fn:Func} {c:Code}
end
theorem CT.ok0{P:Program}:CT.Ok P []:=fun x hx=>by grind
theorem CT.cons{P:Program}{f:Nat}{C:CK1}{cs:CT}(h:Con P f C)(hs:cs.Ok P):CT.Ok P ((f,C)::cs):=fun x hx=>by
 simp only[ai7]at hx;rcases hx with rfl|hx
 ·exact h
 ·exact hs x hx
theorem eX{n:Int}(h1:-9223372036854775808<=n)(h2:n<=9223372036854775807):IntKind.i64.wrap n=n:=IntWalk.i64_in n ⟨h1,h2⟩
theorem ac{i:Nat}(h:i < 9223372036854775807):IntKind.i64.wrap ((i:Int)+1)=((i+1:Nat):Int):=by
 grind [eX]
def ah7(P:Program)(cs:CT)(all:List Oper)(o:Oper)(s:S)(K:S->Prop):Prop:=
 match o.guard with
 |none=>opK P cs o s K
 |some (j,want)=>match(all[j]?).bind (·.dst)with
  |some d=>match bd s.t d with
   |.one (.c (.d (.bool c)))=>gsel c want (opK P cs o (s.put (some d) (sc (.bool want))) K) (K ((s.put (some d) (sc (.bool (!want)))).put o.dst (.tup [])))
   |.tup []=>K (s.put o.dst (.tup []))
   |_=>False
  |none=>False
section
variable {P:Program} {cs:CT} {all:List Oper}
def ah9(P:Program)(all:List Oper)(i:Nat)(fz:Bool)(s:S)(K:S->Prop):Prop:=
 match all[i]? with
 |none=>False
 |some o=>gK all o s (fun s=>(fz=true->gN s o)/\qK P o s fun v=>K (s.put o.dst v)) K
end
theorem agI(b:List UInt8):rS.enc b=[.str b]:=rfl
theorem agG(k:IntKind)(n:Int):(rI k).enc n=[.int k n]:=rfl
theorem aeX(k:IntKind)(n:Int):(cI k).enc n=.c (.d (.int k n)):=rfl
theorem aeW(b:Bool):cB.enc b=.c (.d (.bool b)):=rfl
theorem ae2(b:List UInt8):cS.enc b=.c (.d (.str b)):=rfl
theorem ae0{α:Type}(c:Rw α)(l:List α):(cL c).enc l=.c (.d (.li (l.map c.enc))):=rfl
theorem aeU{α:Type}(c:Rw α)(x:α):(cA c).enc x=.agg ((c.enc x).map T.d):=rfl
theorem aeV(b:Bool):cB.dec (.c (.d (.bool b)))=some b:=rfl
theorem ae1(b:List UInt8):cS.dec (.c (.d (.str b)))=some b:=rfl
theorem aeZ{α:Type}(c:Rw α)(l:List (List D)):(cL c).dec (.c (.d (.li l)))=dB c l:=rfl
theorem aeT{α:Type}(c:Rw α)(ts:List T):(cA c).dec (.agg ts)=match tds ts with
  |some l=>c.dec l
  |none=>none:=rfl
theorem aiQ(x:D):sc x=.one (.c (.d x)):=rfl
attribute [push_cast] nN List.append_eq decide_false decide_true ai8 uh jU eqD TD Option.isSome_some List.toList_toArray T.owned T.ment T.toD py iA List.set_cons_zero List.set_cons_succ mkT inK ba mg im so qv jp jX Jq aZ bk Jp thr Pl.offs Option.map_some Option.map_none alH List.replicate_zero List.zipWith_cons_cons List.zipWith_nil_left List.zipIdx_cons List.zipIdx_nil akV aj0 alB sQ T.frz Lw Sh.isFr TK.isSS bne List.isPrefixOf List.cons_beq_cons Nm.loc.injEq Nm.gh.injEq Nm.out.injEq gsel ne_eq not_false_eq_true not_true_eq_false Nat.one_ne_zero ai2 ah7 opK ev cst rG dV bd tb S.put YS ite_true if_true if_false ai1 ai6 qH AA Ki Mt vI Bool.not_false Bool.not_true akK Bool.and_false ajT akR Bool.or_true Bool.or_false Bool.true_or Bool.false_or Bool.not_not akP List.getElem?_cons_succ true_and and_true forall_const Option.bind_some KM gO gL uC false_and and_false false_implies true_implies implies_true decide_eq_true_eq decide_eq_false_iff_not ajQ Bool.not_eq_false' beq_self_eq_true adZ S.cut S.drops S.one aiZ aj4 aiQ agI agG aeX aeW ae2 ae0 aeU aeV ae1 aeZ aeT tds dB agH CT.get fn0 fn1 fn2 fn3 o1 o2 o3 pF Js W0 Dk AV.isFz AV1.isFz T.isFz AV.map AV1.map T.canon ajE alC S.drop oP aP AV.kill AV1.kill T.kill bU cv af cM S.fresh S.root ah9 gK af8 qK gN JG kB unK wT okv okvs List.drop_zero List.take_zero List.drop_succ_cons List.take_succ_cons List.take_nil List.drop_nil agL wK ir pD fW wJ RB fh T.sure vE wQ dH jd room sZ Pl.add atK uT Cl XZ Qo mV gV kI jQ overw chunk T.fz
def T.ren(a b:Nm):T->T
 |.pl p=>.pl ⟨if p.root=a then b else p.root,p.off,p.path⟩
 |t=>t
def T.self(a:Nm):T->Bool
 |.pl p=>decide (p.root=a)&&p.path.isEmpty
 |.rf _=>false
 |_=>true
def lQ(r:Nm)(rf:Bool)(p:Pl):Bool:=decide (p.root=r)&&(rf||!p.path.isEmpty)
def ah3(j:Nat)(P:Program)(s:S)(rs:List ResultVar)(K:AV->List T->Prop):Prop:=
 match af (ir s rs).m (.out j)with
 |some ⟨true,cells⟩=>wK P s rs (fun v=>K v cells)
 |_=>False
def aiO(j:Nat)(b:List AV->List T->(AV->List T->Prop)->Prop):CK1:=fun s ops k=>
 match ops with
 |[]=>False
 |o::os=>
  let s1:=pF s (os.map (ev s))
  match ev s1 o with
  |.one (.c (.pl ⟨r,0,[]⟩))=>match af s1.m r with
   |some ⟨true,cells⟩=>(Nm.out j).tyd=r.tyd/\cells.all (T.self r)=true/\(os.map (ev s1)).all AV.isFz=true /\
     b (os.map fun x=>(ev s1 x).map T.canon) (cells.map (T.ren r (.out j))) (fun res a=>a.length=cells.length/\a.all (T.self (.out j))=true /\
      k ⟨oP (lQ r) s1.t,(r,⟨true,a.map (T.ren (.out j) r)⟩)::aP (bU r) (cv s1.m r)⟩ res)
   |_=>False
  |_=>False
section
variable {w w':World} {H H':FH} {γ γ':Gam} {m m':Mm}
theorem vC{n n':Nm}{cells:List T}{f:Fp}{b:Nat}(h:bZ w H γ m n ⟨true,cells⟩ f)(hn:n'.tyd=n.tyd)(hs:cells.all (T.self n)=true)(y:γ n=.blk b)(E:af m n=some ⟨true,cells⟩)
  (k:γ' n'=.blk b) (A:∃i,af m' n'=some ⟨true,i⟩/\i.length=cells.length):bZ w H γ' m' n' ⟨true,cells.map (T.ren n n')⟩ f:=by
 unfold bZ at h⊢;rw[if_pos rfl]at h⊢;obtain⟨b0,cs,ty,fz,g,h1,h2,h3,h4,h5,h6⟩:=h;rw[y]at h1;obtain rfl:b=b0:=by grind
 refine⟨b,cs,ty,fz,g,k,h2,⟨h3.1,fun t G=>h3.2 t (by grind)⟩,by grind,?_,h6⟩;unfold Ts at h5⊢;rw[ai2];obtain⟨i,s,D⟩:=A;have key:∀(j:List Unit)(xs:List T)(f:Fp)(vs:List Value),xs.all (T.self n)=true->Cs (fun _ t=>TR w H γ m t) j xs f vs->Cs (fun _ t=>TR w H γ' m' t) j (xs.map (T.ren n n')) f vs:=by
  intro j xs;induction xs generalizing j with
  |nil=>intro f vs _ h;cases j<;>exact h
  |cons x xs ih=>
   intro f vs hx h;simp only[ajE,aiW]at hx;cases j with
   |nil=>exact h.elim
   |cons u j=>
    obtain⟨v,r,f1,B,hv,hf,k1,k2⟩:=h;refine⟨v,r,f1,B,hv,hf,?_,ih j B r hx.2 k2⟩;cases x with
    |pl p=>
     obtain⟨root,off,path⟩:=p;have hp:=hx.1
     simp only[T.self,aiW,decide_eq_true_eq,List.isEmpty_iff]at hp;obtain⟨rfl,rfl⟩:=hp;obtain⟨z,q,a,I,e⟩:=k1;simp only[T.ren,if_true];refine⟨z,?_,a,?_,e⟩
     ·rw[aA]at q⊢;obtain⟨r0,C,q2⟩:=q;rw[E]at C;obtain rfl:=Option.some.inj C;exact⟨_,s,by
       have F:off<cells.length:=q2
       show off<i.length
       omega⟩
     grind [plA]
    |rf p=>grind [T.self]
    |d x=>exact k1
    |nil=>exact k1
    |ow sub l=>exact k1
    |mp l=>exact k1
    |it c l=>exact k1
    |el row o=>exact k1
    |any=>exact k1
 grind
theorem qb{F:Nm->Fp}{m:Mm}{n:Nm}{r:Root}(hk:af m n=some r)(c:Nat):tot F (cv m n) c+F n c=tot F m c:=by
 induction m<;>grind [af,cv,eT]
theorem W6{m:Mm}{n:Nm}(hk:(m.map (·.1)).Nodup):af (aP (bU n) (cv m n)) n=none:=by
 grind [wc,nZ,qX]
end
section
variable {P:Program}
theorem Yt{g:G}{s:S}{a:Act}{w:World}{H:FH}{γ:Gam}{F:Nm->Fp}(h:RX g s a w H γ F)(f:g.ex=none){fn:Func}{k:AV->Prop}(hk:wK P s fn.results.toList k) :
  ∃y v H' F',(results fn a.tmps).run P w=.ok y w/\RX g (ir s fn.results.toList) a w H' γ F'/\AR w H' γ (ir s fn.results.toList).m v y/\v.isFz=true/\k (v.map T.canon):=by
 unfold wK at hk;obtain⟨H1,F1,h1⟩:=se fn.results.toList s H F h;obtain⟨c,xs,l,d,b,o⟩:=s6 h1 f hk;have e:(results fn a.tmps).run P w=.ok (if h:c.toArray.size=1 then c.toArray[0]else .tuple c.toArray) w:=by
  simp_all[kV,Array.mapM_eq_mapM_toList]
 refine⟨_,(match xs with|[x]=>.one x|xs=>.tup xs),H1,F1,e,h1,?_⟩
 match xs,c,d,b with
 |[],[],d,b=>exact⟨⟨#[],by simp,trivial⟩,b.1,b.2⟩
 |[x],[y],d,b=>exact⟨d.1,b.1,b.2⟩
 |p::n::xs,j::i::c,d,b=>exact⟨⟨(j::i::c).toArray,by simp,by omega⟩,b.1,b.2⟩
end
section
variable {w:World} {H:FH} {γ:Gam} {m:Mm} {F:Nm->Fp}
theorem yQ{α β:Type}{R:α->β->Fp->Value->Prop}{x':β}:∀{a:List α}{xs:List β}{f:Fp}{vs:List Value}{k:Nat}{x:β},xs[k]? = some x->(∀s g v,R s x g v->R s x' g v)->Cs R a xs f vs->Cs R a (xs.set k x') f vs
 |[],[],_,_,_,_,hx,_,_=>by grind
 |s::a,y::xs,f,vs,0,x,hx,c,h=>by
  obtain⟨v,r,f1,b,hv,hf,h1,h2⟩:=h;simp only[akP,aiX]at hx;subst hx;exact⟨v,r,f1,b,hv,hf,c _ _ _ h1,h2⟩
 |s::a,y::xs,f,vs,k+1,x,hx,c,h=>by
  obtain⟨v,r,f1,b,hv,hf,h1,h2⟩:=h;simp only[List.getElem?_cons_succ]at hx;exact⟨v,r,f1,b,hv,hf,h1,yQ hx c h2⟩
 |[],_::_,_,_,_,_,_,_,h=>h.elim
 |_::_,[],_,_,_,_,_,_,h=>h.elim
theorem Ie{n:Nm}{cells:List T}{bl:Bool}(hr:af m n=some ⟨bl,cells⟩){off:Nat}(hc:cells[off]? = some .nil)(sub:List Sh):Keeps w γ m w γ (cM m n ⟨bl,cells.set off (.ow sub [])⟩):=by
 constructor
 ·intro q hq;refine⟨?_,rfl⟩;rw[aA]at hq⊢;obtain⟨r,h1,h2⟩:=hq;rw[fP hr];by_cases hn:n=q.root
  ·subst hn;rw[if_pos rfl];rw[hr]at h1;obtain rfl:=Option.some.inj h1;refine⟨_,rfl,?_⟩;obtain⟨d,a,b⟩:=q;cases b with
   |nil=>
    have c:a<cells.length:=h2
    show a < (cells.set off (.ow sub [])).length
    grind
   |cons st u=>
    grind [aT]
  grind
 ·intro q hq;refine⟨?_,rfl⟩;rw[cm]at hq⊢;obtain⟨r,h1,h2⟩:=hq;rw[fP hr];by_cases hn:n=q.root
  ·subst hn;rw[if_pos rfl];rw[hr]at h1;obtain rfl:=Option.some.inj h1;refine⟨_,rfl,?_⟩;obtain⟨d,a,b⟩:=q;dsimp only[bF]at h2⊢
   grind
  grind
end
def S.ownR(n:Nm)(off:Nat)(sub:List Sh)(s:S):S:=
 match af s.m n with
 |some ⟨true,cells⟩=>match cells[off]? with
  |some .nil=>⟨s.t,cM s.m n ⟨true,cells.set off (.ow sub [])⟩⟩
  |_=>s
 |_=>s
theorem Zo{g:G}{s:S}{a:Act}{w:World}{H:FH}{γ:Gam}{F:Nm->Fp}(h:RX g s a w H γ F)(n:Nm)(off:Nat)(sub:List Sh):RX g (s.ownR n off sub) a w H γ F:=by
 unfold S.ownR;split
 ·rename_i cells hr;split
  ·rename_i hc;have d:=Ie (w:=w) (γ:=γ) hr hc sub
   have c:=h.mem
   refine⟨⟨c.agree,fun x hx=>?_,?_,fun b=>?_,fun b hb=>?_,fun b hb=>?_⟩,⟨h.fr.size,h.fr.os,h.fr.tape,h.fr.output,h.fr.block,h.fr.hold,h.fr.hnew,fun b hb=>?_,h.fr.nz⟩,h.nt,h.df,fun i=>dy d (fun _ _ _ h=>h) (h.t i)⟩
   ·rcases pO c.keys hx with⟨_,hy⟩|rfl
    ·exact bh d (fun _ _ _ h=>h) rfl (fun _ _=>rfl) (c.roots x hy)
    ·have h1:=bh d (fun _ _ _ h=>h) rfl (fun _ _=>rfl) (c.roots _ (ak hr))
     unfold bZ at h1⊢;dsimp only at h1⊢;rw[if_pos rfl]at h1⊢;obtain⟨b,cs,ty,fz,g',k1,k2,k3,k4,k5,k6⟩:=h1;refine⟨b,cs,ty,fz,g',k1,k2,k3,by grind,?_,k6⟩;unfold Ts at k5⊢;rw[akT];refine yQ hc (fun _ f v hv=>?_) k5;obtain⟨z,rfl⟩:=hv;exact⟨1,fq.2 (.inl ⟨rfl,rfl,z⟩)⟩
   ·rw[mM];exact c.keys
   ·rw[dI];exact c.le1 b
   ·rw[dI]at hb;exact c.lt b hb
   ·rw[dI]at hb;exact c.nofz b hb
   ·rw[dI]at hb;exact h.fr.tt b hb
  omega
 omega
def S.mvR(n:Nm)(s:S):S:=
 match af s.m n with
 |some r=>⟨s.t,(n,r)::cv s.m n⟩
 |none=>s
def TP(t:Nat)(n':Nm)(sub:List Sh)(s:S):S:=
 match bd s.t t with
 |.one (.c .nil)=>match af (s.fresh n').m n',n'.isOut with
  |none,false=>⟨tb (s.fresh n').t t (.one (.c (.rf ⟨n',0,[]⟩))),(n',⟨false,[.ow sub []]⟩)::(s.fresh n').m⟩
  |_,_=>s
 |.one (.c (.rf ⟨n,0,[]⟩))=>match af s.m n with
  |some ⟨false,[.ow a l]⟩=>match n'.isOut with
   |false=>⟨tb ((s.drop n).fresh n').t t (.one (.c (.rf ⟨n',0,[]⟩))),(n',⟨false,[.ow a l]⟩)::((s.drop n).fresh n').m⟩
   |_=>s
  |_=>s
 |_=>s
def S.own:List (Nat×Nm×List Sh)->S->S
 |[],s=>s
 |(t,n,sub)::r,s=>S.own r (if 2000000<=t then s.mvR n else if 1000000<=t then s.ownR n (t - 1000000) sub else TP t n sub s)
section
variable {g:G} {s:S} {a:Act} {w:World} {H:FH} {γ:Gam} {F:Nm->Fp}
theorem PF(h:RX g s a w H γ F){t:Nat}{v:AV}(hv:AR w H γ s.m v (g.tv a t)):RX g ⟨tb s.t t v,s.m⟩ a w H γ F:=by
 refine⟨h.mem,h.fr,h.nt,h.df,fun i=>?_⟩
 grind [iW,RX.t]
theorem Yy{m:Mm}{n:Nm}{r:Root}{sub:List Sh}{l:List (List D)}{v:Value}(hr:r=⟨false,[.ow sub l]⟩)(a:γ n=.gh v):AR w H γ ((n,r)::m) (.one (.c (.rf ⟨n,0,[]⟩))) v:=by
 subst hr;refine⟨fun _=>rfl,?_,?_⟩
 ·simp_all[cm,af,bF]
 ·show aI w (γ n) 0=some v
  rw[a];rfl
theorem PD(h:RX g s a w H γ F)(t:Nat)(n':Nm)(sub:List Sh):∃γ' F',RX g (TP t n' sub s) a w H γ' F':=by
 unfold TP;split
 ·rename_i j;split
  ·rename_i c hno;have h1:=cW h n'
   have hv:=h.t t
   rw[j]at hv;obtain⟨_,hv⟩:=hv;obtain⟨γ',F',h2,q⟩:=dQ h1 hno c (v:=.slice none 0 0) (t:=.ow sub []) (f:=fun _=>0) ⟨1,fq.2 (.inl ⟨rfl,rfl,fun _=>rfl⟩)⟩ (fun b=>by have:=h1.mem.le1 b;omega) (fun b hb=>absurd rfl hb) (fun b hb=>absurd rfl hb);exact⟨γ',F',PF h2 (by grind [Yy])⟩
  grind
 ·rename_i n k
  ·split
   ·rename_i e l d;split
    ·rename_i hno;obtain⟨v,f,r,p,hd,i⟩:=Ik h d;have h1:=cW hd n'
     have o:∀b,tot F ((s.drop n).fresh n').m b<=tot F (s.drop n).m b:=by
      intro b;unfold S.fresh;split
      ·omega
      ·show tot F (aP _ _) b<=_
       rw[bu];exact gC
     have hv:=h.t t
     rw[k]at hv;obtain⟨_,_,hv⟩:=hv;have u:v=g.tv a t:=by
      grind [plV,aI]
     obtain⟨γ',F',h2,q⟩:=dQ h1 hno (cC hd n') (v:=v) (t:=.ow e l) (f:=f) (p _) (fun b=>by have:=o b;have:=i b;have:=h.mem.le1 b;omega)
      (fun b hb=>⟨h.mem.lt b (by grind),h.mem.nofz b (by grind)⟩) (fun b hb=>h.fr.tt b (by grind))
     exact⟨γ',F',PF h2 (by grind [Yy])⟩
    grind
   grind
 grind
def S.cutO(ns:List (Nat×Nm×List Sh))(ks:List Nat)(ds:List Nm)(s:S):S:=(s.own ns).cut ks ds
variable {P:Program} {Q:Exit->S->Prop}
def adN:List D->Option UInt8
 |[.int .u8 n]=>if 0<=n/\n < 256 then some (UInt8.ofNat n.toNat)else none
 |_=>none
def rB:Rw UInt8 where
 enc b:=[.int .u8 (b.toNat:Int)]
 dec:=adN
 inv l x h:=by
  unfold adN at h
  grind [UInt8.toNat_ofNat']
theorem ab6(b:List UInt8):(b.map fun c=>[D.int .u8 (c.toNat:Int)])=b.map rB.enc:=rfl
theorem FG(a:Nat)(l:List Nat):(([]:List Nat)==a::l)=false:=rfl
theorem EW(a:Nat)(l:List Nat):((a::l)==([]:List Nat))=false:=rfl
attribute [push_cast] FG EW ab6 S.own TP S.ownR S.mvR cv S.cutO Nm.isOut D.sure
end
def Qs(cells:List T)(off:Nat)(sub:List Sh):List T:=
 match cells[off]? with
 |some .nil=>cells.set off (.ow sub [])
 |_=>cells
def uK:List (Nat×List Sh)->List T->List T
 |[],cells=>cells
 |(off,sub)::r,cells=>uK r (Qs cells off sub)
section
variable {w:World} {H:FH} {γ:Gam} {m:Mm} {F:Nm->Fp}
end
section
variable {g:G} {a:Act} {w:World} {H:FH} {γ:Gam} {F:Nm->Fp}
end
structure Cs1 (σ:Type) where
 j:Nat
 enc:σ->List T
 dec:List T->Option σ
 offs:List (Nat×List Sh)
 inv:∀l x,dec l=some x->uK offs l=enc x
 self:∀x,(enc x).all (T.self (.out j))=true
 ren:∀l x n,dec l=some x->dec (l.map (T.ren n (.out j)))=some x
section
variable {α β γ' ρ σ:Type}
def fp0(c:Cs1 σ)(r:ρ->AV)(pre:σ->Prop)(f:σ->ρ×σ):List AV->List T->(AV->List T->Prop)->Prop
 |[],cells,K=>match c.dec cells with
  |some s=>pre s/\K (r (f s).1) (c.enc (f s).2)
  |none=>False
 |_,_,_=>False
def fp1(c:Cs1 σ)(a:Cd α)(r:ρ->AV)(pre:σ->α->Prop)(f:σ->α->ρ×σ):List AV->List T->(AV->List T->Prop)->Prop
 |[.one x],cells,K=>match c.dec cells,a.dec x with
  |some s,some x=>pre s x/\K (r (f s x).1) (c.enc (f s x).2)
  |_,_=>False
 |_,_,_=>False
def fp2(c:Cs1 σ)(a:Cd α)(b:Cd β)(r:ρ->AV)(pre:σ->α->β->Prop)(f:σ->α->β->ρ×σ):List AV->List T->(AV->List T->Prop)->Prop
 |[.one x,.one y],cells,K=>match c.dec cells,a.dec x,b.dec y with
  |some s,some x,some y=>pre s x y/\K (r (f s x y).1) (c.enc (f s x y).2)
  |_,_,_=>False
 |_,_,_=>False
variable {P:Program} {f:Nat} {fn:Func} {co:Code}
end
attribute [push_cast] ai0 List.isEmpty_nil List.isEmpty_cons aiO fp0 fp1 fp2 T.ren T.self lQ Qs uK ah3
attribute [push_cast] og Nm.tyd
section
variable {P:Program} {cs:CT} {all:List Oper} {g:G} {Q:Exit->S->Prop}
end
def T.isD:T->Bool
 |.d _=>true
 |_=>false
def T.frB(n:Nm)(row:List D):T->T
 |.pl p=>match p.path with
  |[]=>if p.root=n then .el row p.off else .pl p
  |_=>(T.pl p).kill (bU n)
 |t=>t.kill (bU n)
def S.frzB(n:Nm)(s:S):S:=
 match af s.m n with
 |some ⟨true,cells⟩=>if cells.all T.isD=true then⟨sQ (AV.map (T.frB n (cells.map T.toD))) s.t,aP (bU n) (cv s.m n)⟩else s
 |_=>s
theorem Q0{H:FH}{row:List D}{b o:Nat}(h:∀j,j<row.length->∃y:Value,H b (o+j)=some y/\FDx H (row.getD j default) y):∃m,BN H m row b o:=by
 have key:∀n,n<=row.length->∃m,∀j,j<n->∃y:Value,H b (o+j)=some y/\FD H m (row.getD j default) y:=by
  intro n;induction n with
  |zero=>simp_all
  |succ n ih=>
   intro hn;obtain⟨c,h1⟩:=ih kQ1;obtain⟨y,hy,d,hf⟩:=h n kQ1;refine⟨c+d,fun j hj=>?_⟩;by_cases a:j=n
   ·subst a;exact⟨y,hy,fG (fun _ _ _ h=>h) _ _ _ _ kQ1 hf⟩
   ·obtain⟨z,hz,hf⟩:=h1 j kQ1;exact⟨z,hz,fG (fun _ _ _ h=>h) _ _ _ _ kQ1 hf⟩
 exact key row.length (ai0 _)
section
variable {P:Program} {g:G} {s:S} {a:Act} {w:World} {H:FH} {γ:Gam} {F:Nm->Fp}
theorem BD{F:Nm->Fp}{m:Mm}{n:Nm}{r:Root}(hk:af m n=some r)(c:Nat):tot F (cv m n) c+F n c=tot F m c:=by
 induction m<;>grind [af,cv,eT]
theorem Zl(h:RX g s a w H γ F)(n:Nm):∃H',RX g (s.frzB n) a w H' γ F:=by
 unfold S.frzB;split
 rotate_left
 ·grind
 rename_i cells hr;split
 rotate_left
 ·grind
 rename_i A;have K:=h.mem.roots _ (ak hr)
 unfold bZ at K;rw[if_pos rfl]at K;obtain⟨b,cs,ty,fz,f,X,P,Z,e4,R,W⟩:=K;dsimp only at X e4 R W;have hd:=ym h n
 have L:(s.drop n).m=aP (bU n) (cv s.m n):=rfl
 have B:∀c,tot F (aP (bU n) (cv s.m n)) c+F n c=tot F s.m c:=fun c=>by grind [bu,BD]
 let H':FH:=fun k o=>if k=b then(w.cell? ⟨k,o,none⟩).map HV.c else H k o
 have aa:F n b≠0:=by
  grind
 have D:tot F s.m b≠0:=by grind
 have J:∀k o y,H k o=some y->H' k o=some y:=by
  intro k o y hy;simp only[H'];split
  ·rename_i e;subst e;rw[h.mem.nofz _ D o]at hy;cases hy
  omega
 have N:∀k o y,H' k o=some y->RdV w k o y:=by
  intro k o y hy;simp only[H']at hy;split at hy
  ·obtain⟨z,hz,rfl⟩:=ajF.1 hy;exact hz
  ·exact h.mem.agree k o y hy
 have r:=hd.mem
 rw[L]at r;have O:Keeps w γ (aP (bU n) (cv s.m n)) w γ (aP (bU n) (cv s.m n)):=⟨fun q hq=>⟨hq,rfl⟩,fun q hq=>⟨hq,rfl⟩⟩
 have M:∀j,w.cell? ⟨b,j,none⟩=cs[j]? := fun j=>by simp[World.cell?,P]
 have C:∃m,BN H' m (cells.map T.toD) b 0:=by
  refine Q0 (fun j hj=>?_);rw[ai2]at hj;have G:cells[j]? = some cells[j]:=aiY hj
  obtain⟨v,q,v1,Q,_⟩:=EE R G;have I:=ajB.1 A cells[j] (ak6 hj)
  refine⟨v,?_,?_⟩
  ·grind
  ·rw[List.getD,ai4,G];simp only[Option.map_some,akG];generalize cells[j]=t at Q I;cases t with
   |d x=>exact eJ J Q.2
   |_=>grind [T.isD]
 refine⟨H',⟨?_,?_,h.nt,h.df,fun i=>?_⟩⟩
 ·refine⟨N,fun x hx=>bh O J rfl (fun _ _=>rfl) (r.roots x hx),r.keys,r.le1,r.lt,fun k hk o=>?_⟩;have u:k≠b:=by
   intro e;subst e;have h1:=B k;have h2:=h.mem.le1 k;grind
  simp only[H'];rw[if_neg u];exact r.nofz k hk o
 ·refine⟨h.fr.size,h.fr.os,h.fr.tape,h.fr.output,h.fr.block,fun k o y hy=>J _ _ _ (h.fr.hold k o y hy),fun k o h1 h2=>?_,fun k hk=>h.fr.tt k ?_,h.fr.nz.1,fun k o x l c h1 h2=>?_⟩
  rotate_left 2
  ·by_cases u:k=b
   ·subst u;have e0:fz=(0,0):=Z.1
    subst e0;exact⟨_,_,P⟩
   ·simp only[H']at h1;rw[if_neg u]at h1;exact h.fr.nz.2 k o x l c h1 h2
  ·by_cases u:k=b
   ·subst u;exact h.fr.tt k D
   ·simp only[H']at h1;rw[if_neg u]at h1;exact h.fr.hnew k o h1 h2
  grind
 ·show AR w H' γ _ (bd (sQ _ s.t) i) _
  rw[qG rfl];refine iK (fun t y E=>?_) (h.t i);have hk:=fun(t:T) (E:TR w H γ s.m t (fun _=>0) y)=>qu (fp (n:=n)) J (fun _ hb=>absurd rfl hb) E
  cases t with
  |pl p=>
   obtain⟨pn,po,V⟩:=p;cases V with
   |nil=>
    simp only[T.frB];split
    ·rename_i hc;subst hc;obtain⟨_,_,ad,U,hy⟩:=E;obtain⟨m,Y⟩:=C;have:ad=⟨b,po,none⟩:=by
      grind [plA]
     subst this;exact⟨fun _=>rfl,b,0,m,by grind,Y⟩
    grind [bU,T.kill]
   |cons st q=>exact hk _ E
  |_=>exact hk _ E
variable {Q:Exit->S->Prop}
end
def tI(k:IntKind)(n:Int):T:=.d (.int k n)
theorem YO(k:IntKind)(n:Int):(tI k n).owned=false:=rfl
attribute [push_cast] Pl.at xG bJ cx okO
attribute [push_cast high] YO
attribute [push_cast] T.isD T.frB S.frzB sQ nN ak2 Nat.add_zero Nat.mul_one Nat.sub_zero T.toD alH List.replicate_zero
section
variable {P:Program} {cs:CT} {all:List Oper} {g:G} {Q:Exit->S->Prop}
end
end Go.Am
end

section
open Go Go.Am
namespace Lt
structure Var where
 Name:List UInt8
 Type_:List UInt8
 deriving Inhabited,DecidableEq
def Var.enc(x:Var):List D:=[.str x.Name,.str x.Type_]
def Var.dec:List D->Option Var
 |[.str v0,.str v1]=>some ⟨v0,v1⟩
 |_=>none
theorem Var.dec_inv:∀(l:List D)(x:Var),Var.dec l=some x->l=x.enc:=by
 intro l x h;unfold Var.dec at h;split at h
 ·simp only[aiX]at h;subst h;rfl
 ·simp at h
def Var.rw:Rw Var:=⟨Var.enc,Var.dec,Var.dec_inv⟩
theorem Var.rows(l:List Var):(∀x∈l.map Var.enc,x.length=2)=True:=by
 simp[Var.enc]
attribute [push_cast] Var.enc Var.dec Var.rows
structure Class where
 Name:List UInt8
 Fields:List Var
 deriving Inhabited,DecidableEq
def Class.enc(x:Class):List D:=[.str x.Name,.li (x.Fields.map Var.enc)]
def Class.dec:List D->Option Class
 |[.str v0,.li v1]=>(dB Var.rw v1).bind fun w1=>some ⟨v0,w1⟩
 |_=>none
theorem Class.dec_inv:∀(l:List D)(x:Class),Class.dec l=some x->l=x.enc:=by
 intro l x h;unfold Class.dec at h;split at h
 ·simp only[ajL,aiX]at h;obtain⟨w1,hw1,rfl⟩:=h;rw[aG hw1];rfl
 ·simp at h
def Class.rw:Rw Class:=⟨Class.enc,Class.dec,Class.dec_inv⟩
theorem Class.rows(l:List Class):(∀x∈l.map Class.enc,x.length=2)=True:=by
 simp[Class.enc]
attribute [push_cast] Class.enc Class.dec Class.rows
structure Extern where
 Name:List UInt8
 N:Int
 deriving Inhabited,DecidableEq
def Extern.enc(x:Extern):List D:=[.str x.Name,.int .i64 x.N]
def Extern.dec:List D->Option Extern
 |[.str v0,.int .i64 v1]=>some ⟨v0,v1⟩
 |_=>none
theorem Extern.dec_inv:∀(l:List D)(x:Extern),Extern.dec l=some x->l=x.enc:=by
 intro l x h;unfold Extern.dec at h;split at h
 ·simp only[aiX]at h;subst h;rfl
 ·simp at h
def Extern.rw:Rw Extern:=⟨Extern.enc,Extern.dec,Extern.dec_inv⟩
theorem Extern.rows(l:List Extern):(∀x∈l.map Extern.enc,x.length=2)=True:=by
 simp[Extern.enc]
attribute [push_cast] Extern.enc Extern.dec Extern.rows
structure Arg where
 Kind:Int
 S:List UInt8
 N:Int
 deriving Inhabited,DecidableEq
def Arg.enc(x:Arg):List D:=[.int .i64 x.Kind,.str x.S,.int .i64 x.N]
def Arg.dec:List D->Option Arg
 |[.int .i64 v0,.str v1,.int .i64 v2]=>some ⟨v0,v1,v2⟩
 |_=>none
theorem Arg.dec_inv:∀(l:List D)(x:Arg),Arg.dec l=some x->l=x.enc:=by
 intro l x h;unfold Arg.dec at h;split at h
 ·simp only[aiX]at h;subst h;rfl
 ·simp at h
def Arg.rw:Rw Arg:=⟨Arg.enc,Arg.dec,Arg.dec_inv⟩
theorem Arg.rows(l:List Arg):(∀x∈l.map Arg.enc,x.length=3)=True:=by
 simp[Arg.enc]
attribute [push_cast] Arg.enc Arg.dec Arg.rows
structure In where
 Block:List UInt8
 A:Arg
 deriving Inhabited,DecidableEq
def In.enc(x:In):List D:=[.str x.Block,.int .i64 x.A.Kind,.str x.A.S,.int .i64 x.A.N]
def In.dec:List D->Option In
 |[.str v0,.int .i64 v1,.str v2,.int .i64 v3]=>some ⟨v0,⟨v1,v2,v3⟩⟩
 |_=>none
theorem In.dec_inv:∀(l:List D)(x:In),In.dec l=some x->l=x.enc:=by
 intro l x h;unfold In.dec at h;split at h
 ·simp only[aiX]at h;subst h;rfl
 ·simp at h
def In.rw:Rw In:=⟨In.enc,In.dec,In.dec_inv⟩
theorem In.rows(l:List In):(∀x∈l.map In.enc,x.length=4)=True:=by
 simp[In.enc]
attribute [push_cast] In.enc In.dec In.rows
structure Phi where
 Dst:List UInt8
 Ins:List In
 deriving Inhabited,DecidableEq
def Phi.enc(x:Phi):List D:=[.str x.Dst,.li (x.Ins.map In.enc)]
def Phi.dec:List D->Option Phi
 |[.str v0,.li v1]=>(dB In.rw v1).bind fun w1=>some ⟨v0,w1⟩
 |_=>none
theorem Phi.dec_inv:∀(l:List D)(x:Phi),Phi.dec l=some x->l=x.enc:=by
 intro l x h;unfold Phi.dec at h;split at h
 ·simp only[ajL,aiX]at h;obtain⟨w1,hw1,rfl⟩:=h;rw[aG hw1];rfl
 ·simp at h
def Phi.rw:Rw Phi:=⟨Phi.enc,Phi.dec,Phi.dec_inv⟩
theorem Phi.rows(l:List Phi):(∀x∈l.map Phi.enc,x.length=2)=True:=by
 simp[Phi.enc]
attribute [push_cast] Phi.enc Phi.dec Phi.rows
structure Bind where
 Name:List UInt8
 A:Arg
 deriving Inhabited,DecidableEq
def Bind.enc(x:Bind):List D:=[.str x.Name,.int .i64 x.A.Kind,.str x.A.S,.int .i64 x.A.N]
def Bind.dec:List D->Option Bind
 |[.str v0,.int .i64 v1,.str v2,.int .i64 v3]=>some ⟨v0,⟨v1,v2,v3⟩⟩
 |_=>none
theorem Bind.dec_inv:∀(l:List D)(x:Bind),Bind.dec l=some x->l=x.enc:=by
 intro l x h;unfold Bind.dec at h;split at h
 ·simp only[aiX]at h;subst h;rfl
 ·simp at h
def Bind.rw:Rw Bind:=⟨Bind.enc,Bind.dec,Bind.dec_inv⟩
theorem Bind.rows(l:List Bind):(∀x∈l.map Bind.enc,x.length=4)=True:=by
 simp[Bind.enc]
attribute [push_cast] Bind.enc Bind.dec Bind.rows
structure Frame where
 Func:List UInt8
 Block:List UInt8
 At:Int
 Vars:List Bind
 deriving Inhabited,DecidableEq
def Frame.enc(x:Frame):List D:=[.str x.Func,.str x.Block,.int .i64 x.At,.li (x.Vars.map Bind.enc)]
def Frame.dec:List D->Option Frame
 |[.str v0,.str v1,.int .i64 v2,.li v3]=>(dB Bind.rw v3).bind fun w3=>some ⟨v0,v1,v2,w3⟩
 |_=>none
theorem Frame.dec_inv:∀(l:List D)(x:Frame),Frame.dec l=some x->l=x.enc:=by
 intro l x h;unfold Frame.dec at h;split at h
 ·simp only[ajL,aiX]at h;obtain⟨w3,hw3,rfl⟩:=h;rw[aG hw3];rfl
 ·simp at h
def Frame.rw:Rw Frame:=⟨Frame.enc,Frame.dec,Frame.dec_inv⟩
theorem Frame.rows(l:List Frame):(∀x∈l.map Frame.enc,x.length=4)=True:=by
 simp[Frame.enc]
attribute [push_cast] Frame.enc Frame.dec Frame.rows
structure Virt where
 Class:List UInt8
 Vals:List Arg
 deriving Inhabited,DecidableEq
def Virt.enc(x:Virt):List D:=[.str x.Class,.li (x.Vals.map Arg.enc)]
def Virt.dec:List D->Option Virt
 |[.str v0,.li v1]=>(dB Arg.rw v1).bind fun w1=>some ⟨v0,w1⟩
 |_=>none
theorem Virt.dec_inv:∀(l:List D)(x:Virt),Virt.dec l=some x->l=x.enc:=by
 intro l x h;unfold Virt.dec at h;split at h
 ·simp only[ajL,aiX]at h;obtain⟨w1,hw1,rfl⟩:=h;rw[aG hw1];rfl
 ·simp at h
def Virt.rw:Rw Virt:=⟨Virt.enc,Virt.dec,Virt.dec_inv⟩
theorem Virt.rows(l:List Virt):(∀x∈l.map Virt.enc,x.length=2)=True:=by
 simp[Virt.enc]
attribute [push_cast] Virt.enc Virt.dec Virt.rows
structure Instr where
 Op:Int
 Dst:List UInt8
 Name:List UInt8
 Args:List Arg
 Frames:List Frame
 Objs:List Virt
 deriving Inhabited,DecidableEq
def Instr.enc(x:Instr):List D:=[.int .i64 x.Op,.str x.Dst,.str x.Name,.li (x.Args.map Arg.enc),.li (x.Frames.map Frame.enc),.li (x.Objs.map Virt.enc)]
def Instr.dec:List D->Option Instr
 |[.int .i64 v0,.str v1,.str v2,.li v3,.li v4,.li v5]=>(dB Arg.rw v3).bind fun w3=>(dB Frame.rw v4).bind fun w4=>(dB Virt.rw v5).bind fun w5=>some ⟨v0,v1,v2,w3,w4,w5⟩
 |_=>none
theorem Instr.dec_inv:∀(l:List D)(x:Instr),Instr.dec l=some x->l=x.enc:=by
 intro l x h;unfold Instr.dec at h;split at h
 ·simp only[ajL,aiX]at h;obtain⟨w3,hw3,w4,hw4,w5,hw5,rfl⟩:=h;rw[aG hw3,aG hw4,aG hw5];rfl
 ·simp at h
def Instr.rw:Rw Instr:=⟨Instr.enc,Instr.dec,Instr.dec_inv⟩
theorem Instr.rows(l:List Instr):(∀x∈l.map Instr.enc,x.length=6)=True:=by
 simp[Instr.enc]
attribute [push_cast] Instr.enc Instr.dec Instr.rows
structure Term where
 Kind:Int
 A:Arg
 To:List (List UInt8)
 N:Int
 deriving Inhabited,DecidableEq
def Term.enc(x:Term):List D:=[.int .i64 x.Kind,.int .i64 x.A.Kind,.str x.A.S,.int .i64 x.A.N,.li (x.To.map rS.enc),.int .i64 x.N]
def Term.dec:List D->Option Term
 |[.int .i64 v0,.int .i64 v1,.str v2,.int .i64 v3,.li v4,.int .i64 v5]=>(dB rS v4).bind fun w4=>some ⟨v0,⟨v1,v2,v3⟩,w4,v5⟩
 |_=>none
theorem Term.dec_inv:∀(l:List D)(x:Term),Term.dec l=some x->l=x.enc:=by
 intro l x h;unfold Term.dec at h;split at h
 ·simp only[ajL,aiX]at h;obtain⟨w4,hw4,rfl⟩:=h;rw[aG hw4];rfl
 ·simp at h
def Term.rw:Rw Term:=⟨Term.enc,Term.dec,Term.dec_inv⟩
theorem Term.rows(l:List Term):(∀x∈l.map Term.enc,x.length=6)=True:=by
 simp[Term.enc]
attribute [push_cast] Term.enc Term.dec Term.rows
structure Block where
 Name:List UInt8
 Phis:List Phi
 Code:List Instr
 End:Term
 deriving Inhabited,DecidableEq
def Block.enc(x:Block):List D:=[.str x.Name,.li (x.Phis.map Phi.enc),.li (x.Code.map Instr.enc),.int .i64 x.End.Kind,.int .i64 x.End.A.Kind,.str x.End.A.S,.int .i64 x.End.A.N,.li (x.End.To.map rS.enc),.int .i64 x.End.N]
def Block.dec:List D->Option Block
 |[.str v0,.li v1,.li v2,.int .i64 v3,.int .i64 v4,.str v5,.int .i64 v6,.li v7,.int .i64 v8]=>(dB Phi.rw v1).bind fun w1=>(dB Instr.rw v2).bind fun w2=>(dB rS v7).bind fun w7=>some ⟨v0,w1,w2,⟨v3,⟨v4,v5,v6⟩,w7,v8⟩⟩
 |_=>none
theorem Block.dec_inv:∀(l:List D)(x:Block),Block.dec l=some x->l=x.enc:=by
 intro l x h;unfold Block.dec at h;split at h
 ·simp only[ajL,aiX]at h;obtain⟨w1,hw1,w2,hw2,w7,hw7,rfl⟩:=h;rw[aG hw1,aG hw2,aG hw7];rfl
 ·simp at h
def Block.rw:Rw Block:=⟨Block.enc,Block.dec,Block.dec_inv⟩
theorem Block.rows(l:List Block):(∀x∈l.map Block.enc,x.length=9)=True:=by
 simp[Block.enc]
attribute [push_cast] Block.enc Block.dec Block.rows
structure Func where
 Name:List UInt8
 Result:List UInt8
 Params:List Var
 Vars:List Var
 Blocks:List Block
 deriving Inhabited,DecidableEq
def Func.enc(x:Func):List D:=[.str x.Name,.str x.Result,.li (x.Params.map Var.enc),.li (x.Vars.map Var.enc),.li (x.Blocks.map Block.enc)]
def Func.dec:List D->Option Func
 |[.str v0,.str v1,.li v2,.li v3,.li v4]=>(dB Var.rw v2).bind fun w2=>(dB Var.rw v3).bind fun w3=>(dB Block.rw v4).bind fun w4=>some ⟨v0,v1,w2,w3,w4⟩
 |_=>none
theorem Func.dec_inv:∀(l:List D)(x:Func),Func.dec l=some x->l=x.enc:=by
 intro l x h;unfold Func.dec at h;split at h
 ·simp only[ajL,aiX]at h;obtain⟨w2,hw2,w3,hw3,w4,hw4,rfl⟩:=h;rw[aG hw2,aG hw3,aG hw4];rfl
 ·simp at h
def Func.rw:Rw Func:=⟨Func.enc,Func.dec,Func.dec_inv⟩
theorem Func.rows(l:List Func):(∀x∈l.map Func.enc,x.length=5)=True:=by
 simp[Func.enc]
attribute [push_cast] Func.enc Func.dec Func.rows
structure Program where
 SSA:Bool
 Classes:List Class
 Globals:List Var
 Externs:List Extern
 Funcs:List Func
 deriving Inhabited,DecidableEq
def Program.enc(x:Program):List D:=[.bool x.SSA,.li (x.Classes.map Class.enc),.li (x.Globals.map Var.enc),.li (x.Externs.map Extern.enc),.li (x.Funcs.map Func.enc)]
def Program.dec:List D->Option Program
 |[.bool v0,.li v1,.li v2,.li v3,.li v4]=>(dB Class.rw v1).bind fun w1=>(dB Var.rw v2).bind fun w2=>(dB Extern.rw v3).bind fun w3=>(dB Func.rw v4).bind fun w4=>some ⟨v0,w1,w2,w3,w4⟩
 |_=>none
theorem Program.dec_inv:∀(l:List D)(x:Program),Program.dec l=some x->l=x.enc:=by
 intro l x h;unfold Program.dec at h;split at h
 ·simp only[ajL,aiX]at h;obtain⟨w1,hw1,w2,hw2,w3,hw3,w4,hw4,rfl⟩:=h;rw[aG hw1,aG hw2,aG hw3,aG hw4];rfl
 ·simp at h
def Program.rw:Rw Program:=⟨Program.enc,Program.dec,Program.dec_inv⟩
theorem Program.rows(l:List Program):(∀x∈l.map Program.enc,x.length=5)=True:=by
 simp[Program.enc]
attribute [push_cast] Program.enc Program.dec Program.rows
structure Line where
 N:Int
 Words:List (List UInt8)
 deriving Inhabited,DecidableEq
def Line.enc(x:Line):List D:=[.int .i64 x.N,.li (x.Words.map rS.enc)]
def Line.dec:List D->Option Line
 |[.int .i64 v0,.li v1]=>(dB rS v1).bind fun w1=>some ⟨v0,w1⟩
 |_=>none
theorem Line.dec_inv:∀(l:List D)(x:Line),Line.dec l=some x->l=x.enc:=by
 intro l x h;unfold Line.dec at h;split at h
 ·simp only[ajL,aiX]at h;obtain⟨w1,hw1,rfl⟩:=h;rw[aG hw1];rfl
 ·simp at h
def Line.rw:Rw Line:=⟨Line.enc,Line.dec,Line.dec_inv⟩
theorem Line.eta(x:Line):(⟨x.N,x.Words⟩:Line)=x:=rfl
theorem Line.rwe(x:Line):Line.rw.enc x=x.enc:=rfl
theorem Line.rwd(l:List D):Line.rw.dec l=Line.dec l:=rfl
theorem Line.rwm:Line.rw.enc=Line.enc:=rfl
theorem Line.rows(l:List Line):(∀x∈l.map Line.enc,x.length=2)=True:=by
 simp[Line.enc]
attribute [push_cast] Line.enc Line.dec Line.eta Line.rwe Line.rwd Line.rwm Line.rows
structure Sheet where
 l:List Line
 deriving Inhabited,DecidableEq
def Sheet.enc(x:Sheet):List D:=[.li (x.l.map Line.enc)]
def Sheet.dec:List D->Option Sheet
 |[.li v0]=>(dB Line.rw v0).bind fun w0=>some ⟨w0⟩
 |_=>none
theorem Sheet.dec_inv:∀(l:List D)(x:Sheet),Sheet.dec l=some x->l=x.enc:=by
 intro l x h;unfold Sheet.dec at h;split at h
 ·simp only[ajL,aiX]at h;obtain⟨w0,hw0,rfl⟩:=h;rw[aG hw0];rfl
 ·simp at h
def Sheet.rw:Rw Sheet:=⟨Sheet.enc,Sheet.dec,Sheet.dec_inv⟩
theorem Sheet.rows(l:List Sheet):(∀x∈l.map Sheet.enc,x.length=1)=True:=by
 simp[Sheet.enc]
attribute [push_cast] Sheet.enc Sheet.dec Sheet.rows
structure Reader where
 p:Program
 at_:Int
 where_:Int
 first:Bool
 long:Int
 deriving Inhabited,DecidableEq
def Reader.enc(x:Reader):List D:=[.bool x.p.SSA,.li (x.p.Classes.map Class.enc),.li (x.p.Globals.map Var.enc),.li (x.p.Externs.map Extern.enc),.li (x.p.Funcs.map Func.enc),.int .i64 x.at_,.int .i64 x.where_,.bool x.first,.int .i64 x.long]
def Reader.dec:List D->Option Reader
 |[.bool v0,.li v1,.li v2,.li v3,.li v4,.int .i64 v5,.int .i64 v6,.bool v7,.int .i64 v8]=>(dB Class.rw v1).bind fun w1=>(dB Var.rw v2).bind fun w2=>(dB Extern.rw v3).bind fun w3=>(dB Func.rw v4).bind fun w4=>some ⟨⟨v0,w1,w2,w3,w4⟩,v5,v6,v7,v8⟩
 |_=>none
theorem Reader.dec_inv:∀(l:List D)(x:Reader),Reader.dec l=some x->l=x.enc:=by
 intro l x h;unfold Reader.dec at h;split at h
 ·simp only[ajL,aiX]at h;obtain⟨w1,hw1,w2,hw2,w3,hw3,w4,hw4,rfl⟩:=h;rw[aG hw1,aG hw2,aG hw3,aG hw4];rfl
 ·simp at h
def Reader.rw:Rw Reader:=⟨Reader.enc,Reader.dec,Reader.dec_inv⟩
theorem Reader.rows(l:List Reader):(∀x∈l.map Reader.enc,x.length=9)=True:=by
 simp[Reader.enc]
attribute [push_cast] Reader.enc Reader.dec Reader.rows
structure Fault where
 e:Int
 deriving Inhabited,DecidableEq
def Fault.enc(x:Fault):List D:=[.int .i64 x.e]
def Fault.dec:List D->Option Fault
 |[.int .i64 v0]=>some ⟨v0⟩
 |_=>none
theorem Fault.dec_inv:∀(l:List D)(x:Fault),Fault.dec l=some x->l=x.enc:=by
 intro l x h;unfold Fault.dec at h;split at h
 ·simp only[aiX]at h;subst h;rfl
 ·simp at h
def Fault.rw:Rw Fault:=⟨Fault.enc,Fault.dec,Fault.dec_inv⟩
theorem Fault.rows(l:List Fault):(∀x∈l.map Fault.enc,x.length=1)=True:=by
 simp[Fault.enc]
attribute [push_cast] Fault.enc Fault.dec Fault.rows
structure asked where
 p:Program
 i:Instr
 dst:List UInt8
 args:List (List UInt8)
 deriving Inhabited,DecidableEq
def asked.enc(x:asked):List D:=[.bool x.p.SSA,.li (x.p.Classes.map Class.enc),.li (x.p.Globals.map Var.enc),.li (x.p.Externs.map Extern.enc),.li (x.p.Funcs.map Func.enc),.int .i64 x.i.Op,.str x.i.Dst,.str x.i.Name,.li (x.i.Args.map Arg.enc),.li (x.i.Frames.map Frame.enc),.li (x.i.Objs.map Virt.enc),.str x.dst,.li (x.args.map rS.enc)]
def asked.dec:List D->Option asked
 |[.bool v0,.li v1,.li v2,.li v3,.li v4,.int .i64 v5,.str v6,.str v7,.li v8,.li v9,.li v10,.str v11,.li v12]=>(dB Class.rw v1).bind fun w1=>(dB Var.rw v2).bind fun w2=>(dB Extern.rw v3).bind fun w3=>(dB Func.rw v4).bind fun w4=>(dB Arg.rw v8).bind fun w8=>(dB Frame.rw v9).bind fun w9=>(dB Virt.rw v10).bind fun w10=>(dB rS v12).bind fun w12=>some ⟨⟨v0,w1,w2,w3,w4⟩,⟨v5,v6,v7,w8,w9,w10⟩,v11,w12⟩
 |_=>none
theorem asked.dec_inv:∀(l:List D)(x:asked),asked.dec l=some x->l=x.enc:=by
 intro l x h;unfold asked.dec at h;split at h
 ·simp only[ajL,aiX]at h;obtain⟨w1,hw1,w2,hw2,w3,hw3,w4,hw4,w8,hw8,w9,hw9,w10,hw10,w12,hw12,rfl⟩:=h;rw[aG hw1,aG hw2,aG hw3,aG hw4,aG hw8,aG hw9,aG hw10,aG hw12];rfl
 ·simp at h
def asked.rw:Rw asked:=⟨asked.enc,asked.dec,asked.dec_inv⟩
theorem asked.rows(l:List asked):(∀x∈l.map asked.enc,x.length=13)=True:=by
 simp[asked.enc]
attribute [push_cast] asked.enc asked.dec asked.rows
structure Form where
 Word:List UInt8
 Dst:Bool
 Named:Bool
 Least:Int
 Most:Int
 deriving Inhabited,DecidableEq
def Form.enc(x:Form):List D:=[.str x.Word,.bool x.Dst,.bool x.Named,.int .i64 x.Least,.int .i64 x.Most]
def Form.dec:List D->Option Form
 |[.str v0,.bool v1,.bool v2,.int .i64 v3,.int .i64 v4]=>some ⟨v0,v1,v2,v3,v4⟩
 |_=>none
theorem Form.dec_inv:∀(l:List D)(x:Form),Form.dec l=some x->l=x.enc:=by
 intro l x h;unfold Form.dec at h;split at h
 ·simp only[aiX]at h;subst h;rfl
 ·simp at h
def Form.rw:Rw Form:=⟨Form.enc,Form.dec,Form.dec_inv⟩
theorem Form.rows(l:List Form):(∀x∈l.map Form.enc,x.length=5)=True:=by
 simp[Form.enc]
attribute [push_cast] Form.enc Form.dec Form.rows
structure step where
 at_:Int
 next:Int
 deriving Inhabited,DecidableEq
def step.enc(x:step):List D:=[.int .i64 x.at_,.int .i64 x.next]
def step.dec:List D->Option step
 |[.int .i64 v0,.int .i64 v1]=>some ⟨v0,v1⟩
 |_=>none
theorem step.dec_inv:∀(l:List D)(x:step),step.dec l=some x->l=x.enc:=by
 intro l x h;unfold step.dec at h;split at h
 ·simp only[aiX]at h;subst h;rfl
 ·simp at h
def step.rw:Rw step:=⟨step.enc,step.dec,step.dec_inv⟩
theorem step.rows(l:List step):(∀x∈l.map step.enc,x.length=2)=True:=by
 simp[step.enc]
attribute [push_cast] step.enc step.dec step.rows
def Sheet.cenc(x:Sheet):List T:=[.ow [.fr,.fr] (x.l.map Line.enc)]
def Sheet.cdec:List T->Option Sheet
 |[.ow sub v0]=>if sub.all Sh.isFr=true/\sub.length=2 then(dB Line.rw v0).bind fun w0=>some ⟨w0⟩else none
 |[.nil]=>some ⟨[]⟩
 |_=>none
theorem Sheet.cs_inv(l:List T)(x:Sheet)(h:Sheet.cdec l=some x):uK [(0,[.fr,.fr])] l=x.cenc:=by
 unfold Sheet.cdec at h;split at h
 ·split at h
  ·rename_i sub v0 hs;simp only[ajL,aiX]at h;obtain⟨w0,h0,rfl⟩:=h;rw[aG h0];have e:sub=[.fr,.fr]:=by rw[adK hs.1,hs.2];rfl
   subst e;rfl
  ·simp at h
 ·simp only[aiX]at h;subst h;rfl
 ·simp at h
theorem Sheet.cs_ren(l:List T)(x:Sheet)(n:Nm)(h:Sheet.cdec l=some x):Sheet.cdec (l.map (T.ren n (.out 0)))=some x:=by
 unfold Sheet.cdec at h;split at h
 ·exact h
 ·exact h
 ·simp at h
def Sheet.cs:Cs1 Sheet:=⟨0,Sheet.cenc,Sheet.cdec,[(0,[.fr,.fr])],Sheet.cs_inv,fun _=>rfl,Sheet.cs_ren⟩
attribute [push_cast] Sheet.cenc Sheet.cdec
inductive Cap where
 |Program (x:Program)
 |Func (x:Func)
 |keys (x:Option (List (List UInt8×Bool)))
 deriving Inhabited,DecidableEq
def Cap.enc:Cap->List D
 |.Program x=>x.enc
 |.Func x=>x.enc
 |.keys x=>[.mp (x.map fun l=>l.map fun y=>(.str y.1,.bool y.2))]
structure Clo where
 fn:Nat
 caps:List Cap
 deriving Inhabited,DecidableEq
structure Asked where
 holds:Clo
 e:Int
 deriving Inhabited,DecidableEq
def Asked.enc(x:Asked):List D:=[.fn x.holds.fn (x.holds.caps.map Cap.enc),.int .i64 x.e]
end Lt
end

section
namespace Go.Am
open Go
inductive Sn where
 |Var|Class|Extern|Arg|In|Phi|Bind|Frame|Virt|Instr|Term|Block|Func|Program|Asked|Line|Sheet|Reader|Fault|asked|Form|step
 deriving DecidableEq,Inhabited
inductive U where
 |i (k:IntKind)|b8|bo|s|sl (u:U)|mp (k v:U)|fn|st (n:Sn)
 deriving DecidableEq,Inhabited
abbrev aeK:Sn->Type
 |.Var=>Lt.Var
 |.Class=>Lt.Class
 |.Extern=>Lt.Extern
 |.Arg=>Lt.Arg
 |.In=>Lt.In
 |.Phi=>Lt.Phi
 |.Bind=>Lt.Bind
 |.Frame=>Lt.Frame
 |.Virt=>Lt.Virt
 |.Instr=>Lt.Instr
 |.Term=>Lt.Term
 |.Block=>Lt.Block
 |.Func=>Lt.Func
 |.Program=>Lt.Program
 |.Asked=>Lt.Asked
 |.Line=>Lt.Line
 |.Sheet=>Lt.Sheet
 |.Reader=>Lt.Reader
 |.Fault=>Lt.Fault
 |.asked=>Lt.asked
 |.Form=>Lt.Form
 |.step=>Lt.step
abbrev El:U->Type
 |.i _=>Int
 |.b8=>UInt8
 |.bo=>Bool
 |.s=>List UInt8
 |.sl u=>List (El u)
 |.mp k v=>Option (List (El k×El v))
 |.fn=>Lt.Clo
 |.st n=>aeK n
abbrev Fl:List U->Type
 |[]=>Unit
 |[u]=>El u
 |u::v::r=>El u×Fl (v::r)
def Fl.cons:(u:U)->(us:List U)->El u->Fl us->Fl (u::us)
 |_,[],x,_=>x
 |_,_::_,x,y=>(x,y)
def Fl.hd:(u:U)->(us:List U)->Fl (u::us)->El u
 |_,[],x=>x
 |_,_::_,x=>x.1
def Fl.tl:(u:U)->(us:List U)->Fl (u::us)->Fl us
 |_,[],_=>()
 |_,_::_,x=>x.2
structure SD (α:Type) where
 fs:List U
 mkF:Fl fs->α
 un:α->Fl fs
 l1:∀x,mkF (un x)=x
 l2:∀y,un (mkF y)=y
 enc:α->List D
 df:α
def sd:(n:Sn)->SD (aeK n)
 |.Var=>⟨[.s,.s],fun x=>⟨x.1,x.2⟩,fun x=>(x.Name,x.Type_),fun _=>rfl,fun _=>rfl,Lt.Var.enc,default⟩
 |.Class=>⟨[.s,(.sl (.st .Var))],fun x=>⟨x.1,x.2⟩,fun x=>(x.Name,x.Fields),fun _=>rfl,fun _=>rfl,Lt.Class.enc,default⟩
 |.Extern=>⟨[.s,.i .i64],fun x=>⟨x.1,x.2⟩,fun x=>(x.Name,x.N),fun _=>rfl,fun _=>rfl,Lt.Extern.enc,default⟩
 |.Arg=>⟨[.i .i64,.s,.i .i64],fun x=>⟨x.1,x.2.1,x.2.2⟩,fun x=>(x.Kind,x.S,x.N),fun _=>rfl,fun _=>rfl,Lt.Arg.enc,default⟩
 |.In=>⟨[.s,.i .i64,.s,.i .i64],fun x=>⟨x.1,⟨x.2.1,x.2.2.1,x.2.2.2⟩⟩,fun x=>(x.Block,x.A.Kind,x.A.S,x.A.N),fun _=>rfl,fun _=>rfl,Lt.In.enc,default⟩
 |.Phi=>⟨[.s,(.sl (.st .In))],fun x=>⟨x.1,x.2⟩,fun x=>(x.Dst,x.Ins),fun _=>rfl,fun _=>rfl,Lt.Phi.enc,default⟩
 |.Bind=>⟨[.s,.i .i64,.s,.i .i64],fun x=>⟨x.1,⟨x.2.1,x.2.2.1,x.2.2.2⟩⟩,fun x=>(x.Name,x.A.Kind,x.A.S,x.A.N),fun _=>rfl,fun _=>rfl,Lt.Bind.enc,default⟩
 |.Frame=>⟨[.s,.s,.i .i64,(.sl (.st .Bind))],fun x=>⟨x.1,x.2.1,x.2.2.1,x.2.2.2⟩,fun x=>(x.Func,x.Block,x.At,x.Vars),fun _=>rfl,fun _=>rfl,Lt.Frame.enc,default⟩
 |.Virt=>⟨[.s,(.sl (.st .Arg))],fun x=>⟨x.1,x.2⟩,fun x=>(x.Class,x.Vals),fun _=>rfl,fun _=>rfl,Lt.Virt.enc,default⟩
 |.Instr=>⟨[.i .i64,.s,.s,(.sl (.st .Arg)),(.sl (.st .Frame)),(.sl (.st .Virt))],fun x=>⟨x.1,x.2.1,x.2.2.1,x.2.2.2.1,x.2.2.2.2.1,x.2.2.2.2.2⟩,fun x=>(x.Op,x.Dst,x.Name,x.Args,x.Frames,x.Objs),fun _=>rfl,fun _=>rfl,Lt.Instr.enc,default⟩
 |.Term=>⟨[.i .i64,.i .i64,.s,.i .i64,.sl .s,.i .i64],fun x=>⟨x.1,⟨x.2.1,x.2.2.1,x.2.2.2.1⟩,x.2.2.2.2.1,x.2.2.2.2.2⟩,fun x=>(x.Kind,x.A.Kind,x.A.S,x.A.N,x.To,x.N),fun _=>rfl,fun _=>rfl,Lt.Term.enc,default⟩
 |.Block=>⟨[.s,(.sl (.st .Phi)),(.sl (.st .Instr)),.i .i64,.i .i64,.s,.i .i64,.sl .s,.i .i64],fun x=>⟨x.1,x.2.1,x.2.2.1,⟨x.2.2.2.1,⟨x.2.2.2.2.1,x.2.2.2.2.2.1,x.2.2.2.2.2.2.1⟩,x.2.2.2.2.2.2.2.1,x.2.2.2.2.2.2.2.2⟩⟩,fun x=>(x.Name,x.Phis,x.Code,x.End.Kind,x.End.A.Kind,x.End.A.S,x.End.A.N,x.End.To,x.End.N),fun _=>rfl,fun _=>rfl,Lt.Block.enc,default⟩
 |.Func=>⟨[.s,.s,(.sl (.st .Var)),(.sl (.st .Var)),(.sl (.st .Block))],fun x=>⟨x.1,x.2.1,x.2.2.1,x.2.2.2.1,x.2.2.2.2⟩,fun x=>(x.Name,x.Result,x.Params,x.Vars,x.Blocks),fun _=>rfl,fun _=>rfl,Lt.Func.enc,default⟩
 |.Program=>⟨[.bo,(.sl (.st .Class)),(.sl (.st .Var)),(.sl (.st .Extern)),(.sl (.st .Func))],fun x=>⟨x.1,x.2.1,x.2.2.1,x.2.2.2.1,x.2.2.2.2⟩,fun x=>(x.SSA,x.Classes,x.Globals,x.Externs,x.Funcs),fun _=>rfl,fun _=>rfl,Lt.Program.enc,default⟩
 |.Asked=>⟨[.fn,.i .i64],fun x=>⟨x.1,x.2⟩,fun x=>(x.holds,x.e),fun _=>rfl,fun _=>rfl,Lt.Asked.enc,default⟩
 |.Line=>⟨[.i .i64,.sl .s],fun x=>⟨x.1,x.2⟩,fun x=>(x.N,x.Words),fun _=>rfl,fun _=>rfl,Lt.Line.enc,default⟩
 |.Sheet=>⟨[(.sl (.st .Line))],fun x=>⟨x⟩,fun x=>x.l,fun _=>rfl,fun _=>rfl,Lt.Sheet.enc,default⟩
 |.Reader=>⟨[.bo,(.sl (.st .Class)),(.sl (.st .Var)),(.sl (.st .Extern)),(.sl (.st .Func)),.i .i64,.i .i64,.bo,.i .i64],fun x=>⟨⟨x.1,x.2.1,x.2.2.1,x.2.2.2.1,x.2.2.2.2.1⟩,x.2.2.2.2.2.1,x.2.2.2.2.2.2.1,x.2.2.2.2.2.2.2.1,x.2.2.2.2.2.2.2.2⟩,fun x=>(x.p.SSA,x.p.Classes,x.p.Globals,x.p.Externs,x.p.Funcs,x.at_,x.where_,x.first,x.long),fun _=>rfl,fun _=>rfl,Lt.Reader.enc,default⟩
 |.Fault=>⟨[.i .i64],fun x=>⟨x⟩,fun x=>x.e,fun _=>rfl,fun _=>rfl,Lt.Fault.enc,default⟩
 |.asked=>⟨[.bo,(.sl (.st .Class)),(.sl (.st .Var)),(.sl (.st .Extern)),(.sl (.st .Func)),.i .i64,.s,.s,(.sl (.st .Arg)),(.sl (.st .Frame)),(.sl (.st .Virt)),.s,.sl .s],fun x=>⟨⟨x.1,x.2.1,x.2.2.1,x.2.2.2.1,x.2.2.2.2.1⟩,⟨x.2.2.2.2.2.1,x.2.2.2.2.2.2.1,x.2.2.2.2.2.2.2.1,x.2.2.2.2.2.2.2.2.1,x.2.2.2.2.2.2.2.2.2.1,x.2.2.2.2.2.2.2.2.2.2.1⟩,x.2.2.2.2.2.2.2.2.2.2.2.1,x.2.2.2.2.2.2.2.2.2.2.2.2⟩,fun x=>(x.p.SSA,x.p.Classes,x.p.Globals,x.p.Externs,x.p.Funcs,x.i.Op,x.i.Dst,x.i.Name,x.i.Args,x.i.Frames,x.i.Objs,x.dst,x.args),fun _=>rfl,fun _=>rfl,Lt.asked.enc,default⟩
 |.Form=>⟨[.s,.bo,.bo,.i .i64,.i .i64],fun x=>⟨x.1,x.2.1,x.2.2.1,x.2.2.2.1,x.2.2.2.2⟩,fun x=>(x.Word,x.Dst,x.Named,x.Least,x.Most),fun _=>rfl,fun _=>rfl,Lt.Form.enc,default⟩
 |.step=>⟨[.i .i64,.i .i64],fun x=>⟨x.1,x.2⟩,fun x=>(x.at_,x.next),fun _=>rfl,fun _=>rfl,Lt.step.enc,default⟩
def afG:Lt.Cap->(u:U)×El u
 |.Program x=>⟨.st .Program,x⟩
 |.Func x=>⟨.st .Func,x⟩
 |.keys x=>⟨.mp .s .bo,x⟩
def afF:(u:U)->El u->Option Lt.Cap
 |.st .Program,x=>some (.Program x)
 |.st .Func,x=>some (.Func x)
 |_,_=>none
def aiI:List U:=[.st .Program,.st .Func]
end Go.Am
end

section
namespace Go.Am
open Go.MapKept
def mL:D->D->Bool
 |.int k a,.int k' b=>decide (k=k')&&decide (a=b)
 |.bool a,.bool b=>a==b
 |.str a,.str b=>decide (a=b)
 |_,_=>false
def jK:TK->D->Bool
 |.int k,.int k' _=>decide (k'=k)
 |.bool,.bool _=>true
 |.str,.str _=>true
 |_,_=>false
def oQ:List (D×Sh×D)->D->Option (Sh×D)
 |[],_=>none
 |x::l,k=>match mL x.1 k with
  |true=>some x.2
  |false=>oQ l k
def jJ:List (D×Sh×D)->D->Sh×D->List (D×Sh×D)
 |[],k,v=>[(k,v)]
 |x::l,k,v=>match mL x.1 k with
  |true=>(k,v)::l
  |false=>x::jJ l k v
def EZ:List (D×Sh×D)->D->List (D×Sh×D)
 |[],_=>[]
 |x::l,k=>match mL x.1 k with
  |true=>l
  |false=>x::EZ l k
variable{d:TypeDesc}{k:D}{v:Value}
theorem mI{P:Program}{k':D}{b:Value}{H:FH}(hk:jK (gA P d) k=true)(a:jK (gA P d) k'=true)(h:FDx H k v)(h':FDx H k' b):IsKey d v/\(mL k k'=true ↔ v=b):=by
 cases d<;>simp only[gA]at hk a<;>cases k<;>simp only[jK]at hk<;>(first|(cases hk;done)|skip)<;>cases k'<;>simp only[jK]at a<;>(first|(cases a;done)|skip)
 ·obtain rfl:=jl h;obtain rfl:=jl h';exact⟨trivial,by simp[mL]⟩
 ·obtain⟨rfl,_⟩:=fH h;obtain⟨rfl,_⟩:=fH h';simp only[decide_eq_true_eq]at hk a;subst hk;subst a;exact⟨rfl,by simp[mL]⟩
 ·obtain⟨rfl,_⟩:=il h;obtain⟨rfl,_⟩:=il h';exact⟨trivial,by simp[mL]⟩
theorem nU{κ:TK}(h:jK κ k=true):k.isKey=true:=by
 cases κ<;>cases k<;>first|rfl|cases h
variable{kv:Value}
theorem yv{P:Program}{w:World}{H:FH}(hk:jK (gA P d) k=true)(a:FDx H k kv):∀(l:List (D×Sh×D))(es:List MapEntry)(i:Nat)(f:Fp),MpO w H l es f->(l.all fun x=>jK (gA P d) x.1)=true ->
  (oQ l k=none/\EZ l k=l/\Instr.findNow d kv es i=some none/\(∀e∈es,e.key≠kv)/\∀w' v vv b n(fv:Fp),(∀b,f b≠0->w'.heap[b]? = w.heap[b]?)->OD w' H n v.1 v.2 fv vv->MpO w' H (jJ l k v) (es++[⟨kv,vv,b⟩]) (fun b=>fv b+f b)) \/
  ∃j x e n,∃f1 c:Fp,oQ l k=some x/\Instr.findNow d kv es i=some (some (i+j,e.val))/\OD w H n x.1 x.2 f1 e.val/\(∀b,f b=f1 b+c b)/\es[j]? = some e/\e.key=kv /\
   (∀w' v vv n(fv:Fp),(∀b,c b≠0->w'.heap[b]? = w.heap[b]?)->OD w' H n v.1 v.2 fv vv->MpO w' H (jJ l k v) (es.set j { e with key:=kv,val:=vv }) (fun b=>fv b+c b))/\MpO w H (EZ l k) (es.eraseIdx j) c
 |[],[],i,f,h,_=>.inl ⟨rfl,rfl,rfl,by simp,fun w' v vv b n fv hw h'=>⟨⟨nU hk,a⟩,fv,f,n,fun _=>rfl,h',h⟩⟩
 |x::l,e::es,i,f,h,o=>by
  simp only[ajE,aiW]at o;obtain⟨⟨h1,h2⟩,g1,g2,n,h3,h4,hr⟩:=h;obtain⟨u,q2⟩:=mI (P:=P) o.1 hk h2 a;obtain⟨t,_⟩:=mI (P:=P) hk hk a a;obtain⟨r,s,p⟩:=sameNow_of_keys t u;cases r with
  |true=>
   have g:=p.1 rfl
   have hq:=q2.2 g.symm
   refine .inr ⟨0,x.2,e,n,g1,g2,by grind [oQ],by simp[Instr.findNow,s],h4,h3,rfl,g.symm,fun w' v vv n fv hw hv=>?_,?_⟩
   ·simp only[jJ,hq,List.set_cons_zero];exact⟨⟨nU hk,a⟩,fv,g2,n,fun _=>rfl,hv,j6 (fun _ _ _ h=>h) hw hr⟩
   grind [EZ]
  |false=>
   have z:kv≠e.key:=fun q=>by grind
   have hq:mL x.1 k=false:=by
    grind
   rcases yv hk a l es (i+1) g2 hr o.2 with⟨k1,k0,k2,k3,k4⟩|⟨j,x',e',n',f1,c,k1,k2,k3,k4,k5,k6,k7,k8⟩
   ·refine .inl ⟨by grind [oQ],by grind [EZ],by grind [Instr.findNow],fun y hy=>?_,fun w' v vv b n' fv hw hv=>?_⟩
    ·grind
    ·simp only[jJ,hq];exact⟨⟨h1,h2⟩,g1,fun b=>fv b+g2 b,n,fun b=>by grind,cO (fun _ _ _ h=>h) n n _ _ _ _ (ai0 _) (fun b hb=>hw b (by grind)) h4,k4 w' v vv b n' fv (fun b hb=>hw b (by grind)) hv⟩
   ·refine .inr ⟨j+1,x',e',n',f1,fun b=>g1 b+c b,by grind [oQ],by grind [Instr.findNow],k3,fun b=>by grind,by grind,k6,fun w' v vv m fv hw hv=>?_,?_⟩
    ·simp only[jJ,hq,List.set_cons_succ];exact⟨⟨h1,h2⟩,g1,fun b=>fv b+c b,n,fun b=>by grind,cO (fun _ _ _ h=>h) n n _ _ _ _ (ai0 _) (fun b hb=>hw b (by grind)) h4,k7 w' v vv m fv (fun b hb=>hw b (by grind)) hv⟩
    ·simp only[EZ,hq,List.eraseIdx_cons_succ];exact⟨⟨h1,h2⟩,g1,c,n,fun _=>rfl,h4,k8⟩
 |[],_::_,_,_,h,_=>h.elim
 |_::_,[],_,_,h,_=>h.elim
variable{b ck:Nat}{es:Array MapEntry}{et kt mt:TypeId}{f:Fp}{l:List (D×Sh×D)}
section
variable {P:Program} {w:World} {H:FH}
theorem NQ{j:Nat}{e:MapEntry}(h:es[j]? = some e)(f:MapEntry->MapEntry):(es.modify j f).toList=es.toList.set j (f e):=by
 apply akC
 grind
theorem Bp{vv:Value}(o:P.underlying mt=some (.map kt et))(hd:P.underlying kt=some d)(hb:w.heap[b]? = some (.map es ck))(hs:Stamped es ck)
  (hl:MpO w H l es.toList f) (r:f b=0) (s:(l.all fun x=>jK (gA P d) x.1)=true) (hk:jK (gA P d) k=true) (g:FDx H k kv) {v:Sh×D} {n:Nat} {fv:Fp} (t:fv b=0) (hv:OD w H n v.1 v.2 fv vv) :
  ∃es' ck',∃i:Fp,(Instr.mapUpdate mt (.map (some b)) kv vv).run P w=.ok () { w with heap:=w.heap.setIfInBounds b (.map es' ck') }/\Stamped es' ck'/\(∀c,i c<=f c)/\MpO { w with heap:=w.heap.setIfInBounds b (.map es' ck') } H (jJ l k v) es'.toList (fun c=>fv c+i c):=by
 have a:IsKey d kv:=(mI (P:=P) hk hk g g).1
 have m:∀es' ck' c,c≠b->({ w with heap:=w.heap.setIfInBounds b (.map es' ck') }:World).heap[c]? = w.heap[c]? := fun es' ck' c hc=>(heap_set hb).2 c hc
 have q:∀es' ck',OD { w with heap:=w.heap.setIfInBounds b (.map es' ck') } H n v.1 v.2 fv vv:=fun es' ck'=>cO (fun _ _ _ h=>h) n n _ _ _ _ (ai0 _) (fun c hc=>m es' ck' c (fun e=>by grind)) hv
 rcases yv hk g l es.toList 0 f hl s with⟨_,_,g2,g3,g4⟩|⟨j,x,e,n',f1,i,_,g2,_,g3,g4,g5,g6,_⟩
 ·refine⟨es.push ⟨kv,vv,ck⟩,ck+1,f,?_,stamped_push hs g3,fun _=>ai0 _,?_⟩
  ·simp[Instr.mapUpdate,run_underlying o,MapKept.run_getObj_map hb,run_checkKey hd a,run_findKey hd g2,run_setObj_map _ hb,Result.andThen]
  grind
 ·have hj:es[j]? = some e:=by grind
  rw[ak2]at g2;refine⟨es.modify j fun e=>{ e with key:=kv,val:=vv },ck,i,?_,stamped_modify hs _ _ (fun _ _=>rfl) (fun e' _ p=>by grind),fun c=>by grind,?_⟩
  ·simp[Instr.mapUpdate,run_underlying o,MapKept.run_getObj_map hb,run_checkKey hd a,run_findKey hd g2,hj,g5,run_keyThatStays a,run_setObj_map _ hb,Result.andThen]
  grind [NQ]
theorem Om{ty:TypeId}(s:P.underlying mt=some (.map kt et))(hd:P.underlying kt=some d)(hb:w.heap[b]? = some (.map es ck))(hs:Stamped es ck)
  (hl:MpO w H l es.toList f) (t:f b=0) (u:(l.all fun x=>jK (gA P d) x.1)=true) (hk:jK (gA P d) k=true) (i:FDx H k kv) (o:Array TypeId) (r:o[0]? = some mt) :
  ∃es',∃a:Fp,(Builtin.delete_ o ty #[.map (some b),kv]).run P w=.ok (.tuple #[]) { w with heap:=w.heap.setIfInBounds b (.map es' ck) }/\Stamped es' ck/\(∀c,a c<=f c)/\MpO { w with heap:=w.heap.setIfInBounds b (.map es' ck) } H (EZ l k) es'.toList a:=by
 have g:IsKey d kv:=(mI (P:=P) hk hk i i).1
 have p:∀es'(a:Fp),(∀c,a c<=f c)->∀{l':List (D×Sh×D)}{q:List MapEntry},MpO w H l' q a->MpO { w with heap:=w.heap.setIfInBounds b (.map es' ck) } H l' q a:=fun es' a v _ _ h=>j6 (fun _ _ _ h=>h) (fun c hc=>(heap_set hb).2 c (fun e=>by grind)) h
 rcases yv hk i l es.toList 0 f hl u with⟨_,g1,g2,_,_⟩|⟨j,x,e,n',f1,a,_,g2,_,g3,g4,_,_,g5⟩
 ·refine⟨es,f,?_,hs,fun _=>ai0 _,p _ _ (fun _=>ai0 _) (by grind)⟩;simp[Builtin.delete_,r,run_underlying s,MapKept.run_getObj_map hb,run_checkKey hd g,run_findKey hd g2,run_setObj_map _ hb,Result.andThen]
 ·rw[ak2]at g2;have m:∀c,a c<=f c:=fun c=>by grind
  refine⟨es.eraseIdxIfInBounds j,a,?_,stamped_erase hs j,m,p _ _ m ?_⟩
  ·simp[Builtin.delete_,r,run_underlying s,MapKept.run_getObj_map hb,run_checkKey hd g,run_findKey hd g2,run_setObj_map _ hb,Result.andThen]
  simp_all
theorem s9{z:Value}(q:P.underlying mt=some (.map kt et))(hd:P.underlying kt=some d)(hb:w.heap[b]? = some (.map es ck))
  (hl:MpO w H l es.toList f) (s:(l.all fun x=>jK (gA P d) x.1)=true) (hk:jK (gA P d) k=true) (m:FDx H k kv) (hz:(zeroValue et).run P w=.ok z w) (ok:Bool) :
  ∃v,(Instr.lookup mt (.map (some b)) kv ok).run P w=.ok (if ok then .tuple #[v,.bool (oQ l k).isSome]else v) w /\
   (match oQ l k with|some x=>∃n,∃f1 p:Fp,OD w H n x.1 x.2 f1 v/\(∀c,f c=f1 c+p c)/\MpO w H (jJ l k (x.1,.any)) es.toList p|none=>v=z/\MpO w H l es.toList f):=by
 have g:IsKey d kv:=(mI (P:=P) hk hk m m).1
 rcases yv hk m l es.toList 0 f hl s with⟨g1,_,g2,_,_⟩|⟨j,x,e,n,f1,p,g1,g2,g3,g4,g5,g6,g7,_⟩
 ·refine⟨z,?_,by grind⟩;rw[g1];simp[Instr.lookup,run_underlying q,MapKept.run_getObj_map hb,run_checkKey hd g,run_findKey hd g2,hz,Result.andThen]
 ·refine⟨e.val,?_,?_⟩
  ·rw[g1];simp[Instr.lookup,run_underlying q,MapKept.run_getObj_map hb,run_checkKey hd g,run_findKey hd g2,Result.andThen]
  ·rw[g1];refine⟨n,f1,p,g3,g4,?_⟩;have o:OD w H (n+1) x.1 .any (fun _=>0) e.val:=by
    cases x.1 with
    |fr=>exact fZ.2 ⟨fun _=>rfl,0,trivial⟩
    |ow sub=>exact fun _=>rfl
   have h:=g7 w (x.1,.any) e.val (n+1) (fun _=>0) (fun _ _=>rfl) o
   have t:es.toList.set j { e with key:=kv,val:=e.val }=es.toList:=by
    refine akC fun i=>?_
    rw[List.getElem?_set];split
    ·rename_i r;subst r;rw[g5];split
     ·obtain⟨a,b,c⟩:=e;grind
     grind
    ·rfl
   grind
end
variable{f':Fp}{n:Nm}
theorem LA{F:Nm->Fp}:∀{m:Mm},n ∉ m.map (·.1)->∀c,tot (upd F n f') m c=tot F m c
 |[],_,_=>rfl
 |x::m,h,c=>by
  simp only[aiZ,ai7,not_or]at h;simp only[tot];rw[oE (fun e=>h.1 e.symm),LA h.2]
theorem BE{F:Nm->Fp}{f':Fp}:∀{m:Mm}{r:Root},af m n=some r->(m.map (·.1)).Nodup->∀c,tot (upd F n f') m c+F n c=tot F m c+f' c
 |[],_,h,_,_=>by simp[af]at h
 |(k,x)::m,r,h,hk,c=>by
  simp only[aiZ,aj3]at hk;simp only[tot];by_cases e:k=n
  ·subst e;rw[fF,LA hk.1];omega
  ·simp only[af]at h;rw[if_neg e]at h;rw[oE e];have:=BE h hk.2 c (F:=F) (f':=f')
   omega
def T.gh:T->Bool
 |.mp _=>true
 |.it _ _=>true
 |_=>false
variable{p:List Step}{t:T}
theorem NT(h:t.gh=true){off:Nat}(hc:aT [t] off p):p=[]:=by
 cases p<;>grind [aT,T.gh]
theorem FM(h:t.gh=true){off:Nat}(hc:bF [t] off p):off=0/\p=[]:=by
 unfold bF at hc
 grind [T.gh]
theorem aaW(h:t.gh=true):bF [t] 0 []:=by
 cases t<;>first|trivial|(simp[T.gh]at h)
variable{H':FH}{es':Array MapEntry}{l':List (D×Sh×D)}{w':World}
section
variable {P:Program} {g:G} {s:S} {a:Act} {w:World} {H:FH} {γ:Gam} {F:Nm->Fp}
theorem Vt(h:RX g s a w H γ F){t':T}(G:t.gh=true)(O:t'.gh=true)(hr:af s.m n=some ⟨false,[t]⟩)(u:γ n=.gh v)
  (hT:TR w' H' γ s.m t' f' v) (V:∀c,tot F s.m c+f' c<=F n c+1) (W:∀c,f' c≠0->c<w.heap.size/\(∀o,H' c o=none)/\(g.own0 c≠0\/g.w0.heap.size<=c))
  (j:w'.heap.size=w.heap.size) (M:w'.os=w.os) (Q:w'.tape=w.tape) (K:w'.output=w.output)
  (hb:∀c,F n c=0->w'.heap[c]? = w.heap[c]?) (C:∀b o y,H b o=some y->H' b o=some y) (D:∀b o y,H' b o=some y->RdV w' b o y)
  (hnew:∀b o,H' b o≠none->H b o=none->F n b≠0/\f' b=0)
  (B:(∀b,Thawed w b->Thawed w' b)/\∀b o x l c,H' b o=some (.c (.slice x l c))->H b o=none->Thawed w' b) :
  RX g ⟨s.t,cM s.m n ⟨false,[t']⟩⟩ a w' H' γ (upd F n f'):=by
 have U:∀k,af (cM s.m n ⟨false,[t']⟩) k=if n=k then some ⟨false,[t']⟩else af s.m k:=fun k=>fP hr
 have L:Keeps w γ s.m w' γ (cM s.m n ⟨false,[t']⟩):=by
  have fr:∀q,cj s.m q->q.root≠n->plA w' γ q=plA w γ q/\plV w' γ q=plV w γ q:=fun q hq I=>wA h.mem hq (fun c hc=>hb c (by
   obtain⟨R,h1,_⟩:=aA.1 hq;have:=vi (F:=F) (ak hr) (ak h1) (fun e=>I e.symm) c
   have:=h.mem.le1 c
   grind))
  constructor
  ·grind [aA,NT,aT,plA]
  ·intro q hq;by_cases e:q.root=n
   ·obtain⟨R,h1,h2⟩:=cm.1 hq;rw[e,hr]at h1;obtain rfl:=Option.some.inj h1;obtain⟨ho,hp⟩:=FM G h2;refine⟨?_,?_⟩
    ·grind [cm,aaW]
    ·unfold plV;rw[hp,e,u];rfl
   grind [cm,fC]
 have p:∀c,tot (upd F n f') (⟨s.t,cM s.m n ⟨false,[t']⟩⟩:S).m c+F n c=tot F s.m c+f' c:=fun c=>by
  show tot (upd F n f') (cM s.m n ⟨false,[t']⟩) c+F n c=_
  rw[dI];exact BE hr h.mem.keys c
 have P:∀c,F n c<=tot F s.m c:=fun c=>bX (F:=F) (ak hr) c
 refine⟨⟨D,fun x hx=>?_,by rw[mM];exact h.mem.keys,fun c=>by grind,fun c hc=>?_,fun c hc o=>?_⟩,?_,h.nt,h.df,fun i=>dy L C (h.t i)⟩
 ·rcases pO h.mem.keys hx with⟨hn,hx⟩|rfl
  ·rw[oE hn];exact bh L C rfl (fun c hc=>hb c (by
    have:=vi (F:=F) (ak hr) hx (fun e=>hn e.symm) c
    have:=h.mem.le1 c
    grind)) (h.mem.roots x hx)
  ·unfold bZ;dsimp only;rw[if_neg (by simp)];refine⟨v,_,u,rfl,?_⟩;rw[fF];cases t'<;>first|exact hT|grind [T.gh]
 ·rw[j];by_cases hf:f' c=0
  ·exact h.mem.lt c (by grind)
  grind
 ·cases N:H' c o with
  |none=>rfl
  |some y=>
   exfalso
   by_cases hf:f' c=0
   ·cases E:H c o with
    |some z=>
     have:tot F s.m c=0:=by
      rcases ajZ (tot F s.m c)with h'|h'
      ·exact h'
      ·have:=h.mem.nofz c kQ1 o;grind
     grind
    |none=>
     have h3:=(hnew c o (by grind) E).1
     have:=p c;have:=h.mem.le1 c;omega
   grind
 ·have d:=h.fr
  have J:∀c,F n c≠0->g.own0 c≠0\/g.w0.heap.size<=c:=fun c hc=>d.tt c (by grind)
  refine⟨by rw[j];exact d.size,by grind [Fr.os],by grind [Fr.tape],by grind [Fr.output],fun k hk h0=>?_,fun b o y hy=>C _ _ _ (d.hold b o y hy),fun b o h1 h2=>?_,fun b A=>?_,fun b A=>B.1 b (d.nz.1 b A),fun b o x l2 c h1 h2=>?_⟩
  ·grind [Fr.block]
  ·cases hc:H b o with
   |some z=>exact d.hnew b o (by grind) h2
   |none=>grind
  ·grind [Fr.tt]
  ·cases hc:H b o<;>grind [Fr.nz]
theorem L8(h:RX g s a w H γ F)(hr:af s.m n=some ⟨false,[.mp l]⟩)(p:γ n=.gh v)
  (hT:TR w' H' γ s.m (.mp l') f' v) (i:∀c,tot F s.m c+f' c<=F n c+1) (j:∀c,f' c≠0->c<w.heap.size/\(∀o,H' c o=none)/\(g.own0 c≠0\/g.w0.heap.size<=c))
  (r:w'.heap.size=w.heap.size) (e:w'.os=w.os) (u:w'.tape=w.tape) (d:w'.output=w.output)
  (hb:∀c,F n c=0->w'.heap[c]? = w.heap[c]?) (z:∀b o y,H b o=some y->H' b o=some y) (q:∀b o y,H' b o=some y->RdV w' b o y)
  (hnew:∀b o,H' b o≠none->H b o=none->F n b≠0/\f' b=0)
  (k:(∀b,Thawed w b->Thawed w' b)/\∀b o x l c,H' b o=some (.c (.slice x l c))->H b o=none->Thawed w' b) :
  RX g ⟨s.t,cM s.m n ⟨false,[.mp l']⟩⟩ a w' H' γ (upd F n f'):=Vt h rfl rfl hr p hT i j r e u d hb z q hnew k
theorem XQ(h:Mem w H γ s.m F)(hr:af s.m n=some ⟨false,[.mp l]⟩) :
  ∃b es ck,∃f:Fp,γ n=.gh (.map (some b))/\w.heap[b]? = some (.map es ck)/\Stamped es ck/\MpO w H l es.toList f/\(∀c,F n c=f c+if c=b then 1 else 0)/\f b=0:=by
 have a:=h.roots _ (ak hr)
 unfold bZ at a;dsimp only at a;rw[if_neg (by simp)]at a;obtain⟨v,t,h1,h2,h3⟩:=a;obtain rfl:t=.mp l:=by grind
 obtain⟨b,es,ck,f,rfl,k2,k3,k4,k5⟩:=h3;refine⟨b,es,ck,f,h1,k2,k3,k4,k5,?_⟩;have:=k5 b
 rw[if_pos rfl]at this;have:=h.le1 b
 have:=bX (F:=F) (ak hr) b
 grind
theorem OF{ck':Nat}(hb:w.heap[b]? = some (.map es ck)):∀c,Thawed w c->Thawed { w with heap:=w.heap.setIfInBounds b (.map es' ck') } c:=fun c h0=>h0.of_block ((heap_set hb).2 c (fun e=>by
 obtain⟨cs,ty,a⟩:=h0
 grind))
theorem WA{w:World}{ck':Nat}(hb:w.heap[b]? = some (.map es ck))(a:Addr):({ w with heap:=w.heap.setIfInBounds b (.map es' ck') }:World).cell? a=w.cell? a:=by
 grind [World.cell?]
theorem vA(h:RX g s a w H γ F)(hr:af s.m n=some ⟨false,[.mp l]⟩){ck':Nat}{es':Array MapEntry}(k:γ n=.gh (.map (some b)))(hb:w.heap[b]? = some (.map es ck))(v:∀c,F n c=f c+if c=b then 1 else 0)
  (j:Stamped es' ck') (p:MpO { w with heap:=w.heap.setIfInBounds b (.map es' ck') } H l' es'.toList f') (r:∀c,tot F s.m c+f' c<=f c+1) (u:∀c,f' c≠0->c<w.heap.size/\(∀o,H c o=none)/\(g.own0 c≠0\/g.w0.heap.size<=c)) :
  RX g ⟨s.t,cM s.m n ⟨false,[.mp l']⟩⟩ a { w with heap:=w.heap.setIfInBounds b (.map es' ck') } H γ (upd F n (fun c=>f' c+if c=b then 1 else 0)):=by
 have q:=fun a=>WA (es':=es') (ck':=ck') hb a
 have d:=heap_set (o':=.map es' ck') hb
 have i:tot F s.m b≠0:=by have:=bX (F:=F) (ak hr) b;grind
 refine L8 h hr k ⟨b,es',ck',f',rfl,d.1,j,p,fun _=>rfl⟩ (fun c=>by grind) (fun c hc=>?_) (by simp) rfl rfl rfl (fun c hc=>d.2 c (fun e=>by grind)) (fun _ _ _ h=>h) (fun b' o y hy=>(h.mem.agree b' o y hy).frame (d.2 b' (fun e=>by subst e;rw[h.mem.nofz _ i o]at hy;cases hy))) (fun b o h1 h2=>absurd h2 h1) ⟨OF hb,fun c o x y z h1 h2=>by grind⟩;by_cases e:c=b
 ·subst e;exact⟨h.mem.lt c i,h.mem.nofz c i,h.fr.tt c i⟩
 grind
theorem Q7(h:RX g s a w H γ F)(hno:n.isOut=false)(hn:af s.m n=none) :
  ∃γ' F',RX g ⟨s.t,(n,⟨false,[.mp []]⟩)::s.m⟩ a (w.alloc (.map #[] 0)) H γ' F'/\γ' n=.gh (.map (some w.heap.size)):=by
 have hold:∀k,k<w.heap.size->(w.alloc (.map #[] 0)).heap[k]? = w.heap[k]? := fun k hk=>cU hk
 have h1:=o7 h (w':=w.alloc (.map #[] 0)) (by simp) rfl rfl rfl (fun b hb=>.inl (hold b hb))
 have hz:tot F s.m w.heap.size=0:=by
  rcases ajZ (tot F s.m w.heap.size)with h'|h'
  ·exact h'
  ·have:=h.mem.lt w.heap.size kQ1;omega
 refine dQ h1 hno hn (v:=.map (some w.heap.size)) (t:=.mp []) (f:=fun b=>if b=w.heap.size then 1 else 0) ⟨w.heap.size,#[],0,fun _=>0,rfl,bC,stamped_empty 0,fun _=>rfl,fun _=>(ak2 _).symm⟩ (fun b=>?_) (fun b hb=>?_) (fun b hb=>?_)
 ·by_cases e:b=w.heap.size
  ·grind
  ·rw[if_neg e];have:=h.mem.le1 b;omega
 ·have e:b=w.heap.size:=by
   grind
  subst e;refine⟨by simp,fun o=>?_⟩;cases hc:H w.heap.size o with
  |none=>rfl
  |some y=>have:=(h.mem.agree _ _ _ hc).lt;omega
 ·right
  have e:b=w.heap.size:=by
   grind
  have:=h.fr.size
  omega
theorem vo{m:Mm}(hn:af m n=some ⟨false,[.mp l]⟩)(a:γ n=.gh v):AR w H γ m (.one (.c (.rf ⟨n,0,[]⟩))) v:=by
 refine⟨fun _=>rfl,?_,?_⟩
 ·rw[cm];exact⟨_,hn,trivial⟩
 ·unfold plV;dsimp only;rw[a];rfl
theorem Q8(h:RX g s a w H γ F)(hr:af s.m n=some ⟨false,[.mp l]⟩){f f1 d:Fp}(p:γ n=.gh (.map (some b)))(hb:w.heap[b]? = some (.map es ck))(hs:Stamped es ck)(q:∀c,F n c=f c+if c=b then 1 else 0)
  (hf:∀c,f c=f1 c+d c) (j:MpO w H l' es.toList d) {n2:Nm} (hno:n2.isOut=false) (u:af s.m n2=none) {sub:List Sh} {rows:List (List D)} {k:Nat} {v:Value} (i:OD w H k (.ow sub) (.li rows) f1 v) :
  ∃γ' F',RX g ⟨s.t,(n2,⟨false,[.ow sub rows]⟩)::cM s.m n ⟨false,[.mp l']⟩⟩ a w H γ' F'/\γ' n2=.gh v:=by
 have r:∀c,F n c<=tot F s.m c:=fun c=>bX (F:=F) (ak hr) c
 have h1:RX g ⟨s.t,cM s.m n ⟨false,[.mp l']⟩⟩ a w H γ (upd F n (fun c=>d c+if c=b then 1 else 0)):=
  L8 h hr p ⟨b,es,ck,d,rfl,hb,hs,j,fun _=>rfl⟩ (fun c=>by have:=q c;have:=hf c;have:=h.mem.le1 c;omega) (fun c hc=>by
   have h3:tot F s.m c≠0:=by grind
   exact⟨h.mem.lt c h3,h.mem.nofz c h3,h.fr.tt c h3⟩) rfl rfl rfl rfl (fun _ _=>rfl) (fun _ _ _ h=>h) h.mem.agree (fun b o h1 h2=>absurd h2 h1) qY
 have x:n≠n2:=fun e=>by grind
 refine dQ h1 hno (by grind [fP]) (v:=v) (t:=.ow sub rows) (f:=f1) ⟨k,i⟩ (fun c=>?_) (fun c hc=>?_) (fun c hc=>?_)
 ·have h3:tot (upd F n (fun c=>d c+if c=b then 1 else 0)) (cM s.m n ⟨false,[.mp l']⟩) c+F n c=tot F s.m c+(d c+if c=b then 1 else 0):=by rw[dI];exact BE hr h.mem.keys c
  have:=q c;have:=hf c;have:=h.mem.le1 c
  grind
 ·have h3:tot F s.m c≠0:=by grind
  exact⟨h.mem.lt c h3,h.mem.nofz c h3⟩
 ·have h3:tot F s.m c≠0:=by grind
  exact h.fr.tt c h3
def afQ(l:List (D×Sh×D)):List (D×Sh×D):=l.map fun x=>(x.1,.fr,x.2.2)
theorem Pw(a:∀b o y,H b o=some y->H' b o=some y):∀{l:List (D×Sh×D)}{es:List MapEntry}{f:Fp},MpO w H l es f->(∀b,f b≠0->∀o z,w.cell? ⟨b,o,none⟩=some z->H' b o=some z)->MpO w H' (afQ l) es (fun _=>0)
 |[],[],_,_,_=>fun _=>rfl
 |x::l,e::es,f,h,hc=>by
  obtain⟨⟨h1,h2⟩,f1,c,k,h3,h4,h5⟩:=h;exact⟨⟨h1,eJ a h2⟩,fun _=>0,fun _=>0,k,fun _=>rfl,fZ.2 ⟨fun _=>rfl,Vm a k _ _ _ _ h4 (fun b hb=>hc b (by grind))⟩,Pw a h5 (fun b hb=>hc b (by grind))⟩
 |[],_::_,_,h,_=>h.elim
 |_::_,[],_,h,_=>h.elim
theorem If:∀{l:List (D×Sh×D)}{es:List MapEntry}{f:Fp},MpO w H l es f->∀b,f b≠0->Thawed w b
 |[],[],_,h,b,hb=>absurd (h b) hb
 |x::l,e::es,f,h,b,hb=>by
  obtain⟨_,f1,a,k,h3,h4,h5⟩:=h;by_cases h0:f1 b=0
  ·exact If h5 b (by grind)
  grind [Pz]
 |[],_::_,_,h,_,_=>h.elim
 |_::_,[],_,h,_,_=>h.elim
theorem Vv(h:RX g s a w H γ F)(hr:af s.m n=some ⟨false,[.mp l]⟩):∃H' F',RX g ⟨s.t,cM s.m n ⟨false,[.mp (afQ l)]⟩⟩ a w H' γ F':=by
 obtain⟨b,es,ck,f,h1,h2,h3,h4,h5,h6⟩:=XQ h.mem hr;have p:∀c,F n c<=tot F s.m c:=fun c=>bX (F:=F) (ak hr) c
 have j:∀c,f c≠0->tot F s.m c≠0:=fun c hc=>by grind
 let H':FH:=fun b o=>if f b≠0 then(w.cell? ⟨b,o,none⟩).map HV.c else H b o
 have k:∀b o y,H b o=some y->H' b o=some y:=by
  intro b o y hy;simp only[H'];split
  ·rename_i e;rw[h.mem.nofz b (j b e) o]at hy;cases hy
  omega
 have i:∀b o y,H' b o=some y->RdV w b o y:=by
  intro b o y hy;simp only[H']at hy;split at hy
  ·obtain⟨z,hz,rfl⟩:=ajF.1 hy;exact hz
  ·exact h.mem.agree b o y hy
 have d:tot F s.m b≠0:=by grind
 refine⟨H',_,L8 h hr h1 ⟨b,es,ck,fun _=>0,rfl,h2,h3,Pw k h4 (fun b hb o z hz=>by grind),fun _=>rfl⟩ (fun c=>by have:=h5 c;have:=h.mem.le1 c;grind) (fun c hc=>?_) rfl rfl rfl rfl (fun _ _=>rfl) k i (fun c o k1 k2=>?_) ⟨fun _ h=>h,fun c o x l2 q k1 k2=>?_⟩⟩
 ·have e:c=b:=by
   grind
  subst e;refine⟨h.mem.lt c d,fun o=>?_,h.fr.tt c d⟩;simp only[H'];rw[if_neg kQ1];exact h.mem.nofz c d o
 all_goals grind [If]
end
end Go.Am
end

section
namespace Go.Am
open MapKept
def mpD(l:List (D×Sh×D)):D:=.mp (some (l.map fun e=>(e.1,e.2.2)))
def esV(es:List MapEntry):List (Value×Value):=es.map fun e=>(e.key,e.val)
def frL(l:List (D×Sh×D)):Bool:=l.all fun e=>match e.2.1 with
 |.fr=>true
 |_=>false
def T.frm(n:Nm)(x:D):T->T
 |.rf p=>if p.root=n then(match p with
  |⟨_,0,[]⟩=>.d x
  |_=>.any)else .rf p
 |t=>t.kill (bU n)
def frzm(s:S)(n:Nm)(x:D):S:=⟨sQ (AV.map (T.frm n x)) s.t,aP (bU n) (cv s.m n)⟩
theorem Vk{w:World}{H:FH}:∀{l:List (D×Sh×D)}{es:List MapEntry}{f:Fp},frL l=true->MpO w H l es f->(esV es).length=l.length/\∃m,∀(i:Nat)(x:D×D)(y:Value×Value),(l.map fun e=>(e.1,e.2.2))[i]? = some x->(esV es)[i]? = some y->FD H m x.1 y.1/\FD H m x.2 y.2
 |[],[],_,_,_=>⟨rfl,0,fun i x y h _=>by simp at h⟩
 |a::l,e::es,f,hf,h=>by
  obtain⟨⟨_,⟨c,h1⟩⟩,f1,p,k,h2,h3,h4⟩:=h;simp only[frL,ajE,aiW]at hf;obtain⟨o,g,n⟩:=Vk (by grind [frL]) h4;have hs:a.2.1=.fr:=by
   grind
  rw[hs]at h3;obtain⟨_,b,h5⟩:=fZ.1 h3;refine⟨by grind [esV],c+g+b,fun i x y hx hy=>?_⟩;have mono:=fun{m:Nat}(j:m<=c+g+b){d:D}{v:Value}(h:FD H m d v)=>fG (fun _ _ _ h=>h) m (c+g+b) d v j h
  grind [esV]
 |[],_::_,_,_,h=>h.elim
 |_::_,[],_,_,h=>h.elim
section
variable {g:G} {s:S} {a:Act} {w:World} {H:FH} {γ:Gam} {F:Nm->Fp}
theorem Zm(h:RX g s a w H γ F){n:Nm}{l:List (D×Sh×D)}(hr:af s.m n=some ⟨false,[.mp l]⟩)(hl:frL l=true):∃H' F',RX g (frzm s n (mpD l)) a w H' γ F':=by
 obtain⟨b,es,ck,f,h1,h2,h3,h4,h5,h6⟩:=XQ h.mem hr;have E:∀c,F n c<=tot F s.m c:=fun c=>bX (F:=F) (ak hr) c
 have j:tot F s.m b≠0:=by grind
 let H':FH:=fun c o=>if c=b/\o=0 then some (.m es ck)else H c o
 have k:∀c o y,H c o=some y->H' c o=some y:=by
  intro c o y hy;simp only[H'];rw[if_neg (fun e=>by rw[e.1,h.mem.nofz b j o]at hy;cases hy)];exact hy
 have v:∀c o y,H' c o=some y->RdV w c o y:=by
  intro c o y hy;simp only[H']at hy;split at hy
  ·rename_i e;obtain rfl:=Option.some.inj hy;rw[e.1];exact⟨h2,h3⟩
  ·exact h.mem.agree c o y hy
 have hd:=Ex h.mem n
 have r:∀c,tot F (aP (bU n) (cv s.m n)) c+F n c=tot F s.m c:=fun c=>by grind [bu,BD]
 have A:tot F (aP (bU n) (cv s.m n)) b=0:=by
  have:=r b;have:=h.mem.le1 b;grind
 have u:Keeps w γ (aP (bU n) (cv s.m n)) w γ (aP (bU n) (cv s.m n)):=⟨fun q hq=>⟨hq,rfl⟩,fun q hq=>⟨hq,rfl⟩⟩
 have hx:FDx H' (mpD l) (.map (some b)):=by
  obtain⟨I,m,B⟩:=Vk hl h4;refine⟨m+1,b,es,ck,rfl,by simp[H'],by grind [esV],fun i x y hx hy=>?_⟩;obtain⟨C,G⟩:=B i x (y.key,y.val) hx (by grind [esV]);exact⟨fG k _ _ _ _ (ai0 _) C,fG k _ _ _ _ (ai0 _) G⟩
 refine⟨H',F,⟨⟨v,fun x hx=>bh u k rfl (fun _ _=>rfl) (hd.roots x hx),hd.keys,hd.le1,hd.lt,fun c hc o=>?_⟩,?_,h.nt,h.df,fun i=>?_⟩⟩
 ·simp only[H'];rw[if_neg (fun e=>hc (by rw[e.1];exact A))];exact hd.nofz c hc o
 ·refine⟨h.fr.size,h.fr.os,h.fr.tape,h.fr.output,h.fr.block,fun c o y hy=>k _ _ _ (h.fr.hold c o y hy),fun c o k1 k2=>?_,fun c hc=>h.fr.tt c ?_,h.fr.nz.1,fun c o x l' q k1 k2=>?_⟩
  ·simp only[H']at k1;split at k1
   ·rename_i e;rw[e.1];exact h.fr.tt b j
   ·exact h.fr.hnew c o k1 k2
  ·have:=r c
   have hc:tot F (aP (bU n) (cv s.m n)) c≠0:=hc
   omega
  ·simp only[H']at k1;split at k1
   ·cases k1
   ·exact h.fr.nz.2 c o x l' q k1 k2
 ·show AR w H' γ _ (bd (sQ _ s.t) i) _
  rw[qG rfl];refine iK (fun t y d=>?_) (h.t i);have hk:=fun(t:T) (d:TR w H γ s.m t (fun _=>0) y)=>qu (fp (n:=n)) k (fun _ hb=>absurd rfl hb) d
  cases t with
  |rf p=>
   simp only[T.frm];split
   ·rename_i e;split
    ·rename_i q;subst e;obtain⟨_,_,hv⟩:=d;have z:aI w (γ q) 0=some y:=hv
     rw[h1]at z;obtain rfl:Value.map (some b)=y:=by grind [aI]
     exact⟨fun _=>rfl,hx⟩
    ·exact fun _=>rfl
   ·rename_i e;have:=hk _ d
    simp only[T.kill]at this;rw[if_neg (by simp[bU,e])]at this;exact this
  |_=>exact hk _ d
end
theorem Bn{P:Program}{w:World}{H:FH}{mt kt et:TypeId}{d:TypeDesc}{k:D}{kv z:Value}(c:P.underlying mt=some (.map kt et))(hd:P.underlying kt=some d)(hk:jK (gA P d) k=true)(a:FDx H k kv)(hz:(zeroValue et).run P w=.ok z w)(ok:Bool) :
  (Instr.lookup mt (.map none) kv ok).run P w=.ok (if ok then .tuple #[z,.bool false]else z) w:=by
 have b:IsKey d kv:=(mI (P:=P) hk hk a a).1
 simp_all[Instr.lookup,run_underlying,run_checkKey,Instr.findKey,Instr.findNow]
theorem Vl{w:World}{H:FH}{m:Nat}:∀{l:List (D×D)}{es:List MapEntry},(esV es).length=l.length->(∀(i:Nat)(x:D×D)(y:Value×Value),l[i]? = some x->(esV es)[i]? = some y->FD H m x.1 y.1/\FD H m x.2 y.2)->(∀e∈l,e.1.isKey=true)->MpO w H (l.map fun e=>(e.1,Sh.fr,e.2)) es (fun _=>0)
 |[],[],_,_,_=>fun _=>rfl
 |x::l,e::es,hl,h,hk=>by
  have h0:=h 0 x (e.key,e.val) rfl rfl
  refine⟨⟨hk x (by simp),m,h0.1⟩,fun _=>0,fun _=>0,0,fun _=>rfl,fZ.2 ⟨fun _=>rfl,m,h0.2⟩,Vl (by grind [esV]) (fun i a b c hb=>h (i+1) a b (by grind) (by grind [esV])) (fun a c=>hk a (by simp[c]))⟩
 |[],_::_,h,_,_=>by simp[esV]at h
 |_::_,[],h,_,_=>by simp[esV]at h
theorem UV{w:World}{H:FH}{l:List (D×D)}{y:Value}(a:∀b o y,H b o=some y->RdV w b o y)(hk:∀e∈l,e.1.isKey=true)(h:FDx H (.mp (some l)) y) :
  ∃b es ck,y=.map (some b)/\w.heap[b]? = some (.map es ck)/\Stamped es ck/\MpO w H (l.map fun e=>(e.1,Sh.fr,e.2)) es.toList (fun _=>0):=by
 obtain⟨m,h⟩:=h;cases m with
 |zero=>exact h.elim
 |succ m=>
  obtain⟨b,es,ck,h1,h2,h3,h4⟩:=h;obtain⟨h5,h6⟩:=a b 0 _ h2;refine⟨b,es,ck,h1,h5,h6,Vl (m:=m) (by grind [esV]) (fun i x y hx hy=>?_) hk⟩
  grind [esV]
end Go.Am
end

section
namespace Go.Am
inductive C where
 |i (k:IntKind) (n:Int)
 |b (x:UInt8)
 |bo (x:Bool)
 |s (l:List UInt8)
 |li (u:U) (l:List (El u))
 |mp (k v:U) (l:Option (List (El k×El v)))
 |nm
 |fn (c:Lt.Clo)
 |v (x:Value)
 |any
 deriving Inhabited
def dflt:(u:U)->El u
 |.i _=>(default:Int)
 |.b8=>(default:UInt8)
 |.bo=>(default:Bool)
 |.s=>(default:List UInt8)
 |.sl _=>[]
 |.mp _ _=>none
 |.fn=>default
 |.st n=>(sd n).df
def xu(u' u:U)(l:List (El u')):Option (List (El u)):=if h:u'=u then some (cast (by rw[h]) l)else none
variable{u:U}
theorem mB{u':U}{l:List (El u')}{x:List (El u)}(h:xu u' u l=some x):∃e:u'=u,x=e ▸ l:=by
 grind [xu]
def Wy(k' a k v:U)(l:Option (List (El k'×El a))):Option (Option (List (El k×El v))):=if h:k'=k/\a=v then some (cast (by grind) l)else none
theorem Wz{k' a k v:U}{l:Option (List (El k'×El a))}{x:Option (List (El k×El v))}(h:Wy k' a k v l=some x):∃e:k'=k,∃b:a=v,x=e ▸ b ▸ l:=by
 grind [Wy]
def am:(u:U)->El u->C
 |.i k,n=>.i k n
 |.b8,x=>.b x
 |.bo,x=>.bo x
 |.s,l=>.s l
 |.sl u,l=>.li u l
 |.mp k v,l=>.mp k v l
 |.fn,x=>.fn x
 |.st _,_=>.any
def jL:(u:U)->C->Option (El u)
 |.i k,.i k' n=>if k'=k then some n else none
 |.b8,.b x=>some x
 |.bo,.bo x=>some x
 |.s,.s l=>some l
 |.sl u,.li u' l=>xu u' u l
 |.mp k v,.mp k' a l=>Wy k' a k v l
 |.fn,.fn c=>some c
 |_,_=>none
def leaf:U->Bool
 |.st _=>false
 |_=>true
variable{x:El u}
theorem dX{c:C}(h:jL u c=some x):c=am u x:=by
 unfold jL at h;split at h
 ·split at h
  ·rename_i e;subst e;rw[<- Option.some.inj h];rfl
  grind
 ·rw[<- Option.some.inj h];rfl
 ·rw[<- Option.some.inj h];rfl
 ·rw[<- Option.some.inj h];rfl
 ·obtain⟨e,rfl⟩:=mB h;subst e;rfl
 ·obtain⟨e,a,rfl⟩:=Wz h;subst e a;rfl
 ·rw[<- Option.some.inj h];rfl
 grind
def fw:(us:List U)->Fl us->List C
 |[],_=>[]
 |u::r,x=>am u (Fl.hd u r x)::fw r (Fl.tl u r x)
def lH:(us:List U)->List C->Option (Fl us)
 |[],[]=>some ()
 |u::r,c::cs=>match jL u c,lH r cs with
  |some x,some y=>some (Fl.cons u r x y)
  |_,_=>none
 |_,_=>none
theorem uq(u:U)(us:List U)(x:El u)(y:Fl us):Fl.hd u us (Fl.cons u us x y)=x:=by cases us<;>rfl
theorem vf(u:U)(us:List U)(x:El u)(y:Fl us):Fl.tl u us (Fl.cons u us x y)=y:=by cases us<;>rfl
theorem AQ:∀{us:List U}{cs:List C}{x:Fl us},lH us cs=some x->cs=fw us x
 |[],[],_,_=>rfl
 |u::r,c::cs,x,h=>by
  simp only[lH]at h;cases h1:jL u c with
  |none=>grind
  |some a=>
   cases h2:lH r cs with
   |none=>grind
   |some b=>
    rw[h1,h2]at h;simp only[aiX]at h;subst h;rw[fw,uq,vf,<- dX h1,<- AQ h2]
 |[],_::_,_,h=>by simp[lH]at h
 |_::_,[],_,h=>by simp[lH]at h
def flat:(u:U)->El u->List C
 |.st n,x=>fw (sd n).fs ((sd n).un x)
 |.i k,x=>[.i k x]
 |.b8,x=>[.b x]
 |.bo,x=>[.bo x]
 |.s,x=>[.s x]
 |.sl u,x=>[.li u x]
 |.mp k v,x=>[.mp k v x]
 |.fn,x=>[.fn x]
def unflat:(u:U)->List C->Option (El u)
 |.st n,cs=>match lH (sd n).fs cs with
  |some y=>some ((sd n).mkF y)
  |none=>none
 |u,[c]=>jL u c
 |_,_=>none
theorem j8:∀{u:U}(_:leaf u=true)(x:El u),flat u x=[am u x]
 |.i _,_,_=>rfl
 |.b8,_,_=>rfl
 |.bo,_,_=>rfl
 |.s,_,_=>rfl
 |.sl _,_,_=>rfl
 |.mp _ _,_,_=>rfl
 |.fn,_,_=>rfl
 |.st _,h,_=>by cases h
theorem wW{cs:List C}(h:unflat u cs=some x):cs=flat u x:=by
 cases u with
 |st n=>
  simp only[unflat]at h;cases h1:lH (sd n).fs cs with
  |none=>grind
  |some y=>
   rw[h1]at h;have hx:=Option.some.inj h
   subst hx;show cs=fw (sd n).fs ((sd n).un ((sd n).mkF y))
   rw[(sd n).l2,<- AQ h1]
 |_=>
  cases cs with
  |nil=>cases h
  |cons c r=>cases r with
   |nil=>rw[j8 rfl,<- dX h]
   |cons _ _=>cases h
def nc:U->Nat
 |.st n=>(sd n).fs.length
 |_=>1
theorem rL:∀(us:List U)(x:Fl us),(fw us x).length=us.length
 |[],_=>rfl
 |u::r,x=>by simp only[fw,ai1,rL r]
theorem xx(x:El u):(flat u x).length=nc u:=by
 cases u with
 |st n=>exact rL _ _
 |_=>rfl
def ap:(u:U)->El u->List D
 |.i k,n=>[.int k n]
 |.b8,x=>[.int .u8 (x.toNat:Int)]
 |.bo,x=>[.bool x]
 |.s,l=>[.str l]
 |.sl u,l=>[.li (l.map (ap u))]
 |.mp k v,l=>[.mp (l.map fun l=>l.map fun x=>((ap k x.1).headD .any,(ap v x.2).headD .any))]
 |.fn,x=>[.fn x.fn (x.caps.map Lt.Cap.enc)]
 |.st n,x=>(sd n).enc x
def C.toD:C->D
 |.i k n=>.int k n
 |.b x=>.int .u8 (x.toNat:Int)
 |.bo x=>.bool x
 |.s l=>.str l
 |.li u l=>.li (l.map (ap u))
 |.mp ku vu l=>.mp (l.map fun l=>l.map fun x=>((ap ku x.1).headD .any,(ap vu x.2).headD .any))
 |.nm=>.mp none
 |.fn c=>.fn c.fn (c.caps.map Lt.Cap.enc)
 |.v x=>.v x
 |.any=>.any
theorem agN:∀(n:Sn)(x:aeK n),(fw (sd n).fs ((sd n).un x)).map C.toD=(sd n).enc x:=by
 intro n;cases n<;>intro x<;>rfl
theorem cz(x:El u):(flat u x).map C.toD=ap u x:=by
 cases u with
 |st n=>exact agN n x
 |_=>rfl
theorem aaB{c:Lt.Cap}(h:afF u x=some c):afG c=⟨u,x⟩/\c.enc=ap u x:=by
 unfold afF at h;split at h<;>first|(cases h;exact⟨rfl,rfl⟩)|cases h
theorem lA(x:El u):(ap u x).length=nc u:=by rw[<- cz,ai2,xx]
inductive Tt where
 |d (c:C)
 |nil
 |ow (sh:List Sh) (u:U) (l:List (El u))
 |mp (ku vu:U) (l:List (El ku×El vu))
 |mo (ku u:U) (l:List (El ku×List (El u))) (h:Option (El ku))
 |it (ku vu:U) (cur:Option (El ku×El vu)) (rest:List (El ku×El vu))
 |el (row:List C) (off:Nat)
 |ga (u:U) (l:List (El u)) (i:Nat)
 |pl (p:Pl)
 |rf (p:Pl)
 |any
 deriving Inhabited
def WL(ku u:U)(x:El ku×List (El u)):D×Sh×D:=((am ku x.1).toD,.ow (List.replicate (nc u) .fr),.li (x.2.map (ap u)))
def BP(l:List (D×Sh×D))(k:D):List (D×Sh×D):=match oQ l k with
 |some x=>jJ l k (x.1,.any)
 |none=>l
def moD(ku u:U)(l:List (El ku×List (El u))):Option (El ku)->List (D×Sh×D)
 |none=>l.map (WL ku u)
 |some k=>BP (l.map (WL ku u)) (am ku k).toD
def rH(ku vu:U)(x:El ku×El vu):D×D:=((am ku x.1).toD,(am vu x.2).toD)
def Tt.toT:Tt->T
 |.d c=>.d c.toD
 |.nil=>.nil
 |.ow sh u l=>.ow sh (l.map (ap u))
 |.mp ku vu l=>.mp (l.map fun x=>((am ku x.1).toD,.fr,(am vu x.2).toD))
 |.mo ku u l h=>.mp (moD ku u l h)
 |.it ku vu cur rest=>.it (cur.map (rH ku vu)) (rest.map (rH ku vu))
 |.el row off=>.el (row.map C.toD) off
 |.ga u l i=>.el (l.map fun x=>(am u x).toD) i
 |.pl p=>.pl p
 |.rf p=>.rf p
 |.any=>.any
inductive A1 where
 |c (t:Tt)
 |agg (ts:List Tt)
 deriving Inhabited
def A1.toV:A1->AV1
 |.c t=>.c t.toT
 |.agg ts=>.agg (ts.map Tt.toT)
inductive At where
 |one (x:A1)
 |tup (vs:List A1)
 |any
 deriving Inhabited
def At.toV:At->AV
 |.one x=>.one x.toV
 |.tup vs=>.tup (vs.map A1.toV)
 |.any=>.any
structure Rt where
 blk:Bool
 cells:List Tt
 hole:Option (Nat×Step×List Step)
def holed(cells:List T):Option (Nat×Step×List Step)->List T
 |none=>cells
 |some (off,st,q)=>match cells[off]? with
  |some (.ow sub l)=>cells.set off (.ow sub (cx sub l .any (st::q)))
  |_=>cells
def Rt.toR(r:Rt):Root:=⟨r.blk,holed (r.cells.map Tt.toT) r.hole⟩
structure St where
 nx:Nat
 t:List (Nat×Nat×At)
 m:List (Nm×Nat×Rt)
def St.toS(s:St):S:=⟨s.t.map fun x=>(x.1,x.2.2.toV),s.m.map fun x=>(x.1,x.2.2.toR)⟩
def gtA:List (Nat×Nat×At)->Nat->At
 |[],_=>.any
 |(k,_,v)::t,i=>match Nat.beq k i with
  |true=>v
  |false=>gtA t i
def cw:List (Nm×Nat×Rt)->Nm->Option Rt
 |[],_=>none
 |(k,_,r)::m,n=>if k=n then some r else cw m n
def eI:List (Nm×Nat×Rt)->Nm->Nat->Rt->List (Nm×Nat×Rt)
 |[],_,_,_=>[]
 |(k,j,x)::m,n,i,r=>if k=n then(k,i,r)::m else(k,j,x)::eI m n i r
def gi:List (Nm×Nat×Rt)->Nm->List (Nm×Nat×Rt)
 |[],_=>[]
 |(k,j,x)::m,n=>if k=n then gi m n else(k,j,x)::gi m n
theorem dC(i:Nat):∀t:List (Nat×Nat×At),bd (t.map fun x=>(x.1,x.2.2.toV)) i=(gtA t i).toV
 |[]=>rfl
 |(k,j,v)::t=>by
  simp only[aiZ,bd,gtA];by_cases h:k=i
  ·grind [Nat.beq_refl]
  ·rw[if_neg h];have:Nat.beq k i=false:=by
    grind [ai5]
   rw[this];exact dC i t
abbrev toM(m:List (Nm×Nat×Rt)):Mm:=m.map fun x=>(x.1,x.2.2.toR)
theorem um(n:Nm):∀m:List (Nm×Nat×Rt),af (toM m) n=(cw m n).map Rt.toR
 |[]=>rfl
 |(k,j,v)::m=>by
  simp only[toM,aiZ,af,cw];by_cases h:k=n
  ·grind
  ·rw[if_neg h,if_neg h];exact um n m
theorem fE(n:Nm)(i:Nat)(r:Rt):∀m:List (Nm×Nat×Rt),toM (eI m n i r)=cM (toM m) n r.toR
 |[]=>rfl
 |(k,j,v)::m=>by
  simp only[toM,aiZ,cM,eI];by_cases h:k=n
  ·grind
  ·rw[if_neg h,if_neg h,aiZ];exact congrArg _ (fE n i r m)
abbrev ND(m:List (Nm×Nat×Rt)):Prop:=(m.map (·.1)).Nodup
theorem P1(n:Nm):∀m:List (Nm×Nat×Rt),n ∉ m.map (·.1)->gi m n=m
 |[],_=>rfl
 |(k,j,v)::m,h=>by
  simp only[aiZ,ai7,not_or]at h;simp only[gi];rw[if_neg (fun e=>h.1 e.symm),P1 n m h.2]
theorem pu(n:Nm):∀m:List (Nm×Nat×Rt),ND m->toM (gi m n)=cv (toM m) n
 |[],_=>rfl
 |(k,j,v)::m,hn=>by
  have hn':k ∉ m.map (·.1)/\(m.map (·.1)).Nodup:=by grind
  simp only[toM,aiZ,cv,gi];by_cases h:k=n
  ·grind [P1]
  ·rw[if_neg h,if_neg h,aiZ];exact congrArg _ (pu n m hn'.2)
def St.put(s:St):Option Tmp->At->St
 |none,_=>s
 |some d,v=>⟨s.nx+1,(d,s.nx,v)::s.t,s.m⟩
def Tt.kill(bad:Bool->Pl->Bool):Tt->Tt
 |.pl p=>if bad false p then .any else .pl p
 |.rf p=>if bad true p then .any else .rf p
 |t=>t
def A1.kill(bad:Bool->Pl->Bool):A1->A1
 |.c t=>.c (t.kill bad)
 |.agg ts=>.agg (ts.map (·.kill bad))
def At.kill(bad:Bool->Pl->Bool):At->At
 |.one x=>.one (x.kill bad)
 |.tup xs=>.tup (xs.map (·.kill bad))
 |.any=>.any
def Tt.ment(n:Nm):Tt->Bool
 |.pl p=>decide (p.root=n)
 |.rf p=>decide (p.root=n)
 |_=>false
def Tt.hit(bad:Bool->Pl->Bool):Tt->Bool
 |.pl p=>bad false p
 |.rf p=>bad true p
 |_=>false
def A1.hit(bad:Bool->Pl->Bool):A1->Bool
 |.c t=>t.hit bad
 |.agg ts=>ts.any (·.hit bad)
def At.hit(bad:Bool->Pl->Bool):At->Bool
 |.one x=>x.hit bad
 |.tup xs=>xs.any (·.hit bad)
 |.any=>false
def Rt.kill(bad:Bool->Pl->Bool)(r:Rt):Rt:=⟨r.blk,r.cells.map (·.kill bad),r.hole⟩
def stp:Bool->Nat->Nat->Nat
 |true,i,_=>i
 |false,_,j=>j
def oO(bad:Bool->Pl->Bool)(nx:Nat)(t:List (Nat×Nat×At)):List (Nat×Nat×At):=t.map fun x=>(x.1,stp (x.2.2.hit bad) nx x.2.1,x.2.2.kill bad)
def cT(bad:Bool->Pl->Bool)(nx:Nat)(m:List (Nm×Nat×Rt)):List (Nm×Nat×Rt):=m.map fun x=>(x.1,stp (x.2.2.cells.any (·.hit bad)) nx x.2.1,x.2.2.kill bad)
def St.drop(s:St)(n:Nm):St:=⟨s.nx+1,oO (bU n) s.nx s.t,cT (bU n) s.nx (gi s.m n)⟩
def St.fresh(s:St)(n:Nm):St:=match cw s.m n with
 |none=>s
 |some _=>s.drop n
def St.root(s:St)(n:Nm)(r:Rt):St:=⟨s.nx+1,s.t,(n,s.nx,r)::s.m⟩
def Tt.frz(q:Pl)(u:U)(l:List (El u)):Tt->Tt
 |.rf p=>match p with
  |⟨n,o,[]⟩=>if n=q.root/\o=q.off then .d (.li u l)else(Tt.rf ⟨n,o,[]⟩).kill (thr q)
  |p=>(Tt.rf p).kill (thr q)
 |t=>t.kill (thr q)
def A1.map(f:Tt->Tt):A1->A1
 |.c t=>.c (f t)
 |.agg ts=>.agg (ts.map f)
def At.map(f:Tt->Tt):At->At
 |.one x=>.one (x.map f)
 |.tup xs=>.tup (xs.map (·.map f))
 |.any=>.any
def setCell(m:List (Nm×Nat×Rt))(n:Nm)(i:Nat)(off:Nat)(t:Tt):List (Nm×Nat×Rt):=match cw m n with
 |some r=>eI m n i { r with cells:=r.cells.set off t }
 |none=>m
def OG(q:Pl)(rf:Bool)(p:Pl):Bool:=thr q rf p||(rf&&decide (p.root=q.root/\p.off=q.off))
def Tt.frm(n:Nm)(c:C):Tt->Tt
 |.rf p=>if p.root=n then(match p with
  |⟨_,0,[]⟩=>.d c
  |_=>.any)else .rf p
 |t=>t.kill (bU n)
def WZ(s:St)(n:Nm)(c:C):St:=⟨s.nx+1,s.t.map fun x=>(x.1,stp (x.2.2.hit (bU n)) s.nx x.2.1,x.2.2.map (Tt.frm n c)),cT (bU n) s.nx (gi s.m n)⟩
def ul(s:St)(q:Pl):St:=
 match q.path,cw s.m q.root with
 |[],some r=>match r.hole,r.cells[q.off]? with
  |none,some (.ow _ u l)=>⟨s.nx+1,s.t.map fun x=>(x.1,stp (x.2.2.hit (OG q)) s.nx x.2.1,x.2.2.map (Tt.frz q u l)),
    setCell (cT (thr q) s.nx (setCell s.m q.root s.nx q.off .any)) q.root s.nx q.off (.d (.li u l))⟩
  |none,some (.mp ku vu l)=>match r.blk,r.cells,leaf ku&&leaf vu with
   |false,[_],true=>WZ s q.root (.mp ku vu (some l))
   |_,_,_=>s
  |_,_=>s
 |_,_=>s
def Qa(s:St):Tt->St
 |.rf p=>ul s p
 |_=>s
def E5:St->List Tt->St
 |s,[]=>s
 |s,t::ts=>E5 (Qa s t) ts
def gZ(s:St):At->St
 |.one (.c t)=>Qa s t
 |.one (.agg ts)=>E5 s ts
 |_=>s
def fb(s:St):List At->St
 |[]=>s
 |v::vs=>fb (gZ s v) vs
def mkC(k:IntKind)(n:Int):C:=match k with
 |.u8=>.b (UInt8.ofNat n.toNat)
 |k=>.i k n
def rR:C->Option (IntKind×Int)
 |.i k n=>match k with
  |.u8=>none
  |k=>some (k,n)
 |.b x=>some (.u8,(x.toNat:Int))
 |_=>none
def ui:Value->Tt
 |.bool b=>.d (.bo b)
 |.int k n=>match k with
  |.u8=>if 0<=n/\n < 256 then .d (.b (UInt8.ofNat n.toNat))else .any
  |k=>.d (.i k n)
 |.string s=>.d (.s s.data.toList)
 |.slice none 0 0=>.nil
 |.pointer none=>.d (.v (.pointer none))
 |.map none=>.d .nm
 |.nilFunc=>.d (.v .nilFunc)
 |.nilIface=>.d (.v .nilIface)
 |.func f a b=>.d (.v (.func f a b))
 |_=>.any
def afI:Value->At
 |.agg cs=>.one (.agg (cs.toList.map ui))
 |v=>.one (.c (ui v))
abbrev sct(x:C):At:=.one (.c (.d x))
def adT(k:Nat):Option (List (List UInt8)):=match rO k with
 |none=>none
 |some _=>some gw
def evA(s:St):Operand->At
 |.tmp t=>gtA s.t t
 |.const v=>afI v
 |.func f=>sct (.fn ⟨f,[]⟩)
 |.global g=>match adT g with
  |some l=>.one (.c (.ga .s l 0))
  |none=>.any
def DO(c x y:At)(k:At->Prop):Prop:=
 match c with
 |.one (.c (.d (.bo b)))=>if b=true then k x else k y
 |_=>False
def XV(op:BinOp)(k:IntKind)(a b:Int)(K:C->Prop):Prop:=
 match op with
 |.add=>K (mkC k (k.wrap (a+b)))
 |.sub=>K (mkC k (k.wrap (a-b)))
 |.mul=>K (mkC k (k.wrap (a*b)))
 |.quo=>b≠0/\K (mkC k (k.wrap (a.tdiv b)))
 |.rem=>b≠0/\K (mkC k (a.tmod b))
 |.and=>K (mkC k (k.wrap (BitVec.ofInt k.bits a &&& BitVec.ofInt k.bits b).toNat))
 |.or=>K (mkC k (k.wrap (BitVec.ofInt k.bits a ||| BitVec.ofInt k.bits b).toNat))
 |.xor=>K (mkC k (k.wrap (BitVec.ofInt k.bits a ^^^ BitVec.ofInt k.bits b).toNat))
 |.andNot=>K (mkC k (k.wrap (BitVec.ofInt k.bits a &&& ~~~BitVec.ofInt k.bits b).toNat))
 |.shl=>0<=b/\K (mkC k (k.wrap (a*2 ^ (min b.toNat k.bits))))
 |.shr=>0<=b/\K (mkC k (a.fdiv (2 ^ (min b.toNat k.bits))))
 |.eql=>K (.bo (decide (a=b)))
 |.neq=>K (.bo (!decide (a=b)))
 |.lss=>K (.bo (decide (a<b)))
 |.leq=>K (.bo (decide (a<=b)))
 |.gtr=>K (.bo (decide (b<a)))
 |.geq=>K (.bo (decide (b<=a)))
def ah0:BinOp->Bool
 |.shl=>true
 |.shr=>true
 |_=>false
def IE(op:BinOp)(x y:C)(K:C->Prop):Prop:=
 match x,y with
 |.s a,.s b=>match op with
  |.add=>a.length+b.length<=4611686018427387904/\K (.s (a++b))
  |.eql=>K (.bo (decide (a=b)))
  |.neq=>K (.bo (!decide (a=b)))
  |.lss=>K (.bo (Op.bytesLess a b))
  |.leq=>K (.bo (Op.bytesLess a b||decide (a=b)))
  |.gtr=>K (.bo (!(Op.bytesLess a b||decide (a=b))))
  |.geq=>K (.bo (!Op.bytesLess a b))
  |_=>False
 |x,y=>match rR x,rR y with
  |some (k,a),some (k',b)=>if ah0 op=true\/k=k' then XV op k a b K else False
  |_,_=>False
def eqC(ck:CK)(x y:C):Option Bool:=
 match ck with
 |.i=>match rR x,rR y with
  |some (k,a),some (k',b)=>if k=k' then some (decide (a=b))else none
  |_,_=>none
 |.s=>match x,y with
  |.s a,.s b=>some (decide (a=b))
  |_,_=>none
 |.b=>match x,y with
  |.bo a,.bo b=>some (a==b)
  |_,_=>none
def WN:List (Nat×CK)->List C->List C->Option Bool
 |[],_,_=>some true
 |(o,ck)::l,xs,a=>match xs[o]?,a[o]? with
  |some x,some y=>match eqC ck x y,l with
   |some b,[]=>some b
   |some b,l=>match WN l xs a with
    |some r=>some (b&&r)
    |none=>none
   |none,_=>none
  |_,_=>none
def TC:Tt->C
 |.d c=>c
 |_=>.any
def ah1:C->Option Bool
 |.mp _ _ z=>some z.isNone
 |.nm=>some true
 |_=>none
def Rx(P:Program)(op:BinOp)(t:TypeId)(x y:At)(k:At->Prop):Prop:=
 match x,y with
 |.one (.c (.d (.bo a))),.one (.c (.d (.bo b)))=>match(ty P t).k with
  |.bool=>match op with
   |.eql=>k (sct (.bo (a==b)))
   |.neq=>k (sct (.bo (!(a==b))))
   |_=>False
  |_=>False
 |.one (.c (.d a)),.one (.c (.d .nm))=>match(ty P t).k,ah1 a with
  |.mp _ _,some z=>match op with
   |.eql=>k (sct (.bo z))
   |.neq=>k (sct (.bo (!z)))
   |_=>False
  |_,_=>False
 |.one (.c (.d a)),.one (.c (.d b))=>IE op a b fun d=>k (sct d)
 |.one (.agg xs),.one (.agg e)=>match P5 P t with
  |some l=>match WN l (xs.map TC) (e.map TC),op with
   |some b,.eql=>k (sct (.bo b))
   |some b,.neq=>k (sct (.bo (!b)))
   |_,_=>False
  |none=>False
 |_,_=>False
def unT(op:UnOp)(x:At)(k:At->Prop):Prop:=
 match op,x with
 |.not,.one (.c (.d (.bo b)))=>k (sct (.bo (!b)))
 |.neg,.one (.c (.d c))=>match rR c with
  |some (κ,n)=>k (sct (mkC κ (κ.wrap (0-n))))
  |none=>False
 |.xor,.one (.c (.d c))=>match rR c with
  |some (κ,n)=>k (sct (mkC κ (κ.wrap (BitVec.ofInt κ.bits (if κ.signed then -1 else κ.max) ^^^ BitVec.ofInt κ.bits n).toNat)))
  |none=>False
 |_,_=>False
def mD(x:At)(i:Nat)(k:At->Prop):Prop:=
 match x with
 |.tup vs=>match vs[i]? with
  |some v=>k (.one v)
  |none=>False
 |_=>False
def inT(sub:List Sh)(u:U)(l:List (El u))(n:Nat):List Step->Option (List Tt)
 |[]=>none
 |[st]=>match Nat.ble (st.off+n) sub.length with
  |true=>some (List.zipWith (fun s c=>match s,c with
    |Sh.fr,x=>Tt.d x
    |Sh.ow s,C.li u' l'=>Tt.ow s u' l'
    |_,_=>Tt.any) ((sub.drop st.off).take n) (((flat u (l.getD st.idx (dflt u))).drop st.off).take n))
  |false=>none
 |st::a::r=>match sub[st.off]?,(flat u (l.getD st.idx (dflt u)))[st.off]? with
  |some (.ow s),some (.li u' l')=>inT s u' l' n (a::r)
  |_,_=>none
def af6:Option (Nat×Step×List Step)->List Step->Bool
 |none,_=>true
 |some (_,_,a),p=>Nat.blt p.length (a.length+1)
def atT(m:List (Nm×Nat×Rt))(p:Pl)(n:Nat):Option (List Tt):=
 match cw m p.root with
 |none=>none
 |some r=>match p.path with
  |[]=>match Nat.ble (p.off+n) r.cells.length with
   |true=>some ((r.cells.drop p.off).take n)
   |false=>none
  |st::q=>match af6 r.hole (st::q),r.cells[p.off]? with
   |true,some (.ow sub u l)=>inT sub u l n (st::q)
   |_,_=>none
def QC(q:Pl):Tt->Tt
 |.ow _ _ _=>.rf q
 |.mp _ _ _=>.rf q
 |.mo _ _ _ _=>.rf q
 |.it _ _ _ _=>.rf q
 |t=>t
def F6(p:Pl)(ts:List Tt):List Tt:=ts.zipIdx.map fun x=>QC (p.add x.2) x.1
def sliceAt(m:List (Nm×Nat×Rt))(p:Pl):Option ((_:List Sh)×(u:U)×List (El u)):=
 match atT m p 1 with
 |some [.ow sh u l]=>some ⟨sh,u,l⟩
 |_=>none
def gift:Option (Nat×Bool)->Nat->Prop->Prop
 |none,n,q=>n<=4611686018427387904->q
 |some _,_,q=>q
def Tx(gd:Option (Nat×Bool))(m:List (Nm×Nat×Rt))(x:At)(k:Nat->Prop):Prop:=
 match x with
 |.one (.c (.d (.s l)))=>gift gd l.length (k l.length)
 |.one (.c (.d (.li _ l)))=>gift gd l.length (k l.length)
 |.one (.c .nil)=>k 0
 |.one (.c (.rf p))=>match sliceAt m p with
  |some ⟨_,_,l⟩=>gift gd l.length (k l.length)
  |_=>False
 |_=>False
def wU(x i:At)(k:At->Prop):Prop:=
 match x,i with
 |.one (.c (.d (.s l))),.one (.c (.d (.i _ n)))=>(0<=n/\n.toNat<l.length)/\k (sct (.b (l.getD n.toNat 0)))
 |_,_=>False
def io(x:Option At)(d:Nat)(k:Nat->Prop):Prop:=
 match x with
 |none=>k d
 |some (.one (.c (.d (.i _ n))))=>0<=n/\k n.toNat
 |_=>False
def wP(P:Program)(t:TypeId)(x:At)(lo hi:Option At)(k:At->Prop):Prop:=
 match x with
 |.one (.c (.d (.s l)))=>match(ty P t).k with
  |.str=>io lo 0 fun a=>io hi l.length fun b=>(a<=b/\b<=l.length)/\k (sct (.s ((l.drop a).take (b-a))))
  |_=>False
 |.one (.c (.d (.li u l)))=>match(ty P t).k with
  |.sl e=>match(ty P e).ok&&Nat.beq (nc u) (ty P e).size with
   |true=>io lo 0 fun a=>io hi l.length fun b=>(a<=b/\b<=l.length)/\k (sct (.li u ((l.drop a).take (b-a))))
   |false=>False
  |_=>False
 |.one (.c .nil)=>match(ty P t).k with
  |.sl e=>match(ty P e).ok with
   |true=>io lo 0 fun a=>io hi 0 fun b=>a<=b/\b<=0/\k (.one (.c .nil))
   |false=>False
  |_=>False
 |_=>False
def pI(m:List (Nm×Nat×Rt))(p:Pl)(n:Nat):Bool:=
 match cw m p.root with
 |none=>false
 |some r=>match p.path,r.cells[p.off]? with
  |[],_=>Nat.ble (n+1) (r.cells.length-p.off)
  |st::q,some (.ow sub _ _)=>match xG sub (st::q)with
   |some k=>Nat.ble (n+1) k
   |none=>false
  |_,_=>false
def iU(P:Program)(m:List (Nm×Nat×Rt))(t:TypeId)(x:At)(i:Nat)(k:At->Prop):Prop:=
 match(ty P t).k with
 |.st fs=>match fs[i]? with
  |some (off,size+1,_)=>match x with
   |.one (.c (.pl p))=>match pI m p off with
    |true=>k (.one (.c (.pl (p.add off))))
    |false=>False
   |.one (.c (.el row o))=>k (.one (.c (.el row (o+off))))
   |_=>False
  |_=>False
 |_=>False
def gP(P:Program)(m:List (Nm×Nat×Rt))(t:TypeId)(x i:At)(k:At->Prop):Prop:=
 match i with
 |.one (.c (.d (.i _ n)))=>match(ty P t).k with
  |.sl e=>match x with
   |.one (.c (.d (.li u l)))=>match(ty P e).ok&&Nat.beq (nc u) (ty P e).size with
    |true=>(0<=n/\n.toNat<l.length)/\k (.one (.c (.el (flat u (l.getD n.toNat (dflt u))) 0)))
    |false=>False
   |.one (.c (.rf p))=>match(ty P e).ok&&Nat.ble 1 (ty P e).size with
    |true=>match sliceAt m p with
     |some ⟨sh,_,l⟩=>match Nat.beq sh.length (ty P e).size with
      |true=>(0<=n/\n < (l.length:Int))/\k (.one (.c (.pl (p.at n.toNat (ty P e).size))))
      |false=>False
     |_=>False
    |false=>False
   |_=>False
  |.ar N e=>match x with
   |.one (.c (.ga u l i))=>match(ty P e).ok&&Nat.beq (ty P e).size 1&&leaf u with
    |true=>(0<=n/\n < (N:Int))/\k (.one (.c (.ga u l (n.toNat+i))))
    |false=>False
   |.one (.c (.pl p))=>match(ty P e).ok&&pI m p (n.toNat*(ty P e).size)with
    |true=>(0<=n/\n < (N:Int))/\k (.one (.c (.pl (p.add (n.toNat*(ty P e).size)))))
    |false=>False
   |_=>False
  |_=>False
 |_=>False
def mQ(P:Program)(m:List (Nm×Nat×Rt))(t:TypeId)(x:At)(k:At->Prop):Prop:=
 match(ty P t).ok with
 |true=>match x with
  |.one (.c (.el row o))=>match(ty P t).agg with
   |true=>match Nat.ble (o+(ty P t).size) row.length with
    |true=>k (.one (.agg (((row.drop o).take (ty P t).size).map Tt.d)))
    |false=>False
   |false=>match row[o]? with
    |some c=>k (sct c)
    |none=>False
  |.one (.c (.ga u l i))=>match(ty P t).agg,leaf u with
   |false,true=>i<l.length/\k (sct (am u (l.getD i (dflt u))))
   |_,_=>False
  |.one (.c (.pl p))=>match(ty P t).agg with
   |true=>match atT m p (ty P t).size with
    |some ts=>k (.one (.agg (F6 p ts)))
    |none=>False
   |false=>match atT m p 1 with
    |some [t']=>k (.one (.c (QC p t')))
    |_=>False
  |_=>False
 |false=>False
def vX(P:Program)(t:TypeId)(x:At)(i:Nat)(k:At->Prop):Prop:=
 match(ty P t).k,x with
 |.st fs,.one (.agg ts)=>match fs[i]? with
  |some (off,_,some false)=>match ts[off]? with
   |some t'=>k (.one (.c t'))
   |none=>False
  |some (off,size,some true)=>match Nat.ble (off+size) ts.length with
   |true=>k (.one (.agg ((ts.drop off).take size)))
   |false=>False
  |_=>False
 |_,_=>False
def ke(x:At)(k:At->Prop):Prop:=
 match x with
 |.one (.c (.pl _))=>k x
 |.one (.c (.el _ _))=>k x
 |.one (.c (.ga _ _ _))=>k x
 |_=>False
def Tt.sure:Tt->Bool
 |.any=>false
 |.d .any=>false
 |_=>true
def qC:At->Option (List Tt)
 |.one (.c t)=>some [t]
 |.one (.agg ts)=>some ts
 |_=>none
def sE(pl:Nat->Option (Nat×Nat)):List Tt->List (Nat×At)->Option (List Tt)
 |ts,[]=>some ts
 |ts,(i,x)::r=>match pl i,qC x with
  |some (off,size),some cs=>match Nat.beq cs.length size&&Nat.ble (off+cs.length) ts.length&&cs.all Tt.sure with
   |true=>sE pl (overw ts off cs) r
   |false=>none
  |_,_=>none
def kJ(s:St)(ps:Array (Nat×Operand)):List (Nat×At):=ps.toList.map fun x=>(x.1,evA s x.2)
def vN(P:Program)(t:TypeId)(b:List (Nat×At))(k:At->Prop):Prop:=
 match zst P t with
 |some (zs,a)=>match sE (a[·]?) (zs.map ui) b with
  |some ts=>k (.one (.agg ts))
  |none=>False
 |none=>False
def Dc(P:Program)(b a:TypeId)(x:At)(k:At->Prop):Prop:=
 match(ty P b).k,(ty P a).k with
 |.int _,.int κ=>match x with
  |.one (.c (.d c))=>match rR c with
   |some (_,n)=>k (sct (mkC κ (κ.wrap n)))
   |none=>False
  |_=>False
 |.sl e,.str=>match(ty P e).k with
  |.int .u8=>match x with
   |.one (.c (.d (.li .b8 l)))=>k (sct (.s l))
   |.one (.c .nil)=>k (sct (.s []))
   |_=>False
  |_=>False
 |_,_=>False
def vG(P:Program)(s:St)(t:TypeId)(d:Tmp)(k:St->Prop):Prop:=
 match zcells P t with
 |some (z::zs)=>match Nat.blt d 1000000 with
  |true=>k (((s.fresh (og t d)).root (og t d) ⟨true,(z::zs).map ui,none⟩).put (some d) (.one (.c (.pl ⟨og t d,0,[]⟩))))
  |false=>False
 |_=>False
def RD(s:St)(x:Operand)(d:Tmp)(k:St->Prop):Prop:=
 match qC (evA (s.fresh (.loc d)) x)with
 |some (t::ts)=>match(t::ts).all Tt.sure&&Nat.blt d 1000000 with
  |true=>k (((s.fresh (.loc d)).root (.loc d) ⟨true,t::ts,none⟩).put (some d) (.one (.c (.pl ⟨.loc d,0,[]⟩))))
  |false=>False
 |_=>False
def Ut:=List (TypeId×U)
def Ut.get:Ut->TypeId->Option U
 |[],_=>none
 |(t,u)::r,i=>match Nat.beq t i with
  |true=>some u
  |false=>Ut.get r i
def BQ(u:U)(c:Tt):Option (El u):=
 match c with
 |.d .nm=>match u with
  |.mp _ _=>some none
  |_=>none
 |.d c=>jL u c
 |.nil=>match u with
  |.sl _=>some []
  |_=>none
 |_=>none
def lr:(us:List U)->List Tt->Option (Fl us)
 |[],[]=>some ()
 |u::r,c::cs=>match BQ u c,lr r cs with
  |some x,some y=>some (Fl.cons u r x y)
  |_,_=>none
 |_,_=>none
def nF(u:U)(ts:List Tt):Option (El u):=
 match u with
 |.st n=>match lr (sd n).fs ts with
  |some y=>some ((sd n).mkF y)
  |none=>none
 |u=>match ts with
  |[t]=>BQ u t
  |_=>none
def lu(u:U):List (List Tt)->Option (List (El u))
 |[]=>some []
 |r::rs=>match nF u r,lu u rs with
  |some x,some xs=>some (x::xs)
  |_,_=>none
def Tt.noRf:Tt->Bool
 |.rf _=>false
 |_=>true
def At.noRf:At->Bool
 |.one (.c t)=>t.noRf
 |.one (.agg ts)=>ts.all Tt.noRf
 |_=>true
def gW(P:Program)(E:Ut)(s0:St)(t:TypeId)(len:Nat)(ps:Array (Nat×Operand))(d:Tmp)(k:St->Prop):Prop:=
 match(ty P t).k with
 |.sl e=>match E.get e,zcells P e with
  |some u,some _=>match(ty P e).ok&&Nat.beq (nc u) (ty P e).size&&Nat.ble (len*nc u) 16777216&&Nat.ble len 16777216 with
   |true=>
    let s1:=fb s0 (ps.toList.map fun x=>evA s0 x.2)
    let s:=s1.fresh (.gh d)
    match sE (fun i=>some (i*nc u,nc u)) (List.replicate (len*nc u) .any) (kJ s ps),(kJ s1 ps).all (fun x=>x.2.noRf)with
    |some ts,true=>match lu u (chunk (nc u) len ts)with
     |some l=>k ((s.root (.gh d) ⟨false,[.ow (List.replicate (nc u) .fr) u l],none⟩).put (some d) (.one (.c (.rf ⟨.gh d,0,[]⟩))))
     |none=>False
    |_,_=>False
   |false=>False
  |_,_=>False
 |_=>False
def Tt.owned:Tt->Bool
 |.ow _ _ _=>true
 |.mp _ _ _=>true
 |.mo _ _ _ _=>true
 |.it _ _ _ _=>true
 |_=>false
def La(u:U)(x:El u)(off:Nat)(c:C):Option (El u):=match(flat u x)[off]? with
 |some _=>unflat u ((flat u x).set off c)
 |none=>none
def Li(sub:List Sh)(u:U)(l:List (El u))(t:Tt):List Step->Option (List (El u))
 |[]=>none
 |[st]=>match sub[st.off]?,t with
  |some .fr,.d c=>match La u (l.getD st.idx (dflt u)) st.off c with
   |some x=>some (l.set st.idx x)
   |none=>none
  |some .fr,.nil=>match(flat u (l.getD st.idx (dflt u)))[st.off]? with
   |some (.li u' _)=>match La u (l.getD st.idx (dflt u)) st.off (.li u' [])with
    |some x=>some (l.set st.idx x)
    |none=>none
   |_=>none
  |_,_=>none
 |st::a::r=>match sub[st.off]?,(flat u (l.getD st.idx (dflt u)))[st.off]? with
  |some (.ow s),some (.li u' l')=>match Li s u' l' t (a::r)with
   |some b=>match La u (l.getD st.idx (dflt u)) st.off (.li u' b)with
    |some x=>some (l.set st.idx x)
    |none=>none
   |none=>none
  |_,_=>none
mutual
def Lm:Sh->Sh->Bool
 |.fr,.fr=>true
 |.ow a,.ow b=>mf a b
 |_,_=>false
def mf:List Sh->List Sh->Bool
 |[],[]=>true
 |a::r,b::q=>Lm a b&&mf r q
 |_,_=>false
end
def Jd(sub:List Sh)(u:U)(l:List (El u))(sh:List Sh)(v:U)(c:List (El v)):List Step->Option (List (El u))
 |[]=>none
 |[st]=>match sub[st.off]?,(flat u (l.getD st.idx (dflt u)))[st.off]? with
  |some (.ow s),some _=>match mf s sh,La u (l.getD st.idx (dflt u)) st.off (.li v c)with
   |true,some x=>some (l.set st.idx x)
   |_,_=>none
  |_,_=>none
 |st::a::r=>match sub[st.off]?,(flat u (l.getD st.idx (dflt u)))[st.off]? with
  |some (.ow s),some (.li u' l')=>match Jd s u' l' sh v c (a::r)with
   |some b=>match La u (l.getD st.idx (dflt u)) st.off (.li u' b)with
    |some x=>some (l.set st.idx x)
    |none=>none
   |none=>none
  |_,_=>none
def frs(sub:List Sh)(off:Nat):Nat->Bool
 |0=>true
 |n+1=>match sub[off]? with
  |some .fr=>frs sub (off+1) n
  |_=>false
def kH(cs:List C)(off:Nat):List Tt->Option (List C)
 |[]=>some cs
 |.d c::r=>match c,cs[off]? with
  |.any,_=>none
  |c,some _=>kH (cs.set off c) (off+1) r
  |_,none=>none
 |.nil::r=>match cs[off]? with
  |some (.li u' _)=>kH (cs.set off (.li u' [])) (off+1) r
  |_=>none
 |_=>none
def u5(sub:List Sh)(u:U)(l:List (El u))(ts:List Tt):List Step->Option (List (El u))
 |[]=>none
 |[st]=>match frs sub st.off ts.length,kH (flat u (l.getD st.idx (dflt u))) st.off ts with
  |true,some cs=>match unflat u cs with
   |some x=>some (l.set st.idx x)
   |none=>none
  |_,_=>none
 |st::a::r=>match sub[st.off]?,(flat u (l.getD st.idx (dflt u)))[st.off]? with
  |some (.ow s),some (.li u' l')=>match u5 s u' l' ts (a::r)with
   |some b=>match La u (l.getD st.idx (dflt u)) st.off (.li u' b)with
    |some x=>some (l.set st.idx x)
    |none=>none
   |none=>none
  |_,_=>none
def sV(sub:List Sh)(u:U)(l:List (El u)):List Step->Prop->Prop
 |[],_=>False
 |[st],k=>st.idx<l.length/\k
 |st::a::r,k=>match sub[st.off]?,(flat u (l.getD st.idx (dflt u)))[st.off]? with
  |some (.ow s),some (.li u' l')=>st.idx<l.length/\sV s u' l' (a::r) k
  |_,_=>False
def sD:List Step->List Step->Prop->Prop
 |[],[],p=>p
 |a::r,b::q,p=>match Nat.beq a.esz b.esz&&Nat.beq a.off b.off with
  |true=>a.idx=b.idx/\sD r q p
  |false=>False
 |_,_,_=>False
def KW(s:St)(p:Pl)(t:Tt)(k:St->Prop):Prop:=
 match cw s.m p.root with
 |none=>False
 |some r=>match p.path,r.hole,r.cells[p.off]? with
  |[],none,some t0=>match t0.owned with
   |false=>k ⟨s.nx+1,s.t,eI s.m p.root s.nx { r with cells:=r.cells.set p.off t }⟩
   |true=>False
  |st::q,none,some (.ow sub u l)=>match Li sub u l t (st::q)with
   |some l'=>sV sub u l (st::q) (k ⟨s.nx+1,s.t,eI s.m p.root s.nx { r with cells:=r.cells.set p.off (.ow sub u l') }⟩)
   |none=>False
  |st::q,some (off,a,c),some (.ow sub u l)=>match Nat.beq off p.off,t with
   |true,.ow sh v b=>match Jd sub u l sh v b (st::q)with
    |some l'=>sV sub u l (st::q) (sD (a::c) (st::q) (k ⟨s.nx+1,s.t,eI s.m p.root s.nx ⟨r.blk,r.cells.set p.off (.ow sub u l'),none⟩⟩))
    |none=>False
   |_,_=>False
  |_,_,_=>False
def aiM:Tt->Bool
 |.d _=>true
 |.nil=>true
 |_=>false
def ad5(p:Pl)(ts:List Tt):Bool:=!p.path.isEmpty&&Nat.blt 1 ts.length&&ts.all aiM
def rb(s:St)(p:Pl)(ts:List Tt)(k:St->Prop):Prop:=
 match cw s.m p.root with
 |none=>False
 |some r=>match p.path,r.hole,r.cells[p.off]? with
  |st::q,none,some (.ow sub u l)=>match u5 sub u l ts (st::q)with
   |some l'=>sV sub u l (st::q) (k ⟨s.nx+1,s.t,eI s.m p.root s.nx { r with cells:=r.cells.set p.off (.ow sub u l') }⟩)
   |none=>False
  |_,_,_=>False
def jY(s:St)(p:Pl):List Tt->(St->Prop)->Prop
 |[],k=>k s
 |.rf q::ts,k=>match cw s.m q.root with
  |some ⟨false,[.ow sub u l],none⟩=>match q.path,decide (q.root=p.root),ts.all fun t=>!t.ment q.root with
   |[],false,true=>KW (s.drop q.root) p (.ow sub u l) fun s'=>jY s' (p.add 1) ts k
   |_,_,_=>False
  |_=>False
 |.any::_,_=>False
 |.d .any::_,_=>False
 |t::ts,k=>KW s p t fun s'=>jY s' (p.add 1) ts k
def wR(P:Program)(s:St)(t:TypeId)(x v:At)(k:St->Prop):Prop:=
 match x,qC v with
 |.one (.c (.pl p)),some ts=>match(ty P t).ok&&Nat.beq ts.length (ty P t).size&&pI s.m p (ts.length - 1)with
  |true=>match ad5 p ts with
   |true=>rb s p ts k
   |false=>jY s p ts k
  |false=>False
 |_,_=>False
def YP(s:St)(q:Pl):Option St:=
 match cw s.m q.root with
 |none=>none
 |some r=>match q.path,r.hole with
  |[],none=>some ⟨s.nx+1,oO (thr q) s.nx s.t,cT (thr q) s.nx (eI s.m q.root s.nx { r with cells:=r.cells.set q.off .any })⟩
  |st::p,none=>some ⟨s.nx+1,oO (thr q) s.nx s.t,cT (thr q) s.nx (eI s.m q.root s.nx { r with hole:=some (q.off,st,p) })⟩
  |_,_=>none
def agP(u:U):At->Option (List (El u))
 |.one (.c .nil)=>some []
 |.one (.c (.d (.li u' l)))=>xu u' u l
 |.one (.c (.d (.s b)))=>match u with
  |.b8=>some b
  |_=>none
 |_=>none
def pe(s:St)(u:U):At->Option (St×List Sh×List (El u))
 |.one (.c .nil)=>some (s,List.replicate (nc u) .fr,[])
 |.one (.c (.rf q))=>match sliceAt s.m q with
  |some ⟨sub,u',l⟩=>match xu u' u l,Nat.beq sub.length (nc u),YP s q with
   |some l',true,some s'=>some (s',sub,l')
   |_,_,_=>none
  |none=>none
 |_=>none
def qw(P:Program)(E:Ut)(a:St)(t u0:TypeId)(x y:Operand)(d:Tmp)(k:St->Prop):Prop:=
 let s:=gZ a (evA a y)
 match(ty P t).k with
 |.sl e=>match E.get e,zcells P e with
  |some u,some z=>match(ty P e).ok&&(ty P u0).k.isSS&&Nat.beq z.length (ty P e).size&&Nat.beq (nc u) (ty P e).size with
   |true=>match agP u (evA s y),pe s u (evA s x)with
    |some b,some (s1,sub,l)=>match sub.all Sh.isFr with
     |true=>(l.length+b.length<=4611686018427387904/\(l.length+b.length)*(ty P e).bytes<=140737488355328) /\
      k (((s1.fresh (.gh d)).root (.gh d) ⟨false,[.ow sub u (l++b)],none⟩).put (some d) (.one (.c (.rf ⟨.gh d,0,[]⟩))))
     |false=>False
    |_,_=>False
   |false=>False
  |_,_=>False
 |_=>False
def qa:List Sh->List Tt->Bool
 |[],[]=>true
 |.fr::r,_::ts=>qa r ts
 |.ow _::r,.nil::ts=>qa r ts
 |_,_=>false
def fJ(P:Program)(E:Ut)(sub:List Sh)(s0:St)(t:TypeId)(len:Nat)(ps:Array (Nat×Operand))(d:Tmp)(k:St->Prop):Prop:=
 match(ty P t).k with
 |.sl e=>match E.get e,zcells P e with
  |some u,some _=>match(ty P e).ok&&Nat.beq (nc u) (ty P e).size&&Nat.ble (len*nc u) 16777216&&Nat.ble len 16777216&&Nat.beq sub.length (nc u)with
   |true=>
    let s1:=fb s0 (ps.toList.map fun x=>evA s0 x.2)
    let s:=s1.fresh (.gh d)
    match sE (fun i=>some (i*nc u,nc u)) (List.replicate (len*nc u) .any) (kJ s ps),(kJ s1 ps).all (fun x=>x.2.noRf)with
    |some ts,true=>match lu u (chunk (nc u) len ts),qa (List.replicate len sub).flatten ts with
     |some l,true=>k ((s.root (.gh d) ⟨false,[.ow sub u l],none⟩).put (some d) (.one (.c (.rf ⟨.gh d,0,[]⟩))))
     |_,_=>False
    |_,_=>False
   |false=>False
  |_,_=>False
 |_=>False
def D6:List Tt->Nat->Option (Nat×Pl)
 |[],_=>none
 |.rf q::_,j=>some (j,q)
 |_::r,j=>D6 r (j+1)
def agM(sub:List Sh)(s:St)(ps:Array (Nat×Operand)):Bool:=match kJ s ps with
 |[(0,.one (.agg ts))]=>match D6 ts 0 with
  |some (j,_)=>match sub[j]? with
   |some (.ow _)=>true
   |_=>false
  |none=>false
 |_=>false
def fK(P:Program)(E:Ut)(sub:List Sh)(s:St)(t:TypeId)(len:Nat)(ps:Array (Nat×Operand))(d:Tmp)(k:St->Prop):Prop:=
 match(ty P t).k with
 |.sl e=>match E.get e,zcells P e,kJ s ps with
  |some u,some _,[(0,.one (.agg ts))]=>match D6 ts 0 with
   |some (j,q)=>match sub[j]?,sliceAt s.m q with
    |some (.ow b),some ⟨_,u',_⟩=>match pe s u' (.one (.c (.rf q)))with
     |some (s1,a,l')=>match(ty P e).ok&&Nat.beq (nc u) (ty P e).size&&Nat.ble (nc u) 16777216&&Nat.beq len 1&&Nat.beq sub.length (nc u)&&Nat.beq ts.length (nc u)&&(mf a b&&((ts.set j .nil).all Tt.noRf&&qa sub (ts.set j .nil))),lu u [ts.set j (.d (.li u' l'))]with
      |true,some l=>k (((s1.fresh (.gh d)).root (.gh d) ⟨false,[.ow sub u l],none⟩).put (some d) (.one (.c (.rf ⟨.gh d,0,[]⟩))))
      |_,_=>False
     |none=>False
    |_,_=>False
   |none=>False
  |_,_,_=>False
 |_=>False
def mq(P:Program)(E:Ut)(s:St)(t u0:TypeId)(x y:Operand)(d:Tmp)(k:St->Prop):Prop:=
 match(ty P t).k with
 |.sl e=>match E.get e,zcells P e with
  |some u,some z=>match(ty P e).ok&&(ty P u0).k.isSS&&Nat.beq z.length (ty P e).size&&Nat.beq (nc u) (ty P e).size with
   |true=>match pe s u (evA s y)with
    |some (s1,a,b)=>match pe s1 u (evA s1 x)with
     |some (s2,sub,l)=>match mf a sub with
      |true=>(l.length+b.length<=4611686018427387904/\(l.length+b.length)*(ty P e).bytes<=140737488355328) /\
       k (((s2.fresh (.gh d)).root (.gh d) ⟨false,[.ow sub u (l++b)],none⟩).put (some d) (.one (.c (.rf ⟨.gh d,0,[]⟩))))
      |false=>False
     |none=>False
    |none=>False
   |false=>False
  |_,_=>False
 |_=>False
def af9(s:St):At->Bool
 |.one (.c (.rf q))=>match sliceAt s.m q with
  |some ⟨sub,_,_⟩=>!(sub.all Sh.isFr)
  |none=>false
 |_=>false
def WW(sub:List Sh):List Step->Bool
 |[]=>false
 |[st]=>match sub[st.off]? with
  |some .fr=>true
  |_=>false
 |st::a::r=>match sub[st.off]? with
  |some (.ow s)=>WW s (a::r)
  |_=>false
def afP(m:List (Nm×Nat×Rt))(p:Pl):Bool:=
 match cw m p.root with
 |none=>false
 |some r=>match p.path,r.hole,r.cells[p.off]? with
  |st::q,none,some (.ow sub _ _)=>WW sub (st::q)
  |_,_,_=>false
def adL(m:List (Nm×Nat×Rt))(n:Nm):Bool:=
 match cw m n with
 |some r=>r.blk
 |none=>false
def xz(s:St)(p:Pl):List Tt->St
 |[]=>s
 |.rf q::ts=>match afP s.m p||adL s.m q.root with
  |true=>xz (ul s q) (p.add 1) ts
  |false=>xz s (p.add 1) ts
 |_::ts=>xz s (p.add 1) ts
def Jr(s:St)(x v:At):St:=
 match x,qC v with
 |.one (.c (.pl p)),some ts=>xz s p ts
 |_,_=>s
abbrev PKt:=Value->St->Prop
abbrev CKt:=PKt->St->List Operand->(St->At->Prop)->Prop
abbrev CTt:=List (Nat×CKt)
def CTt.get:CTt->Nat->Option CKt
 |[],_=>none
 |(f,c)::r,i=>match Nat.beq f i with
  |true=>some c
  |false=>CTt.get r i
def Xl:At->Bool
 |.one (.c (.d (.s _)))=>true
 |_=>false
structure En where
 P:Program
 E:Ut
 cs:CTt
 sh:List (TypeId×List Sh)
 pk:PKt
def iB:List (TypeId×List Sh)->TypeId->Option (List Sh)
 |[],_=>none
 |(t,u)::r,i=>match Nat.beq t i with
  |true=>some u
  |false=>iB r i
def aiR(e:En)(t:TypeId):Option (List Sh):=match(ty e.P t).k with
 |.sl el=>iB e.sh el
 |_=>none
def AM(a:Nat):List Sh->Nat->St->St
 |[],_,s=>s
 |.fr::r,j,s=>AM a r (j+1) s
 |.ow _::r,j,s=>match gtA s.t a with
  |.one (.agg ts)=>match ts[j]? with
   |some (.rf q)=>match q.path,adL s.m q.root,sliceAt s.m q with
    |[],true,some ⟨_,u,_⟩=>match pe s u (.one (.c (.rf q)))with
     |some (s1,sub,l)=>
      let s2:=(s1.fresh (.gh (700000+j))).root (.gh (700000+j)) ⟨false,[.ow sub u l],none⟩
      match gtA s2.t a with
      |.one (.agg b)=>AM a r (j+1) (s2.put (some a) (.one (.agg (b.set j (.rf ⟨.gh (700000+j),0,[]⟩)))))
      |_=>AM a r (j+1) s2
     |none=>AM a r (j+1) s
    |_,_,_=>AM a r (j+1) s
   |_=>AM a r (j+1) s
  |_=>s
def NR(sh:List (TypeId×List Sh))(s:St)(t:TypeId)(v:Operand):St:=match iB sh (t+1000000),v with
 |some l,.tmp a=>AM a l 0 s
 |_,_=>s
def afO:At->Option Nat
 |.one (.c (.d (.v (.func (.func f) a b))))=>match a.size,b.size with
  |0,0=>some f
  |_,_=>none
 |.one (.c (.d (.fn c)))=>match c.caps with
  |[]=>some c.fn
  |_=>none
 |_=>none
def I2:At->Option Nat
 |.one (.c (.d (.fn c)))=>some (c.fn+1000000)
 |_=>none
def tdC:List Tt->Option (List C)
 |[]=>some []
 |.d c::r=>match c with
  |.any=>none
  |c=>(tdC r).map (c::·)
 |_=>none
def Tt.frB(n:Nm)(row:List C):Tt->Tt
 |.pl p=>match p.path with
  |[]=>if p.root=n then .el row p.off else .pl p
  |_=>(Tt.pl p).kill (bU n)
 |t=>t.kill (bU n)
def Jo(s:St)(n:Nm):St:=match cw s.m n with
 |some ⟨true,cells,none⟩=>match tdC cells with
  |some row=>⟨s.nx+1,s.t.map fun x=>(x.1,stp (x.2.2.hit (bU n)) s.nx x.2.1,x.2.2.map (Tt.frB n row)),cT (bU n) s.nx (gi s.m n)⟩
  |none=>s
 |_=>s
def rN:St->List At->St
 |s,[]=>s
 |s,.one (.c (.pl ⟨n,_,[]⟩))::r=>rN (Jo s n) r
 |s,_::r=>rN s r
def IZ(row:List C):List U->Option Lt.Cap
 |[]=>none
 |n::r=>match unflat n row with
  |some x=>match afF n x with
   |some c=>some c
   |none=>IZ row r
  |none=>IZ row r
def ET(s:St):List Operand->Option (List Lt.Cap)
 |[]=>some []
 |x::r=>match evA s x with
  |.one (.c (.el row 0))=>match Nat.beq row.length 1,IZ row aiI,ET s r with
   |false,some c,some cs=>some (c::cs)
   |_,_,_=>none
  |_=>none
def kc(s0:St)(f:Nat)(caps:List Operand)(d:Option Tmp)(k:St->Prop):Prop:=
 let s:=rN s0 (caps.map (evA s0))
 match ET s caps with
 |some cs=>k (s.put d (sct (.fn ⟨f,cs⟩)))
 |none=>False
def uO1(P:Program)(t:TypeId):Option U:=match(ty P t).k with
 |.str=>some .s
 |.bool=>some .bo
 |.int .u8=>some .b8
 |.int k=>some (.i k)
 |_=>none
def uOf(P:Program)(E:Ut)(t:TypeId):Option U:=match(ty P t).k with
 |.sl e=>match E.get e with
  |some u=>some (.sl u)
  |none=>none
 |.mp k v=>match uO1 P k,uO1 P v with
  |some a,some b=>some (.mp a b)
  |_,_=>none
 |_=>uO1 P t
def jA(P:Program)(t:TypeId):U->Bool
 |.s=>decide ((ty P t).k=.str)
 |.bo=>decide ((ty P t).k=.bool)
 |.i k=>decide ((ty P t).k=.int k)
 |_=>false
def lX:(u:U)->El u->El u->Bool
 |.i _,a,b=>decide ((a:Int)=b)
 |.bo,a,b=>(a:Bool)==b
 |.s,a,b=>decide ((a:List UInt8)=b)
 |_,_,_=>false
variable{β:Type}
def aw(ku:U):List (El ku×β)->El ku->Option β
 |[],_=>none
 |x::l,k=>match lX ku x.1 k with
  |true=>some x.2
  |false=>aw ku l k
def bV(ku:U):List (El ku×β)->El ku->β->List (El ku×β)
 |[],k,v=>[(k,v)]
 |x::l,k,v=>match lX ku x.1 k with
  |true=>(k,v)::l
  |false=>x::bV ku l k v
def zOK(P:Program)(t:TypeId)(u:U):Bool:=match(P.info? t).bind (·.zero),u with
 |some (.int k n),.i k'=>decide (k=k')&&decide (n=0)&&decide (k≠.u8)
 |some (.bool b),.bo=>!b
 |some (.string s),.s=>s.data.toList.isEmpty
 |some (.slice none 0 0),.sl _=>true
 |some (.map none),.mp _ _=>true
 |_,_=>false
def wt(m:List (Nm×Nat×Rt))(p:Pl):Option ((ku:U)×(vu:U)×List (El ku×El vu)):=match p with
 |⟨n,0,[]⟩=>match cw m n with
  |some ⟨false,[.mp ku vu l],none⟩=>some ⟨ku,vu,l⟩
  |_=>none
 |_=>none
def wo(m:List (Nm×Nat×Rt))(n:Nm):Option ((ku:U)×(u:U)×List (El ku×List (El u))×Option (El ku)):=match cw m n with
 |some ⟨false,[.mo ku u l h],none⟩=>some ⟨ku,u,l,h⟩
 |_=>none
def ahZ(s:St):At->Bool
 |.one (.c (.rf ⟨n,0,[]⟩))=>(wo s.m n).isSome
 |_=>false
def Yu(vu:U)(ok:Bool)(r:Option (El vu)):At:=match ok with
 |true=>.tup [.c (.d (am vu (r.getD (dflt vu)))),.c (.d (.bo r.isSome))]
 |false=>.one (.c (.d (am vu (r.getD (dflt vu)))))
def jy(P:Program)(E:Ut)(own:Bool)(s:St)(t:TypeId)(d:Tmp)(k:St->Prop):Prop:=match(ty P t).k with
 |.mp kt et=>match uOf P E kt,uOf P E et,own with
  |some ku,some vu,false=>k (((s.fresh (.gh d)).root (.gh d) ⟨false,[.mp ku vu []],none⟩).put (some d) (.one (.c (.rf ⟨.gh d,0,[]⟩))))
  |some ku,some (.sl u),true=>k (((s.fresh (.gh d)).root (.gh d) ⟨false,[.mo ku u [] none],none⟩).put (some d) (.one (.c (.rf ⟨.gh d,0,[]⟩))))
  |_,_,_=>False
 |_=>False
def qQ(P:Program)(m:List (Nm×Nat×Rt))(t:TypeId)(x key:At)(ok:Bool)(k:At->Prop):Prop:=match(ty P t).k with
 |.mp kt et=>match x,key with
  |.one (.c (.rf p)),.one (.c (.d c))=>match wt m p with
   |some ⟨ku,vu,l⟩=>match jA P kt ku&&zOK P et vu,jL ku c with
    |true,some kx=>k (Yu vu ok (aw ku l kx))
    |_,_=>False
   |none=>False
  |.one (.c (.d (.mp ku vu z))),.one (.c (.d c))=>match jA P kt ku&&(zOK P et vu&&leaf vu),jL ku c with
   |true,some kx=>k (Yu vu ok (aw ku (z.getD []) kx))
   |_,_=>False
  |_,_=>False
 |_=>False
def qU(P:Program)(s:St)(t:TypeId)(x key v:At)(k:St->Prop):Prop:=match(ty P t).k with
 |.mp kt _=>match x,key,v with
  |.one (.c (.rf p)),.one (.c (.d c)),.one (.c tv)=>match wt s.m p with
   |some ⟨ku,vu,l⟩=>match jA P kt ku&&leaf vu,jL ku c,nF vu [tv]with
    |true,some kx,some a=>k ⟨s.nx+1,s.t,eI s.m p.root s.nx ⟨false,[.mp ku vu (bV ku l kx a)],none⟩⟩
    |_,_,_=>False
   |none=>False
  |_,_,_=>False
 |_=>False
def sB(ku:U):List (El ku×β)->El ku->List (El ku×β)
 |[],_=>[]
 |x::l,k=>match lX ku x.1 k with
  |true=>l
  |false=>x::sB ku l k
def qO(P:Program)(s:St)(t:TypeId)(x key:At)(k:St->Prop):Prop:=match(ty P t).k with
 |.mp kt _=>match x,key with
  |.one (.c (.rf p)),.one (.c (.d c))=>match wt s.m p with
   |some ⟨ku,vu,l⟩=>match jA P kt ku,jL ku c with
    |true,some kx=>k ⟨s.nx+1,s.t,eI s.m p.root s.nx ⟨false,[.mp ku vu (sB ku l kx)],none⟩⟩
    |_,_=>False
   |none=>False
  |_,_=>False
 |_=>False
def mU(P:Program)(s:St)(t:TypeId)(x key:Operand)(d:Tmp)(k:St->Prop):Prop:=match(ty P t).k with
 |.mp kt et=>
  let s1:=s.fresh (.gh d)
  match evA s1 x,evA s1 key with
  |.one (.c (.rf ⟨n,0,[]⟩)),.one (.c (.d c))=>match wo s1.m n with
   |some ⟨ku,u,l,none⟩=>match jA P kt ku&&zOK P et (.sl u),jL ku c with
    |true,some kx=>k (((⟨s1.nx+1,s1.t,eI s1.m n s1.nx ⟨false,[.mo ku u l (some kx)],none⟩⟩:St).root (.gh d) ⟨false,[.ow (List.replicate (nc u) .fr) u ((aw ku l kx).getD [])],none⟩).put (some d) (.one (.c (.rf ⟨.gh d,0,[]⟩))))
    |_,_=>False
   |_=>False
  |_,_=>False
 |_=>False
def qS(P:Program)(s:St)(t:TypeId)(x key v:At)(k:St->Prop):Prop:=match(ty P t).k with
 |.mp kt _=>match x,key,v with
  |.one (.c (.rf ⟨n,0,[]⟩)),.one (.c (.d c)),.one (.c (.rf ⟨q,0,[]⟩))=>match wo s.m n,cw s.m q with
   |some ⟨ku,u,l,h⟩,some ⟨false,[.ow sub u' rows],none⟩=>match jA P kt ku&&(mf sub (List.replicate (nc u) .fr)&&!(decide (q=n))),jL ku c,xu u' u rows with
    |true,some kx,some a=>(match h with
     |some k0=>kx=k0
     |none=>True)/\(let s1:=s.drop q;k ⟨s1.nx+1,s1.t,eI s1.m n s1.nx ⟨false,[.mo ku u (bV ku l kx a) none],none⟩⟩)
    |_,_,_=>False
   |_,_=>False
  |_,_,_=>False
 |_=>False
def wI(P:Program)(s0:St)(t:TypeId)(x:Operand)(d:Tmp)(k:St->Prop):Prop:=
 let s:=gZ s0 (evA s0 x)
 match(ty P t).k with
 |.mp kt _=>match evA (s.fresh (.gh d)) x with
  |.one (.c (.d (.mp ku vu z)))=>match jA P kt ku&&leaf vu with
   |true=>k (((s.fresh (.gh d)).root (.gh d) ⟨false,[.it ku vu none (z.getD [])],none⟩).put (some d) (.one (.c (.rf ⟨.gh d,0,[]⟩))))
   |false=>False
  |_=>False
 |_=>False
def aa5(m:List (Nm×Nat×Rt)):At->Option (Nm×((ku:U)×(vu:U)×Option (El ku×El vu)×List (El ku×El vu)))
 |.one (.c (.rf ⟨n,0,[]⟩))=>match cw m n with
  |some ⟨false,[.it ku vu cur rest],none⟩=>some (n,⟨ku,vu,cur,rest⟩)
  |_=>none
 |_=>none
def DG(s:St)(x:At)(d:Option Tmp)(k:St->Prop):Prop:=match aa5 s.m x with
 |some (n,⟨ku,vu,_,rest⟩)=>(rest=[]->k (s.put d (.tup [.c (.d (.bo false))])))/\∀i,i<rest.length ->
   k ((⟨s.nx+1,s.t,eI s.m n s.nx ⟨false,[.it ku vu (some (rest.getD i (dflt ku,dflt vu))) (rest.eraseIdx i)],none⟩⟩:St).put d
    (.tup [.c (.d (.bo true)),.c (.d (am ku (rest.getD i (dflt ku,dflt vu)).1)),.c (.d (am vu (rest.getD i (dflt ku,dflt vu)).2))]))
 |none=>False
def qE(s:St)(x:At)(d:Option Tmp)(k:St->Prop):Prop:=match aa5 s.m x with
 |some (_,⟨ku,vu,some y,_⟩)=>k (s.put d (.tup [.c (.d (am ku y.1)),.c (.d (am vu y.2))]))
 |_=>False
def qR(s:St)(x:At)(d:Tmp)(k:St->Prop):Prop:=match x with
 |.one (.c (.d (.mp _ _ z)))=>(z.getD []).length<=4611686018427387904/\k (s.put (some d) (sct (.i .i64 ((z.getD []).length:Int))))
 |.one (.c (.rf p))=>match wt s.m p with
  |some ⟨_,_,l⟩=>l.length<=4611686018427387904/\k (s.put (some d) (sct (.i .i64 (l.length:Int))))
  |none=>False
 |_=>False
def agA(e:En)(o:Oper):Bool:=match o.op,o.dst with
 |.slice _ _ none (some _) none,some d=>(iB e.sh (3000000+d)).isSome
 |.assign _,some d=>(iB e.sh (5000000+d)).isSome
 |.call c,some _=>match c.callee,c.argTypes.toList with
  |.builtin .len,[t]=>match(ty e.P t).k with
   |.mp _ _=>true
   |_=>false
  |_,_=>false
 |.indexAddr _ _ _,some d=>(iB e.sh (8000000+d)).isSome
 |_,_=>false
def m0(e:En)(s:St)(t:TypeId)(x hi:Operand)(d:Tmp)(k:St->Prop):Prop:=match(ty e.P t).k with
 |.sl el=>match evA s x,evA s hi with
  |.one (.c (.rf q)),.one (.c (.d (.i .i64 n)))=>match sliceAt s.m q with
   |some ⟨_,u,_⟩=>match(ty e.P el).ok,pe s u (.one (.c (.rf q)))with
    |true,some (s1,sub,l)=>(0<=n/\n.toNat<=l.length)/\k (((s1.fresh (.gh d)).root (.gh d) ⟨false,[.ow sub u (l.take n.toNat)],none⟩).put (some d) (.one (.c (.rf ⟨.gh d,0,[]⟩))))
    |_,_=>False
   |none=>False
  |_,_=>False
 |_=>False
def qP(s:St)(x:Operand)(d:Tmp)(k:St->Prop):Prop:=match evA s x with
 |.one (.c (.rf ⟨n,0,[]⟩))=>match wo s.m n with
  |some ⟨ku,u,l,none⟩=>k ((⟨s.nx+1,s.t,eI s.m n s.nx ⟨false,[.mp ku (.sl u) l],none⟩⟩:St).put (some d) (.one (.c (.rf ⟨n,0,[]⟩))))
  |_=>False
 |_=>False
def By:List C->Option (List (List UInt8))
 |[]=>some []
 |.s x::r=>match By r with
  |some l=>some (x::l)
  |none=>none
 |_=>none
def Lp(e:En)(o:Oper)(s:St)(k:St->Prop):Prop:=match o.op,o.dst with
 |.slice t x none (some hi) none,some d=>m0 e s t x hi d k
 |.assign x,some d=>qP s x d k
 |.call c,some d=>match c.args.toList with
  |[x]=>qR s (evA s x) d k
  |_=>False
 |.indexAddr t x i,some d=>
  let s1:=rN s [evA s x]
  match evA s1 x with
  |.one (.c (.el row 0))=>match By row with
   |some l=>gP e.P s1.m t (.one (.c (.ga .s l 0))) (evA s1 i) fun v=>k (s1.put (some d) v)
   |none=>False
  |_=>False
 |_,_=>False
def YB:List Sh->U->Bool
 |[.fr],_=>true
 |[.ow _],.sl _=>true
 |_,_=>false
def Gf:Operand->Operand->Bool
 |.tmp a,.tmp b=>Nat.beq a b
 |_,_=>false
def iZ(e:En)(s:St)(t:TypeId)(n c:At)(same:Bool)(d:Tmp)(k:St->Prop):Prop:=match(ty e.P t).k,same with
 |.sl el,true=>match n with
  |.one (.c (.d (.i .i64 n)))=>match e.E.get el with
   |some u=>match zOK e.P el u&&Nat.beq (ty e.P el).size 1&&YB ((iB e.sh el).getD [.fr]) u with
    |true=>(0<=n/\n<=4611686018427387904/\(ty e.P el).bytes*n.toNat<=281474976710656) /\
     k (((s.fresh (.gh d)).root (.gh d) ⟨false,[.ow ((iB e.sh el).getD [.fr]) u (List.replicate n.toNat (dflt u))],none⟩).put (some d) (.one (.c (.rf ⟨.gh d,0,[]⟩))))
    |false=>False
   |none=>False
  |_=>False
 |_,_=>False
def KR(s:St)(o:Oper):St:=
 match o.op with
 |.convert _ _ x=>gZ s (evA s x)
 |.slice _ x _ _ _=>gZ s (evA s x)
 |_=>s
def qT(e:En)(o:Oper)(s:St)(k:At->Prop):Prop:=
 match o.op with
 |.move x=>k (evA s x)
 |.assign x=>k (evA s x)
 |.pick c x y=>DO (evA s c) (evA s x) (evA s y) k
 |.binOp op t x y _=>Rx e.P op t (evA s x) (evA s y) k
 |.unOp op _ x=>unT op (evA s x) k
 |.load t x=>mQ e.P s.m t (evA s x) k
 |.field t x i=>vX e.P t (evA s x) i k
 |.fieldAddr t x i=>iU e.P s.m t (evA s x) i k
 |.indexAddr t x i=>gP e.P s.m t (evA s x) (evA s i) k
 |.index t x i=>match(ty e.P t).k with
  |.str=>wU (evA s x) (evA s i) k
  |_=>False
 |.extract x i=>mD (evA s x) i k
 |.convert b a x=>Dc e.P b a (evA s x) k
 |.slice t x lo hi none=>wP e.P t (evA s x) (lo.map (evA s)) (hi.map (evA s)) k
 |.nilCheck x=>ke (evA s x) k
 |.build t ps=>vN e.P t (kJ s ps) k
 |.call c=>match c.callee,c.args.toList,c.argTypes.toList with
  |.builtin .len,[x],[t]=>match AA (ty e.P t).k (Xl (evA s x))with
   |true=>Tx o.guard s.m (evA s x) fun n=>k (sct (.i .i64 (n:Int)))
   |false=>False
  |_,_,_=>False
 |_=>False
def lT(e:En)(o:Oper)(s:St)(k:St->Prop):Prop:=
 match o.op with
 |.store t x v=>let s0:=NR e.sh s t v;let s1:=Jr s0 (evA s0 x) (evA s0 v);wR e.P s1 t (evA s1 x) (evA s1 v) fun s'=>k (s'.put o.dst .any)
 |.alloc t=>match o.dst with
  |some d=>vG e.P s t d k
  |none=>False
 |.box _ x=>match o.dst with
  |some d=>RD s x d k
  |none=>False
 |.buildSlice t n ps=>match o.dst with
  |some d=>match aiR e t with
   |none=>gW e.P e.E s t n ps d k
   |some sub=>match agM sub s ps with
    |true=>fK e.P e.E sub s t n ps d k
    |false=>fJ e.P e.E sub s t n ps d k
  |none=>False
 |.call c=>match c.callee,c.args.toList,c.argTypes.toList with
  |.builtin .append,[x,y],[t,u]=>match o.dst with
   |some d=>match af9 s (evA s x)with
    |false=>qw e.P e.E s t u x y d k
    |true=>mq e.P e.E s t u x y d k
   |none=>False
  |.builtin .delete,[x,i],t::_=>qO e.P s t (evA s x) (evA s i) fun s'=>k (s'.put o.dst (.tup []))
  |.value (.func f),args,_=>match e.cs.get f,Nat.blt f 1000000 with
   |some C,true=>C e.pk s args fun s' av=>k (s'.put o.dst av)
   |_,_=>False
  |.value (.tmp t),args,_=>match Nat.blt t 100000,afO (gtA s.t t)with
   |true,some f=>match e.cs.get f,Nat.blt f 1000000 with
    |some C,true=>C e.pk s args fun s' av=>k (s'.put o.dst av)
    |_,_=>False
   |true,none=>match I2 (gtA s.t t)with
    |some f=>match e.cs.get f with
     |some C=>C e.pk s (.tmp t::args) fun s' av=>k (s'.put o.dst av)
     |none=>False
    |none=>False
   |_,_=>False
  |_,_,_=>False
 |.makeMap t r=>match o.dst,r with
  |some d,none=>jy e.P e.E (iB e.sh (4000000+t)).isSome s t d k
  |some d,some x=>match evA s x with
   |.one (.c (.d (.i _ _)))=>jy e.P e.E (iB e.sh (4000000+t)).isSome s t d k
   |_=>False
  |none,_=>False
 |.lookup t x i ok=>match ahZ s (evA s x),ok,o.dst with
  |true,false,some d=>mU e.P s t x i d k
  |_,_,_=>qQ e.P s.m t (evA s x) (evA s i) ok fun v=>k (s.put o.dst v)
 |.mapUpdate t m i v=>match ahZ s (evA s m)with
  |true=>qS e.P s t (evA s m) (evA s i) (evA s v) fun s'=>k (s'.put o.dst .any)
  |false=>let s1:=gZ s (evA s v);qU e.P s1 t (evA s1 m) (evA s1 i) (evA s1 v) fun s'=>k (s'.put o.dst .any)
 |.makeSlice t n c=>match o.dst with
  |some d=>iZ e s t (evA s n) (evA s c) (Gf n c) d k
  |none=>False
 |.makeFunc fn first caps=>match fn,first.toList with
  |.func f,[]=>kc s f caps.toList o.dst k
  |_,_=>False
 |.range t x=>match o.dst with
  |some d=>wI e.P s t x d k
  |none=>False
 |.next x false=>DG s (evA s x) o.dst k
 |.entry x=>qE s (evA s x) o.dst k
 |_=>False
def FP(e:En)(o:Oper)(s:St)(k:St->Prop):Prop:=
 match isQ o with
 |true=>let s1:=KR s o;qT e o s1 fun v=>k (s1.put o.dst v)
 |false=>lT e o s k
def opT(e:En)(o:Oper)(s:St)(k:St->Prop):Prop:=
 match agA e o with
 |true=>Lp e o s k
 |false=>FP e o s k
def dand(p:Prop)[d:Decidable p](b:Bool):Bool:=match d with
 |.isTrue _=>b
 |.isFalse _=>false
def vK(x:Option At)(d:Nat)(k:Nat->Bool):Bool:=
 match x with
 |none=>k d
 |some (.one (.c (.d (.i _ n))))=>dand (0<=n) (k n.toNat)
 |_=>false
def sliceB(P:Program)(t:TypeId)(x:At)(lo hi:Option At)(k:At->Bool):Bool:=
 match x with
 |.one (.c (.d (.s l)))=>match(ty P t).k with
  |.str=>vK lo 0 fun a=>vK hi l.length fun b=>dand ((a<=b/\b<=l.length)) (k (sct (.s ((l.drop a).take (b-a)))))
  |_=>false
 |.one (.c (.d (.li u l)))=>match(ty P t).k with
  |.sl e=>match(ty P e).ok&&Nat.beq (nc u) (ty P e).size with
   |true=>vK lo 0 fun a=>vK hi l.length fun b=>dand ((a<=b/\b<=l.length)) (k (sct (.li u ((l.drop a).take (b-a)))))
   |false=>false
  |_=>false
 |.one (.c .nil)=>match(ty P t).k with
  |.sl e=>match(ty P e).ok with
   |true=>vK lo 0 fun a=>vK hi 0 fun b=>dand (a<=b/\b<=0) (k (.one (.c .nil)))
   |false=>false
  |_=>false
 |_=>false
def oo(e:En)(all:List Oper):List Oper->St->(St->Prop)->Prop
 |[],s,k=>k s
 |o::r,s,k=>match o.guard with
  |none=>opT e o s fun s'=>oo e all r s' k
  |some (j,want)=>match(all[j]?).bind (·.dst)with
   |some d=>match gtA s.t d with
    |.one (.c (.d (.bo c)))=>match want with
     |true=>if c=true then opT e o (s.put (some d) (sct (.bo true))) fun s'=>oo e all r s' k
      else oo e all r ((s.put (some d) (sct (.bo false))).put o.dst (.tup [])) k
     |false=>if c=true then oo e all r ((s.put (some d) (sct (.bo true))).put o.dst (.tup [])) k
      else opT e o (s.put (some d) (sct (.bo false))) fun s'=>oo e all r s' k
    |.tup []=>oo e all r (s.put o.dst (.tup [])) k
    |_=>False
   |none=>False
def St.clr(s:St):St:=⟨s.nx,[],s.m⟩
abbrev En.cl(e:En):En:=⟨e.P,e.E,e.cs,e.sh,fun v s=>e.pk v s.clr⟩
def Xk:At->Bool
 |.one (.c (.el _ _))=>true
 |.one (.c (.ga _ _ _))=>true
 |_=>false
def nM(s:St)(o:Oper):Bool:=
 match o.op with
 |.load _ x=>Xk (evA s x)
 |_=>true
def ahK(ops:Array Oper)(listed:Array Bool)(i:Nat):List Nat:=
 (List.range ops.size).foldl (fun A j=>if unlisted listed j&&!(Nat.beq j i)&&(match ops[j]? with
  |some o=>o.after.any fun e=>Region.binds .any e&&unlisted listed e.on&&(Nat.beq e.on i||A.contains e.on)
  |none=>false)then j::A else A) []
def A2(ops:Array Oper)(listed:Array Bool)(s:St):List Nat->Option (Nat×List Nat×Bool)
 |[]=>none
 |i::r=>match ops[i]? with
  |none=>A2 ops listed s r
  |some o=>match isQ o with
   |false=>A2 ops listed s r
   |true=>match nM s o with
    |true=>match BB ops listed i [] true with
     |true=>some (i,[],true)
     |false=>A2 ops listed s r
    |false=>match BB ops listed i (ahK ops listed i) false with
     |true=>some (i,ahK ops listed i,false)
     |false=>A2 ops listed s r
def gT(ops:List Oper)(o:Oper)(s:St)(f:St->Prop)(no:St->Prop):Prop:=
 match o.guard with
 |none=>f s
 |some (j,want)=>match(ops[j]?).bind (·.dst)with
  |some d=>match gtA s.t d with
   |.one (.c (.d (.bo c)))=>match want with
    |true=>if c=true then f (s.put (some d) (sct (.bo true)))else no ((s.put (some d) (sct (.bo false))).put o.dst (.tup []))
    |false=>if c=true then no ((s.put (some d) (sct (.bo true))).put o.dst (.tup []))else f (s.put (some d) (sct (.bo false)))
   |.tup []=>no (s.put o.dst (.tup []))
   |_=>False
  |none=>False
def VK(f:Nat->Prop):List Nat->Prop
 |[]=>True
 |[i]=>f i
 |i::r=>f i/\VK f r
def jP(e:En)(ops:Array Oper):Nat->Array Bool->St->(St->Prop)->Prop
 |0,listed,s,k=>match Region.ready .any ops listed with
  |[]=>k s
  |_=>False
 |n+1,listed,s,k=>match Region.ready .any ops listed with
  |[]=>k s
  |a::b=>match A2 ops listed s (a::b)with
   |some (i,_,fz)=>match ops[i]? with
    |some o=>match o.guard with
     |none=>let s1:=KR s o;qT e o s1 fun v=>jP e ops n (listed.setIfInBounds i true) (s1.put o.dst v) k
     |some _=>gT ops.toList o s (fun s=>match !fz||nM s o with
      |true=>qT e o s fun v=>jP e ops n (listed.setIfInBounds i true) (s.put o.dst v) k
      |false=>False) (fun s=>jP e ops n (listed.setIfInBounds i true) s k)
    |none=>False
   |none=>VK (fun i=>match ops[i]? with
    |some o=>gT ops.toList o s (fun s=>FP e.cl o s fun s'=>jP e ops n (listed.setIfInBounds i true) s' k) (fun s=>jP e ops n (listed.setIfInBounds i true) s k)
    |none=>False) (a::b)
inductive Sp where
 |sl (k:Nat) (u:U)
 |ow (k:Nat) (sh:List Sh) (u:U)
 |rt (n:Nm) (sh:List Sh) (u:U)
 |mp (n:Nm) (ku vu:U)
 |mo (n:Nm) (ku u:U)
 |it (n:Nm) (ku vu:U)
 |gw (n:Nm) (sh:List Sh) (u:U)
abbrev Sp.ty:Sp->Type
 |.sl _ u=>El u
 |.ow _ _ u=>List (El u)
 |.rt _ _ u=>El u
 |.mp _ ku vu=>List (El ku×El vu)
 |.mo _ ku u=>List (El ku×List (El u))
 |.it _ ku vu=>List (El ku×El vu)
 |.gw _ _ u=>List (El u)
abbrev FSp:List Sp->Type
 |[]=>Unit
 |[p]=>p.ty
 |p::q::r=>p.ty×FSp (q::r)
def FSp.cons:(p:Sp)->(r:List Sp)->p.ty->FSp r->FSp (p::r)
 |_,[],x,_=>x
 |_,_::_,x,y=>(x,y)
def FSp.hd:(p:Sp)->(r:List Sp)->FSp (p::r)->p.ty
 |_,[],x=>x
 |_,_::_,x=>x.1
def FSp.tl:(p:Sp)->(r:List Sp)->FSp (p::r)->FSp r
 |_,[],_=>()
 |_,_::_,x=>x.2
theorem sa(p:Sp)(r:List Sp)(x:p.ty)(y:FSp r):FSp.hd p r (FSp.cons p r x y)=x:=by cases r<;>rfl
theorem sb(p:Sp)(r:List Sp)(x:p.ty)(y:FSp r):FSp.tl p r (FSp.cons p r x y)=y:=by cases r<;>rfl
def I0(ku vu b a:U)(l:List (El ku×El vu)):Option (List (El b×El a)):=if h:ku=b/\vu=a then some (h.1 ▸ h.2 ▸ l)else none
structure Sg where
 ks:List Nat
 kr:List Nm
 ps:List (Nat×Nm×Nat)
 sp:List Sp
def BC:(u:U)->El u->At
 |.st n,x=>.one (.agg ((flat (.st n) x).map Tt.d))
 |u,x=>sct (am u x)
def Cm:(u:U)->El u->A1
 |.st n,x=>.agg ((flat (.st n) x).map Tt.d)
 |u,x=>.c (.d (am u x))
def jV(k:Nat):Nm:=.gh (900000+k)
def bO:List Sh->List C->List Tt
 |.ow s::r,.li u l::cs=>.ow s u l::bO r cs
 |_::r,c::cs=>.d c::bO r cs
 |_,_=>[]
def dF:List Sh->List C->List Tt
 |.ow []::r,_::cs=>.nil::dF r cs
 |.ow (a::b)::r,.li u l::cs=>.ow (a::b) u l::dF r cs
 |_::r,c::cs=>.d c::dF r cs
 |_,_=>[]
def unmark:List Sh->List Sh
 |[]=>[]
 |.ow []::r=>.fr::unmark r
 |s::r=>s::unmark r
def cD:List (Nat×Nat×At)->Nat->Option (Nat×At)
 |[],_=>none
 |(k,j,v)::t,i=>match Nat.beq k i with
  |true=>some (j,v)
  |false=>cD t i
def cX:List (Nm×Nat×Rt)->Nm->Option (Nat×Rt)
 |[],_=>none
 |(k,j,v)::t,i=>if k=i then some (j,v)else cX t i
def lY(nx:Nat):(sp:List Sp)->FSp sp->List (Nat×Nat×At)
 |[],_=>[]
 |.sl k u::r,x=>(k,nx,BC u (FSp.hd (.sl k u) r x))::lY nx r (FSp.tl (.sl k u) r x)
 |.ow k sh u::r,x=>(k,nx,.one (.c (.rf ⟨jV k,0,[]⟩)))::lY nx r (FSp.tl (.ow k sh u) r x)
 |.rt n sh u::r,x=>lY nx r (FSp.tl (.rt n sh u) r x)
 |.mp n ku vu::r,x=>lY nx r (FSp.tl (.mp n ku vu) r x)
 |.mo n ku u::r,x=>lY nx r (FSp.tl (.mo n ku u) r x)
 |.it n ku vu::r,x=>lY nx r (FSp.tl (.it n ku vu) r x)
 |.gw n sh u::r,x=>lY nx r (FSp.tl (.gw n sh u) r x)
def fj(nx:Nat):(sp:List Sp)->FSp sp->List (Nm×Nat×Rt)
 |[],_=>[]
 |.sl k u::r,x=>fj nx r (FSp.tl (.sl k u) r x)
 |.ow k sh u::r,x=>(jV k,nx,⟨false,[.ow sh u (FSp.hd (.ow k sh u) r x)],none⟩)::fj nx r (FSp.tl (.ow k sh u) r x)
 |.rt n sh u::r,x=>(n,nx,⟨true,dF sh (flat u (FSp.hd (.rt n sh u) r x)),none⟩)::fj nx r (FSp.tl (.rt n sh u) r x)
 |.mp n ku vu::r,x=>(n,nx,⟨false,[.mp ku vu (FSp.hd (.mp n ku vu) r x)],none⟩)::fj nx r (FSp.tl (.mp n ku vu) r x)
 |.mo n ku u::r,x=>(n,nx,⟨false,[.mo ku u (FSp.hd (.mo n ku u) r x) none],none⟩)::fj nx r (FSp.tl (.mo n ku u) r x)
 |.it n ku vu::r,x=>(n,nx,⟨false,[.it ku vu none (FSp.hd (.it n ku vu) r x)],none⟩)::fj nx r (FSp.tl (.it n ku vu) r x)
 |.gw n sh u::r,x=>(n,nx,⟨false,[.ow sh u (FSp.hd (.gw n sh u) r x)],none⟩)::fj nx r (FSp.tl (.gw n sh u) r x)
def Ds(t:List (Nat×Nat×At)):List Nat->List (Nat×Nat×At)
 |[]=>[]
 |k::r=>match cD t k with
  |some (j,v)=>(k,j,v)::Ds t r
  |none=>Ds t r
def pL(m:List (Nm×Nat×Rt)):List Nm->List (Nm×Nat×Rt)
 |[]=>[]
 |k::r=>match cX m k with
  |some (j,v)=>(k,j,v)::pL m r
  |none=>pL m r
def Sg.st(σ:Sg)(s:St)(x:FSp σ.sp):St:=⟨s.nx+1,Ds s.t σ.ks++(σ.ps.map (fun p=>(p.1,s.nx,.one (.c (.pl ⟨p.2.1,p.2.2,[]⟩))))++lY s.nx σ.sp x),pL s.m σ.kr++fj s.nx σ.sp x⟩
def KJ(s:St)(k:Nat)(sh:List Sh)(u:U):St:=
 match gtA s.t k with
 |.one (.c .nil)=>
  let s1:=s.fresh (jV k)
  ⟨s1.nx+1,(k,s1.nx,.one (.c (.rf ⟨jV k,0,[]⟩)))::s1.t,(jV k,s1.nx,⟨false,[.ow sh u []],none⟩)::s1.m⟩
 |.one (.c (.rf ⟨n,0,[]⟩))=>match decide (n=jV k),cw s.m n with
  |false,some ⟨false,[.ow a u' l],none⟩=>
   let s1:=(s.drop n).fresh (jV k)
   ⟨s1.nx+1,(k,s1.nx,.one (.c (.rf ⟨jV k,0,[]⟩)))::s1.t,(jV k,s1.nx,⟨false,[.ow a u' l],none⟩)::s1.m⟩
  |_,_=>s
 |_=>s
def bR(s:St)(n:Nm)(us:List U):List Sh->Nat->St
 |[],_=>s
 |.ow sh::r,off=>match cw s.m n with
  |some ⟨true,cells,none⟩=>match cells[off]?,us[off]? with
   |some .nil,some (.sl u)=>bR ⟨s.nx+1,s.t,eI s.m n s.nx ⟨true,cells.set off (.ow sh u []),none⟩⟩ n us r (off+1)
   |_,_=>bR s n us r (off+1)
  |_=>s
 |.fr::r,off=>match cw s.m n with
  |some ⟨true,cells,none⟩=>match cells[off]? with
   |some (.ow _ _ _)=>bR (ul s ⟨n,off,[]⟩) n us r (off+1)
   |_=>bR s n us r (off+1)
  |_=>s
def kw:U->List U
 |.st n=>(sd n).fs
 |u=>[u]
def prep:List Sp->St->St
 |[],s=>s
 |.sl k _::r,s=>prep r (gZ s (gtA s.t k))
 |.ow k sh u::r,s=>prep r (KJ s k sh u)
 |.rt n sh u::r,s=>prep r (bR s n (kw u) (unmark sh) 0)
 |.mp _ _ _::r,s=>prep r s
 |.mo _ _ _::r,s=>prep r s
 |.it _ _ _::r,s=>prep r s
 |.gw _ _ _::r,s=>prep r s
mutual
def ah6:Sh->Sh->Bool
 |.fr,.fr=>true
 |.ow a,.ow b=>p9 a b
 |_,_=>false
def p9:List Sh->List Sh->Bool
 |[],[]=>true
 |a::r,b::q=>ah6 a b&&p9 r q
 |_,_=>false
end
def Wx(u:U):A1->Option (El u)
 |.c t=>match leaf u with
  |true=>nF u [t]
  |false=>none
 |.agg ts=>match leaf u with
  |true=>none
  |false=>nF u ts
def pq(u:U):At->Option (El u)
 |.one x=>Wx u x
 |_=>none
def iH:List Sh->List Tt->Option (List Tt)
 |[],[]=>some []
 |.ow s::r,.ow s' u l::cs=>match p9 s s',iH r cs with
  |true,some x=>some (.d (.li u l)::x)
  |_,_=>none
 |.fr::r,.d c::cs=>match iH r cs with
  |some x=>some (.d c::x)
  |none=>none
 |.fr::r,.nil::cs=>match iH r cs with
  |some x=>some (.nil::x)
  |none=>none
 |_,_=>none
def iJ:List Sh->List Tt->Option (List Tt)
 |[],[]=>some []
 |.ow []::r,.nil::cs=>match iJ r cs with
  |some x=>some (.nil::x)
  |none=>none
 |.ow (a::b)::r,.ow s' u l::cs=>match p9 (a::b) s',iJ r cs with
  |true,some x=>some (.d (.li u l)::x)
  |_,_=>none
 |.fr::r,.d c::cs=>match iJ r cs with
  |some x=>some (.d c::x)
  |none=>none
 |.fr::r,.nil::cs=>match iJ r cs with
  |some x=>some (.nil::x)
  |none=>none
 |_,_=>none
def LB(s:St):(p:Sp)->Option p.ty
 |.sl k u=>pq u (gtA s.t k)
 |.ow k sh u=>match gtA s.t k,cw s.m (jV k)with
  |.one (.c (.rf ⟨n,0,[]⟩)),some ⟨false,[.ow b u' l],none⟩=>match decide (n=jV k),p9 sh b with
   |true,true=>xu u' u l
   |_,_=>none
  |_,_=>none
 |.rt n sh u=>match cw s.m n with
  |some ⟨true,cells,none⟩=>match iJ sh cells with
   |some ts=>nF u ts
   |none=>none
  |_=>none
 |.mp n ku vu=>match cw s.m n with
  |some ⟨false,[.mp a d l],none⟩=>I0 a d ku vu l
  |_=>none
 |.mo n ku u=>match cw s.m n with
  |some ⟨false,[.mo a u' l none],none⟩=>I0 a (.sl u') ku (.sl u) l
  |_=>none
 |.it n ku vu=>match cw s.m n with
  |some ⟨false,[.it a d _ l],none⟩=>I0 a d ku vu l
  |_=>none
 |.gw n sh u=>match cw s.m n with
  |some ⟨false,[.ow b u' l],none⟩=>match p9 sh b with
   |true=>xu u' u l
   |false=>none
  |_=>none
def unS(s:St):(sp:List Sp)->Option (FSp sp)
 |[]=>some ()
 |p::r=>match LB s p,unS s r with
  |some x,some y=>some (FSp.cons p r x y)
  |_,_=>none
def Sp.rn:Sp->List Nm
 |.sl _ _=>[]
 |.ow k _ _=>[jV k]
 |.rt n _ _=>[n]
 |.mp n _ _=>[n]
 |.mo n _ _=>[n]
 |.it n _ _=>[n]
 |.gw n _ _=>[n]
def Sg.rn(σ:Sg):List Nm:=σ.kr++σ.sp.flatMap Sp.rn
def Tt.inR(rs:List Nm):Tt->Bool
 |.pl p=>rs.contains p.root
 |.rf p=>rs.contains p.root
 |_=>true
def A1.inR(rs:List Nm):A1->Bool
 |.c t=>t.inR rs
 |.agg ts=>ts.all (·.inR rs)
def At.inR(rs:List Nm):At->Bool
 |.one x=>x.inR rs
 |.tup xs=>xs.all (·.inR rs)
 |.any=>true
def FI:List Nm->Bool
 |[]=>true
 |n::r=>!r.contains n&&FI r
def aaM(s0 s:St)(rs:List Nm):List Nat->Bool
 |[]=>true
 |k::r=>(match cD s0.t k,cD s.t k with
  |some (j,_),some (j',v)=>Nat.beq j j'&&Nat.blt j s0.nx&&v.inR rs
  |_,_=>false)&&aaM s0 s rs r
def SI(s0 s:St)(rs:List Nm):List Nm->Bool
 |[]=>true
 |k::r=>(match cX s0.m k,cX s.m k with
  |some (j,_),some (j',v)=>Nat.beq j j'&&Nat.blt j s0.nx&&v.cells.all (·.inR rs)
  |_,_=>false)&&SI s0 s rs r
def aaL(s:St)(rs:List Nm):List (Nat×Nm×Nat)->Bool
 |[]=>true
 |(k,n,o)::r=>(match gtA s.t k with
  |.one (.c (.pl ⟨n',o',[]⟩))=>decide (n'=n)&&Nat.beq o' o&&rs.contains n
  |_=>false)&&aaL s rs r
def Sg.fit(σ:Sg)(s0 s:St):Bool:=FI σ.rn&&aaL s σ.rn σ.ps&&aaM s0 s σ.rn σ.ks&&SI s0 s σ.rn σ.kr
def jn(σ:Sg)(s0:St)(J:FSp σ.sp->Prop)(s:St):Prop:=
 let s1:=prep σ.sp s
 match σ.fit s0 s1 with
 |true=>match unS s1 σ.sp with
  |some x=>J x
  |none=>False
 |false=>False
variable{α:Type}
def aa(A:(α->Prop)->Prop)(B:α->Prop):Prop:=∀J:α->Prop,(∀x,B x->J x)->A J
def mT(body:(α->Prop)->α->Prop):Nat->α->Prop
 |0,_=>False
 |n+1,x=>body (mT body n) x
def ab(body:(α->Prop)->α->Prop)(x:α):Prop:=∃n,mT body n x
inductive An where
 |l
 |s (a b:An)
 |j (σ:Sg) (a b:An)
 |c (a b:An)
 |b (a:An)
 |lp (σ:Sg) (a:An)
 |a (t:Nat) (n:Nm) (x y:An)
 |un (n:Nat) (a:An)
def An.pick:An->St->An
 |.a t n x y,st0=>match gtA st0.t t with
  |.one (.c (.pl p))=>match decide (p.root=n)with
   |true=>x
   |false=>y
  |_=>y
 |an,_=>an
structure Kt where
 n:St->Prop
 x:Nat->St->Prop
 r:St->Prop
def AG(body:(St->Prop)->St->Prop):Nat->St->Prop
 |0,_=>False
 |n+1,s=>body (AG body n) s
def wpT(e:En):An->Code->St->Kt->Prop
 |_,.skip,s,K=>K.n s
 |_,.region _ ops false,s,K=>oo e ops.toList ops.toList s K.n
 |_,.region _ ops true,s,K=>jP e ops ops.size (Array.replicate ops.size false) s K.n
 |.s a b,.seq x y,s,K=>wpT e a x s ⟨fun s'=>wpT e (b.pick s') y s' K,K.x,K.r⟩
 |.j σ a b,.seq x y,s,K=>aa (fun J=>wpT e a x s ⟨jn σ s J,K.x,K.r⟩) (fun v=>wpT e b y (σ.st s v) K)
 |.c a b,.cond (.tmp t) x y,s,K=>match gtA s.t t with
  |.one (.c (.d (.bo c)))=>if c=true then wpT e a x s K else wpT e b y s K
  |_=>False
 |.b a,.block id x,s,K=>wpT e a x s ⟨K.n,fun i s'=>match Nat.beq i id with
  |true=>K.n s'
  |false=>K.x i s',K.r⟩
 |.lp σ a,.loop x,s,K=>
  let s1:=prep σ.sp s
  match σ.fit s1 s1 with
  |true=>match unS s1 σ.sp with
   |some f=>ab (fun R v=>wpT e a x (σ.st s1 v) ⟨jn σ s1 R,K.x,K.r⟩) f
   |none=>False
  |false=>False
 |.un n a,.loop x,s,K=>AG (fun R s'=>wpT e a x s' ⟨R,K.x,K.r⟩) n s
 |_,.exit id,s,K=>K.x id s
 |_,.ret,s,K=>K.r s
 |_,_,_,_=>False
def gy:(us:List U)->Fl us->At
 |[],_=>.tup []
 |[u],x=>BC u x
 |u::v::r,x=>.tup (resL (u::v::r) x)
where resL:(us:List U)->Fl us->List A1
 |[],_=>[]
 |u::r,x=>Cm u (Fl.hd u r x)::resL r (Fl.tl u r x)
def dc:(us:List U)->List At->Option (Fl us)
 |[],[]=>some ()
 |u::r,v::vs=>match pq u v,dc r vs with
  |some x,some y=>some (Fl.cons u r x y)
  |_,_=>none
 |_,_=>none
def zZ(s:St)(n:Nm):Nat->St
 |0=>s
 |i+1=>ul (zZ s n i) ⟨n,i,[]⟩
def E4(s:St):ResultVar->St
 |.tmp t=>gZ s (gtA s.t t)
 |.cell a _=>match gtA s.t a with
  |.one (.c (.pl p))=>match cw s.m p.root with
   |some r=>zZ s p.root r.cells.length
   |none=>s
  |_=>s
def pE:St->List ResultVar->St
 |s,[]=>s
 |s,r::rs=>pE (E4 s r) rs
def rj(P:Program)(s:St)(k:At->Prop):ResultVar->Prop
 |.tmp t=>k (gtA s.t t)
 |.cell a t=>match gtA s.t a with
  |.one (.c (.pl p))=>match cw s.m p.root with
   |some r=>match r.hole.isNone&&r.cells.all (fun t=>!t.owned)with
    |true=>mQ P s.m t (gtA s.t a) k
    |false=>False
   |none=>False
  |_=>False
def eQ(P:Program)(s:St):List ResultVar->(List At->Prop)->Prop
 |[],k=>k []
 |r::rs,k=>rj P s (fun v=>eQ P s rs fun vs=>k (v::vs)) r
def uW(P:Program)(rs:List ResultVar)(us:List U)(KK:Fl us->Prop)(s:St):Prop:=
 eQ P (pE s rs) rs fun vs=>match dc us vs with
  |some x=>KK x
  |none=>False
def phT(ps rs:List U)(a:Fl ps->(Fl rs->Prop)->(Value->Prop)->Prop):CKt:=fun pk s ops k=>
 let s1:=fb s (ops.map (evA s))
 match dc ps (ops.map (evA s1))with
 |some x=>a x (fun y=>k s1 (gy rs y)) (fun v=>pk v s1)
 |none=>False
abbrev uP(ps rs:List U)(pre:Fl ps->Prop)(f:Fl ps->Fl rs):CKt:=phT ps rs fun x K _=>pre x/\K (f x)
abbrev A9(ps rs:List U)(f:Fl ps->Fl rs):CKt:=phT ps rs fun x K _=>K (f x)
def lent(s:St)(v:At):At:=match v with
 |.one (.c (.rf p))=>match cw s.m p.root with
  |some r=>match r.hole,sliceAt s.m p with
   |none,some ⟨_,u,l⟩=>sct (.li u l)
   |_,_=>v
  |none=>v
 |v=>v
def scU:U->Bool
 |.i _=>true
 |.b8=>true
 |.bo=>true
 |.s=>true
 |_=>false
def Qi(ps rs:List U)(Φ:Fl ps->(Fl rs->Prop)->Prop):CKt:=fun _ s ops k=>
 match dc ps (ops.map fun x=>lent s (evA s x)),rs.all scU with
 |some x,true=>∃KK,Φ x KK/\∀y,KK y->k s (gy rs y)
 |_,_=>False
def XF(ps rs:List U)(pre:Fl ps->Prop)(f:Fl ps->Fl rs):CKt:=fun _ s ops k=>
 match dc ps (ops.map fun x=>lent s (evA s x)),rs.all scU with
 |some x,true=>pre x/\k s (gy rs (f x))
 |_,_=>False
def mr(r:Nm)(rf:Bool)(p:Pl):Bool:=decide (p.root=r)&&(rf||!p.path.isEmpty)
abbrev noP:PKt:=fun _ _=>False
def swP(w:List UInt8)(K:Nat->Prop)(df:Nat):List (List UInt8×Nat)->Prop
 |[]=>K df
 |(w0,f)::r=>if decide (w=w0)=true then K f else swP w K df r
def swT(a:List (List UInt8×Nat))(df:Nat):CKt:=fun _ s ops k=>
 let s1:=fb s (ops.map (evA s))
 match dc [.s] (ops.map (evA s1))with
 |some w=>swP w (fun f=>k s1 (sct (.v (.func (.func f) #[] #[])))) df a
 |none=>False
def exP(r:Except Value α×β)(K:α->β->Prop)(KP:Value->β->Prop):Prop:=match r.1 with
 |.ok a=>K a r.2
 |.error v=>KP v r.2
def exQ(r:Except Value α)(K:α->Prop)(KP:Value->Prop):Prop:=match r with
 |.ok a=>K a
 |.error v=>KP v
abbrev agF(ps rs:List U)(pre:Fl ps->Prop)(f:Fl ps->Except Value (Fl rs)):CKt:=phT ps rs fun x K KP=>pre x/\exQ (f x) K KP
def KU(sh:List Sh)(u:U)(ps rs:List U)(pre:El u->Fl ps->Prop)(f:El u->Fl ps->Except Value (Fl rs)×El u):CKt:=fun pk s ops k=>
 match ops with
 |[]=>False
 |o::os=>
  let s1:=fb s (os.map (evA s))
  match evA s1 o with
  |.one (.c (.pl ⟨r,0,[]⟩))=>
   let s2:=bR s1 r (kw u) sh 0
   match evA s2 o with
   |.one (.c (.pl ⟨a,0,[]⟩))=>match decide (a=r),r.tyd,cw s2.m r with
    |true,none,some ⟨true,cells,none⟩=>match iH sh cells with
     |some ts=>match nF u ts,dc ps (os.map (evA s2))with
      |some x,some y=>pre x y/\exP (f x y) (fun z x'=>k ⟨s2.nx+1,oO (mr r) s2.nx s2.t,(r,s2.nx,⟨true,bO sh (flat u x'),none⟩)::cT (mr r) s2.nx (gi s2.m r)⟩ (gy rs z))
        (fun v x'=>pk v ⟨s2.nx+1,oO (mr r) s2.nx s2.t,(r,s2.nx,⟨true,bO sh (flat u x'),none⟩)::cT (mr r) s2.nx (gi s2.m r)⟩)
      |_,_=>False
     |none=>False
    |_,_,_=>False
   |_=>False
  |_=>False
def ah2(v:Int->Value):CKt:=fun pk s ops _=>
 match dc [.i .i64] (ops.map (evA s))with
 |some n=>pk (v n) s
 |none=>False
def shT:List (Nat×Nat×At)->List (Nat×Nat×At)
 |[]=>[]
 |(k,j,v)::r=>(k+100000,j,v)::shT r
def wV:List (Nat×Nat×At)->List (Nat×Nat×At)
 |[]=>[]
 |(k,j,v)::r=>match Nat.ble 100000 k with
  |true=>(k - 100000,j,v)::wV r
  |false=>wV r
def EL(nx:Nat):Nat->List At->List (Nat×Nat×At)
 |_,[]=>[]
 |i,v::r=>(i,nx,v)::EL nx (i+1) r
def XI(P:Program)(m:List (Nm×Nat×Rt))(t:TypeId)(x:At):Option A1:=
 match(ty P t).ok,x with
 |true,.one (.c (.pl p))=>match(ty P t).agg with
  |true=>match atT m p (ty P t).size with
   |some ts=>some (.agg (F6 p ts))
   |none=>none
  |false=>match atT m p 1 with
   |some [t']=>some (.c (QC p t'))
   |_=>none
 |_,_=>none
def Ol(P:Program)(s:St):List ResultVar->Option (List A1)
 |[]=>some []
 |.tmp t::r=>match gtA s.t t,Ol P s r,Nat.blt t 100000 with
  |.one x,some xs,true=>some (x::xs)
  |_,_,_=>none
 |.cell a t::r=>match XI P s.m t (gtA s.t a),Ol P s r,Nat.blt a 100000 with
  |some x,some xs,true=>some (x::xs)
  |_,_,_=>none
def aiS:List A1->At
 |[x]=>.one x
 |xs=>.tup xs
def yg(P:Program)(res:List ResultVar)(k:St->At->Prop)(s:St):Prop:=
 match Ol P s res with
 |some xs=>k ⟨s.nx,wV s.t,s.m⟩ (aiS xs)
 |none=>False
def aaZ(e:En)(fn:Func)(an:An):CKt:=fun pk s ops k=>
 match Nat.ble ops.length fn.ntmps with
 |true=>wpT ⟨e.P,e.E,e.cs,e.sh,fun v s=>pk v ⟨s.nx,wV s.t,s.m⟩⟩ an (fn.body.getD .skip) ⟨s.nx+1,EL s.nx 0 (ops.map (evA s))++shT s.t,s.m⟩ ⟨yg e.P fn.results.toList k,fun _ _=>False,yg e.P fn.results.toList k⟩
 |false=>False
def acK(t:Nat)(C D:CKt):CKt:=fun pk s ops k=>match ops with
 |.tmp i::_=>match Nat.beq i t with
  |true=>C pk s ops k
  |false=>D pk s ops k
 |_=>D pk s ops k
def SC:Nat->(us:List U)->Fl us->List (Nat×Nat×At)
 |_,[],_=>[]
 |i,u::r,x=>(i,0,BC u (Fl.hd u r x))::SC (i+1) r (Fl.tl u r x)
def MM(us:List U)(x:Fl us):St:=⟨1,SC 0 us x,[]⟩
def IH(e:En)(fn:Func)(an:An)(ps rs:List U)(x:Fl ps)(KK:Fl rs->Prop):Prop:=
 wpT ⟨e.P,e.E,e.cs,e.sh,fun _ _=>False⟩ an (fn.body.getD .skip) (MM ps x) ⟨uW e.P fn.results.toList rs KK,fun _ _=>False,uW e.P fn.results.toList rs KK⟩
def vJ(e:En)(fn:Func)(an:An)(ps rs:List U)(x:Fl ps)(KK:Fl rs->Prop)(KP:Value->Prop):Prop:=
 wpT ⟨e.P,e.E,e.cs,e.sh,fun v _=>KP v⟩ an (fn.body.getD .skip) (MM ps x) ⟨uW e.P fn.results.toList rs KK,fun _ _=>False,uW e.P fn.results.toList rs KK⟩
def QF(P:Program)(res:List ResultVar)(sh:List Sh)(u:U)(rs:List U)(KK:Fl rs×El u->Prop)(s:St):Prop:=
 let s1:=bR (pE s res) (.out 0) (kw u) sh 0
 eQ P s1 res fun vs=>match dc rs vs,cw s1.m (.out 0)with
  |some x,some ⟨true,cells,none⟩=>match iH sh cells with
   |some ts=>match nF u ts with
    |some y=>KK (x,y)
    |none=>False
   |none=>False
  |_,_=>False
def Yw(sh:List Sh)(u:U)(KP:Value->El u->Prop)(v:Value)(s:St):Prop:=
 let s1:=bR s (.out 0) (kw u) sh 0
 match cw s1.m (.out 0)with
 |some ⟨true,cells,none⟩=>match iH sh cells with
  |some ts=>match nF u ts with
   |some y=>KP v y
   |none=>False
  |none=>False
 |_=>False
def yq(e:En)(fn:Func)(an:An)(sh:List Sh)(u:U)(ps rs:List U)(x:El u)(y:Fl ps)(KK:Fl rs×El u->Prop)(KP:Value->El u->Prop):Prop:=
 wpT ⟨e.P,e.E,e.cs,e.sh,Yw sh u KP⟩ an (fn.body.getD .skip) ⟨1,(0,0,.one (.c (.pl ⟨.out 0,0,[]⟩)))::SC 1 ps y,[(.out 0,0,⟨true,bO sh (flat u x),none⟩)]⟩ ⟨QF e.P fn.results.toList sh u rs KK,fun _ _=>False,QF e.P fn.results.toList sh u rs KK⟩
def Qz(e:En)(fn:Func)(an:An)(sh:List Sh)(u:U)(ps rs:List U):CKt:=fun pk s ops k=>
 match ops with
 |[]=>False
 |o::os=>
  let s1:=fb s (os.map (evA s))
  match evA s1 o with
  |.one (.c (.pl ⟨r,0,[]⟩))=>
   let s2:=bR s1 r (kw u) sh 0
   match evA s2 o with
   |.one (.c (.pl ⟨a,0,[]⟩))=>match decide (a=r),r.tyd,cw s2.m r with
    |true,none,some ⟨true,cells,none⟩=>match iH sh cells with
     |some ts=>match nF u ts,dc ps (os.map (evA s2))with
      |some x,some y=>∃(KK:Fl rs×El u->Prop)(KP:Value->El u->Prop),yq e fn an sh u ps rs x y KK KP /\
        (∀z x',KK (z,x')->k ⟨s2.nx+1,oO (mr r) s2.nx s2.t,(r,s2.nx,⟨true,bO sh (flat u x'),none⟩)::cT (mr r) s2.nx (gi s2.m r)⟩ (gy rs z)) /\
        ∀v x',KP v x'->pk v ⟨s2.nx+1,oO (mr r) s2.nx s2.t,(r,s2.nx,⟨true,bO sh (flat u x'),none⟩)::cT (mr r) s2.nx (gi s2.m r)⟩
      |_,_=>False
     |none=>False
    |_,_,_=>False
   |_=>False
  |_=>False
def gB(ops:List Oper)(o:Oper)(s:St)(f:St->Bool)(no:St->Bool):Bool:=
 match o.guard with
 |none=>f s
 |some (j,want)=>match(ops[j]?).bind (·.dst)with
  |some d=>match gtA s.t d with
   |.one (.c (.d (.bo c)))=>match want with
    |true=>if c=true then f (s.put (some d) (sct (.bo true)))else no ((s.put (some d) (sct (.bo false))).put o.dst (.tup []))
    |false=>if c=true then no ((s.put (some d) (sct (.bo true))).put o.dst (.tup []))else f (s.put (some d) (sct (.bo false)))
   |.tup []=>no (s.put o.dst (.tup []))
   |_=>false
  |none=>false
end Go.Am
end
