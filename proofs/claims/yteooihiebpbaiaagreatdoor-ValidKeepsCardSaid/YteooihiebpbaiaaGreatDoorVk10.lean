/-
  Part 10: AmWalk · AmPtrCon · AmOwn · AmPtrFn · AmAuto · AmArr · AmSem · AmData · AmU · AmMp · AmMq · AmE1 · AmE2.
-/
import Derived.Test.YteooihiebpbaiaaGreatDoorVk9
import Derived.IntWalk
set_option linter.unusedSimpArgs false
set_option linter.unusedVariables false
set_option linter.unusedSectionVars false
set_option linter.unnecessarySimpa false
section
namespace Go.Am
def TF(ks:List Nat)(t:List (Nat×AV)):List (Nat×AV):=ks.map fun k=>(k,aL t k)
def S.drops:List Nm->S->S
 |[],s=>s
 |n::ns,s=>S.drops ns (s.drop n)
def S.cut(ks:List Nat)(ds:List Nm)(s:S):S:=S.drops ds ⟨TF ks s.t,s.m⟩
section
variable {P:Program} {cs:CT} {g:G} {Q:Exit->S->Prop} {s:S}
def S.one(s:S)(d:Nat)(v:AV):S:=⟨(d,v)::s.t,s.m⟩
end
structure Rw (α:Type) where
 enc:α->List D
 dec:List D->Option α
 inv:∀l x,dec l=some x->l=enc x
structure Cd (α:Type) where
 enc:α->AV1
 dec:AV1->Option α
 inv:∀v x,dec v=some x->v=enc x
def cg{α:Type}(c:Rw α):List (List D)->Option (List α)
 |[]=>some []
 |r::rs=>match c.dec r with
  |some x=>match cg c rs with
   |some xs=>some (x::xs)
   |none=>none
  |none=>none
theorem au{α:Type}{c:Rw α}:∀{l:List (List D)}{xs:List α},cg c l=some xs->l=xs.map c.enc
 |[],xs,h=>by simp only[cg,WG]at h;subst h;rfl
 |r::rs,xs,h=>by
  simp only[cg]at h;cases h1:c.dec r with
  |none=>rw[h1]at h;simp at h
  |some x=>
   rw[h1]at h;cases h2:cg c rs with
   |none=>rw[h2]at h;simp at h
   |some ys=>
    rw[h2]at h;simp only[WG]at h;subst h;rw[c.inv r x h1,au h2];rfl
def tds:List T->Option (List D)
 |[]=>some []
 |.d x::ts=>match tds ts with
  |some xs=>some (x::xs)
  |none=>none
 |_=>none
theorem Jw:∀{ts:List T}{xs:List D},tds ts=some xs->ts=xs.map T.d
 |[],xs,h=>by simp only[tds,WG]at h;subst h;rfl
 |.d x::ts,xs,h=>by
  simp only[tds]at h;cases h2:tds ts with
  |none=>rw[h2]at h;simp at h
  |some ys=>
   rw[h2]at h;simp only[WG]at h;subst h;rw[Jw h2];rfl
 |.nil::_,_,h=>by simp[tds]at h
 |.ow _ _::_,_,h=>by simp[tds]at h
 |.el _ _::_,_,h=>by simp[tds]at h
 |.pl _::_,_,h=>by simp[tds]at h
 |.rf _::_,_,h=>by simp[tds]at h
 |.any::_,_,h=>by simp[tds]at h
def VC(k:IntKind):AV1->Option Int
 |.c (.d (.int k' n))=>if k'=k then some n else none
 |_=>none
def cI(k:IntKind):Cd Int where
 enc n:=.c (.d (.int k n))
 dec:=VC k
 inv v x h:=by
  unfold VC at h;split at h
  ·split at h
   ·rename_i e;subst e;simp only[WG]at h;subst h;rfl
   ·simp at h
  ·simp at h
def VB:AV1->Option Bool
 |.c (.d (.bool b))=>some b
 |_=>none
def cB:Cd Bool where
 enc b:=.c (.d (.bool b))
 dec:=VB
 inv v x h:=by unfold VB at h;split at h<;>simp at h;subst h;rfl
def VD:AV1->Option (List UInt8)
 |.c (.d (.str b))=>some b
 |_=>none
def cS:Cd (List UInt8) where
 enc b:=.c (.d (.str b))
 dec:=VD
 inv v x h:=by unfold VD at h;split at h<;>simp at h;subst h;rfl
def Tp{α:Type}(c:Rw α):AV1->Option (List α)
 |.c (.d (.li l))=>cg c l
 |_=>none
def cL{α:Type}(c:Rw α):Cd (List α) where
 enc l:=.c (.d (.li (l.map c.enc)))
 dec:=Tp c
 inv v x h:=by
  unfold Tp at h;split at h
  ·rw[au h]
  ·simp at h
def VA{α:Type}(c:Rw α):AV1->Option α
 |.agg ts=>match tds ts with
  |some l=>c.dec l
  |none=>none
 |_=>none
def cA{α:Type}(c:Rw α):Cd α where
 enc x:=.agg ((c.enc x).map T.d)
 dec:=VA c
 inv v x h:=by
  unfold VA at h;split at h
  ·rename_i ts;cases h1:tds ts with
   |none=>rw[h1]at h;simp at h
   |some l=>rw[h1]at h;rw[Jw h1,c.inv _ _ h]
  ·simp at h
def Tn:List D->Option (List UInt8)
 |[.str b]=>some b
 |_=>none
def rS:Rw (List UInt8) where
 enc b:=[.str b]
 dec:=Tn
 inv l x h:=by unfold Tn at h;split at h<;>simp at h;subst h;rfl
def Tm(k:IntKind):List D->Option Int
 |[.int k' n]=>if k'=k then some n else none
 |_=>none
def rI(k:IntKind):Rw Int where
 enc n:=[.int k n]
 dec:=Tm k
 inv l x h:=by
  unfold Tm at h;split at h
  ·split at h
   ·rename_i e;subst e;simp only[WG]at h;subst h;rfl
   ·simp at h
  ·simp at h
theorem UR(a:List UInt8):rS.dec [.str a]=some a:=rfl
section
variable {α β γ δ ρ:Type}
def fn0(r:ρ->AV)(v:ρ):List AV->(AV->Prop)->Prop
 |[],K=>K (r v)
 |_,_=>False
def fn1(a:Cd α)(r:ρ->AV)(pre:α->Prop)(f:α->ρ):List AV->(AV->Prop)->Prop
 |[.one x],K=>match a.dec x with
  |some x=>pre x/\K (r (f x))
  |none=>False
 |_,_=>False
def fn2(a:Cd α)(b:Cd β)(r:ρ->AV)(pre:α->β->Prop)(f:α->β->ρ):List AV->(AV->Prop)->Prop
 |[.one x,.one y],K=>match a.dec x,b.dec y with
  |some x,some y=>pre x y/\K (r (f x y))
  |_,_=>False
 |_,_=>False
def fn3(a:Cd α)(b:Cd β)(c:Cd γ)(r:ρ->AV)(pre:α->β->γ->Prop)(f:α->β->γ->ρ):List AV->(AV->Prop)->Prop
 |[.one x,.one y,.one z],K=>match a.dec x,b.dec y,c.dec z with
  |some x,some y,some z=>pre x y z/\K (r (f x y z))
  |_,_,_=>False
 |_,_=>False
def o1(c:Cd ρ)(x:ρ):AV:=.one (c.enc x)
def o2(a:Cd α)(b:Cd β)(x:α×β):AV:=.tup [a.enc x.1,b.enc x.2]
def o3(a:Cd α)(b:Cd β)(c:Cd γ)(x:α×β×γ):AV:=.tup [a.enc x.1,b.enc x.2.1,c.enc x.2.2]
variable {P:Program} {f:Nat} {fn:Func} {c:Code}
end
theorem CT.ok0{P:Program}:CT.Ok P []:=fun x hx=>by simp at hx
theorem CT.cons{P:Program}{f:Nat}{C:CK1}{cs:CT}(h:Con P f C)(hs:cs.Ok P):CT.Ok P ((f,C)::cs):=fun x hx=>by
 simp only[WR]at hx;rcases hx with rfl|hx
 ·exact h
 ·exact hs x hx
theorem P8{n:Int}(h1:-9223372036854775808<=n)(h2:n<=9223372036854775807):IntKind.i64.wrap n=n:=IntWalk.i64_in n ⟨h1,h2⟩
theorem ao{i:Nat}(h:i < 9223372036854775807):IntKind.i64.wrap ((i:Int)+1)=((i+1:Nat):Int):=by
 rw[P8 Z1 Z1];rfl
def VP(P:Program)(cs:CT)(all:List Oper)(o:Oper)(s:S)(K:S->Prop):Prop:=
 match o.guard with
 |none=>opK P cs o s K
 |some (j,want)=>match(all[j]?).bind (·.dst)with
  |some d=>match aL s.t d with
   |.one (.c (.d (.bool c)))=>gsel c want (opK P cs o (s.put (some d) (sc (.bool want))) K) (K ((s.put (some d) (sc (.bool (!want)))).put o.dst (.tup [])))
   |.tup []=>K (s.put o.dst (.tup []))
   |_=>False
  |none=>False
section
variable {P:Program} {cs:CT} {all:List Oper}
def VR(P:Program)(all:List Oper)(i:Nat)(fz:Bool)(s:S)(K:S->Prop):Prop:=
 match all[i]? with
 |none=>False
 |some o=>gK all o s (fun s=>(fz=true->eT s o)/\qK P o s fun v=>K (s.put o.dst v)) K
end
theorem US(b:List UInt8):rS.enc b=[.str b]:=rfl
theorem UQ(k:IntKind)(n:Int):(rI k).enc n=[.int k n]:=rfl
theorem Uc(k:IntKind)(n:Int):(cI k).enc n=.c (.d (.int k n)):=rfl
theorem Ub(b:Bool):cB.enc b=.c (.d (.bool b)):=rfl
theorem Uh(b:List UInt8):cS.enc b=.c (.d (.str b)):=rfl
theorem Uf{α:Type}(c:Rw α)(l:List α):(cL c).enc l=.c (.d (.li (l.map c.enc))):=rfl
theorem T9{α:Type}(c:Rw α)(x:α):(cA c).enc x=.agg ((c.enc x).map T.d):=rfl
theorem Ua(b:Bool):cB.dec (.c (.d (.bool b)))=some b:=rfl
theorem Ug(b:List UInt8):cS.dec (.c (.d (.str b)))=some b:=rfl
theorem Ue{α:Type}(c:Rw α)(l:List (List D)):(cL c).dec (.c (.d (.li l)))=cg c l:=rfl
theorem T8{α:Type}(c:Rw α)(ts:List T):(cA c).dec (.agg ts)=match tds ts with
  |some l=>c.dec l
  |none=>none:=rfl
theorem Wb(x:D):sc x=.one (.c (.d x)):=rfl
attribute [push_cast] lA List.append_eq decide_false decide_true WP pS gJ eqD TD Option.isSome_some List.toList_toArray T.owned T.ment T.toD mB fF List.set_cons_zero List.set_cons_succ mkT inK aI kc fq oJ nr gD iu Ce aQ aZ Cc thr Pl.offs Option.map_some X3 XW List.replicate_zero List.zipWith_cons_cons List.zipWith_nil_left List.zipIdx_cons List.zipIdx_nil Xu X2 X4 oY T.frz DN Sh.isFr TK.isSS bne List.isPrefixOf List.cons_beq_cons Nm.loc.injEq Nm.gh.injEq Nm.out.injEq gsel ne_eq not_false_eq_true not_true_eq_false Nat.one_ne_zero WJ VP opK ev cst nW bv aL l6 S.put PV ite_true if_true if_false WL WQ nE sI CQ EM q9 Bool.not_false YA XZ Bool.and_false Xn XQ Bool.or_true Bool.or_false Bool.true_or XG Bool.not_not Xi Xx true_and and_true forall_const W6 Di eV eQ p5 false_and and_false false_implies true_implies implies_true decide_eq_true_eq decide_eq_false_iff_not XE Bool.not_eq_false' beq_self_eq_true TF S.cut S.drops S.one List.map_cons List.map_nil Wb US UQ Uc Ub Uh Uf T9 Ua Ug Ue T8 tds cg UR CT.get mQ fn0 fn1 fn2 fn3 o1 o2 o3 iQ Cf Oq xZ AV.isFz AV1.isFz T.isFz AV.map AV1.map T.canon W0 List.all_nil S.drop kG aC AV.kill AV1.kill T.kill aX bz ab bE S.fresh S.root VR gK UL qK eT Cu iO unK r8 okv okvs List.drop_zero List.take_zero List.drop_succ_cons List.take_succ_cons List.take_nil List.drop_nil Sz qv fB mE dS rZ Kq dx T.sure qY r7 cz gk room o7 Pl.add atK qq xa Pa Jg kM fd iX ic overw chunk T.fz
def T.ren(a b:Nm):T->T
 |.pl p=>.pl ⟨if p.root=a then b else p.root,p.off,p.path⟩
 |t=>t
def T.self(a:Nm):T->Bool
 |.pl p=>decide (p.root=a)&&p.path.isEmpty
 |.rf _=>false
 |_=>true
def jR(r:Nm)(rf:Bool)(p:Pl):Bool:=decide (p.root=r)&&(rf||!p.path.isEmpty)
def VI(j:Nat)(P:Program)(s:S)(rs:List ResultVar)(K:AV->List T->Prop):Prop:=
 match ab (fB s rs).m (.out j)with
 |some ⟨true,cells⟩=>qv P s rs (fun v=>K v cells)
 |_=>False
def Wa(j:Nat)(φ:List AV->List T->(AV->List T->Prop)->Prop):CK1:=fun s ops k=>
 match ops with
 |[]=>False
 |o::os=>
  let s1:=iQ s (os.map (ev s))
  match ev s1 o with
  |.one (.c (.pl ⟨r,0,[]⟩))=>match ab s1.m r with
   |some ⟨true,cells⟩=>(Nm.out j).tyd=r.tyd/\cells.all (T.self r)=true/\(os.map (ev s1)).all AV.isFz=true /\
     φ (os.map fun x=>(ev s1 x).map T.canon) (cells.map (T.ren r (.out j))) (fun res cells'=>cells'.length=cells.length/\cells'.all (T.self (.out j))=true /\
      k ⟨kG (jR r) s1.t,(r,⟨true,cells'.map (T.ren (.out j) r)⟩)::aC (aX r) (bz s1.m r)⟩ res)
   |_=>False
  |_=>False
section
variable {w w':World} {H H':FH} {γ γ':Gam} {m m':Mm}
theorem qW{n n':Nm}{cells:List T}{f:Fp}{b:Nat}(h:a8 w H γ m n ⟨true,cells⟩ f)(hn:n'.tyd=n.tyd)(hs:cells.all (T.self n)=true)(hγ:γ n=.blk b)(hm:ab m n=some ⟨true,cells⟩)
  (hγ':γ' n'=.blk b) (hm':∃cells',ab m' n'=some ⟨true,cells'⟩/\cells'.length=cells.length):a8 w H γ' m' n' ⟨true,cells.map (T.ren n n')⟩ f:=by
 unfold a8 at h⊢;rw[if_pos rfl]at h⊢;obtain⟨b0,cs,ty,fz,g,h1,h2,h3,h4,h5,h6⟩:=h;rw[hγ]at h1;obtain rfl:b=b0:=by simpa using h1
 refine⟨b,cs,ty,fz,g,hγ',h2,⟨h3.1,fun t ht=>h3.2 t (by rw[<- hn];exact ht)⟩,by simpa using h4,?_,h6⟩;unfold Ts at h5⊢;rw[WJ];obtain⟨cells',hm1,hm2⟩:=hm';have key:∀(ss:List Unit)(xs:List T)(f:Fp)(vs:List Value),xs.all (T.self n)=true->Cs (fun _ t=>TR w H γ m t) ss xs f vs->Cs (fun _ t=>TR w H γ' m' t) ss (xs.map (T.ren n n')) f vs:=by
  intro ss xs;induction xs generalizing ss with
  |nil=>intro f vs _ h;cases ss<;>exact h
  |cons x xs ih=>
   intro f vs hx h;simp only[W0,WI]at hx;cases ss with
   |nil=>exact h.elim
   |cons u ss=>
    obtain⟨v,r,f1,f2,hv,hf,k1,k2⟩:=h;refine⟨v,r,f1,f2,hv,hf,?_,ih ss f2 r hx.2 k2⟩;cases x with
    |pl p=>
     obtain⟨root,off,path⟩:=p;have hp:=hx.1
     simp only[T.self,WI,decide_eq_true_eq,List.isEmpty_iff]at hp;obtain⟨rfl,rfl⟩:=hp;obtain⟨z,hok,a,ha,e⟩:=k1;simp only[T.ren,if_true];refine⟨z,?_,a,?_,e⟩
     ·rw[ap]at hok⊢;obtain⟨r0,q1,q2⟩:=hok;rw[hm]at q1;obtain rfl:=Option.some.inj q1;exact⟨_,hm1,by
       have q2':off<cells.length:=q2
       show off<cells'.length
       omega⟩
     ·simp only[plA]at ha⊢;rw[hγ]at ha;rw[hγ'];exact ha
    |rf p=>simp[T.self]at hx
    |d x=>exact k1
    |nil=>exact k1
    |ow sub l=>exact k1
    |mp l=>exact k1
    |it c l=>exact k1
    |el row o=>exact k1
    |any=>exact k1
 exact key _ _ _ _ hs h5
theorem jO{F:Nm->Fp}{m:Mm}{n:Nm}{r:Root}(hk:ab m n=some r)(c:Nat):tot F (bz m n) c+F n c=tot F m c:=by
 induction m with
 |nil=>simp[ab]at hk
 |cons x m ih=>
  obtain⟨k,y⟩:=x;simp only[ab,bz]at hk⊢;by_cases hkn:k=n
  ·subst hkn;rw[if_pos rfl,be];dsimp only;omega
  ·rw[if_neg hkn]at hk;rw[if_neg hkn,be,be];have:=ih hk
   dsimp only at this⊢;omega
theorem Ci{m:Mm}{n:Nm}(hk:(m.map (·.1)).Nodup):ab (aC (aX n) (bz m n)) n=none:=by
 rw[nC,lJ];exact nM hk
end
section
variable {P:Program}
theorem PE{g:G}{s:S}{a:Act}{w:World}{H:FH}{γ:Gam}{F:Nm->Fp}(h:RX g s a w H γ F)(hex:g.ex=none){fn:Func}{k:AV->Prop}(hk:qv P s fn.results.toList k) :
  ∃y v H' F',(results fn a.tmps).run P w=.ok y w/\RX g (fB s fn.results.toList) a w H' γ F'/\AR w H' γ (fB s fn.results.toList).m v y/\v.isFz=true/\k (v.map T.canon):=by
 unfold qv at hk;obtain⟨H1,F1,h1⟩:=oG fn.results.toList s H F h;obtain⟨ys,xs,e1,e2,e3,e4⟩:=pc h1 hex hk;have hrun:(results fn a.tmps).run P w=.ok (if h:ys.toArray.size=1 then ys.toArray[0]else .tuple ys.toArray) w:=by
  rw[gc,Ya];simp[e1]
 refine⟨_,(match xs with|[x]=>.one x|xs=>.tup xs),H1,F1,hrun,h1,?_⟩
 match xs,ys,e2,e3 with
 |[],[],e2,e3=>exact⟨⟨#[],by simp,trivial⟩,e3.1,e3.2⟩
 |[x],[y],e2,e3=>exact⟨e2.1,e3.1,e3.2⟩
 |x1::x2::xs,y1::y2::ys,e2,e3=>exact⟨⟨(y1::y2::ys).toArray,by simp,by simpa using e2⟩,e3.1,e3.2⟩
end
section
variable {w:World} {H:FH} {γ:Gam} {m:Mm} {F:Nm->Fp}
theorem tS{α β:Type}{R:α->β->Fp->Value->Prop}{x':β}:∀{ss:List α}{xs:List β}{f:Fp}{vs:List Value}{k:Nat}{x:β},xs[k]? = some x->(∀s g v,R s x g v->R s x' g v)->Cs R ss xs f vs->Cs R ss (xs.set k x') f vs
 |[],[],_,_,_,_,hx,_,_=>by simp at hx
 |s::ss,y::xs,f,vs,0,x,hx,hR,h=>by
  obtain⟨v,r,f1,f2,hv,hf,h1,h2⟩:=h;simp only[Xi,WG]at hx;subst hx;exact⟨v,r,f1,f2,hv,hf,hR _ _ _ h1,h2⟩
 |s::ss,y::xs,f,vs,k+1,x,hx,hR,h=>by
  obtain⟨v,r,f1,f2,hv,hf,h1,h2⟩:=h;simp only[Xx]at hx;exact⟨v,r,f1,f2,hv,hf,h1,tS hx hR h2⟩
 |[],_::_,_,_,_,_,_,_,h=>h.elim
 |_::_,[],_,_,_,_,_,_,h=>h.elim
theorem A8{n:Nm}{cells:List T}{bl:Bool}(hr:ab m n=some ⟨bl,cells⟩){off:Nat}(hc:cells[off]? = some .nil)(sub:List Sh):Keeps w γ m w γ (bE m n ⟨bl,cells.set off (.ow sub [])⟩):=by
 constructor
 ·intro q hq;refine⟨?_,rfl⟩;rw[ap]at hq⊢;obtain⟨r,h1,h2⟩:=hq;rw[dP hr];by_cases hn:n=q.root
  ·subst hn;rw[if_pos rfl];rw[hr]at h1;obtain rfl:=Option.some.inj h1;refine⟨_,rfl,?_⟩;obtain⟨qr,qo,qp⟩:=q;cases qp with
   |nil=>
    have h2':qo<cells.length:=h2
    show qo < (cells.set off (.ow sub [])).length
    simpa using h2'
   |cons st u=>
    dsimp only[aF]at h2⊢;by_cases ho:off=qo
    ·subst ho;rw[hc]at h2;exact h2.elim
    ·rw[W2 ho];exact h2
  ·rw[if_neg hn];exact⟨r,h1,h2⟩
 ·intro q hq;refine⟨?_,rfl⟩;rw[bx]at hq⊢;obtain⟨r,h1,h2⟩:=hq;rw[dP hr];by_cases hn:n=q.root
  ·subst hn;rw[if_pos rfl];rw[hr]at h1;obtain rfl:=Option.some.inj h1;refine⟨_,rfl,?_⟩;obtain⟨qr,qo,qp⟩:=q;dsimp only[bf]at h2⊢;by_cases ho:off=qo
   ·subst ho;rw[hc]at h2;cases qp<;>exact h2.elim
   ·rw[W2 ho];exact h2
  ·rw[if_neg hn];exact⟨r,h1,h2⟩
end
def S.ownR(n:Nm)(off:Nat)(sub:List Sh)(s:S):S:=
 match ab s.m n with
 |some ⟨true,cells⟩=>match cells[off]? with
  |some .nil=>⟨s.t,bE s.m n ⟨true,cells.set off (.ow sub [])⟩⟩
  |_=>s
 |_=>s
theorem Qq{g:G}{s:S}{a:Act}{w:World}{H:FH}{γ:Gam}{F:Nm->Fp}(h:RX g s a w H γ F)(n:Nm)(off:Nat)(sub:List Sh):RX g (s.ownR n off sub) a w H γ F:=by
 unfold S.ownR;split
 ·rename_i cells hr;split
  ·rename_i hc;have hK:=A8 (w:=w) (γ:=γ) hr hc sub
   have hm:=h.mem
   refine⟨⟨hm.agree,fun x hx=>?_,?_,fun b=>?_,fun b hb=>?_,fun b hb=>?_⟩,⟨h.fr.size,h.fr.os,h.fr.tape,h.fr.output,h.fr.block,h.fr.hold,h.fr.hnew,fun b hb=>?_,h.fr.nz⟩,h.nt,h.df,fun i=>bV hK (fun _ _ _ h=>h) (h.t i)⟩
   ·rcases mJ hm.keys hx with⟨_,hy⟩|rfl
    ·exact aN hK (fun _ _ _ h=>h) rfl (fun _ _=>rfl) (hm.roots x hy)
    ·have h1:=aN hK (fun _ _ _ h=>h) rfl (fun _ _=>rfl) (hm.roots _ (ae hr))
     unfold a8 at h1⊢;dsimp only at h1⊢;rw[if_pos rfl]at h1⊢;obtain⟨b,cs,ty,fz,g',k1,k2,k3,k4,k5,k6⟩:=h1;refine⟨b,cs,ty,fz,g',k1,k2,k3,by simpa using k4,?_,k6⟩;unfold Ts at k5⊢;rw[List.length_set];refine tS hc (fun _ f v hv=>?_) k5;obtain⟨z,rfl⟩:=hv;exact⟨1,dA.2 (.inl ⟨rfl,rfl,z⟩)⟩
   ·rw[kC];exact hm.keys
   ·rw[cC];exact hm.le1 b
   ·rw[cC]at hb;exact hm.lt b hb
   ·rw[cC]at hb;exact hm.nofz b hb
   ·rw[cC]at hb;exact h.fr.tt b hb
  ·exact h
 ·exact h
def S.mvR(n:Nm)(s:S):S:=
 match ab s.m n with
 |some r=>⟨s.t,(n,r)::bz s.m n⟩
 |none=>s
def LP(t:Nat)(n':Nm)(sub:List Sh)(s:S):S:=
 match aL s.t t with
 |.one (.c .nil)=>match ab (s.fresh n').m n',n'.isOut with
  |none,false=>⟨l6 (s.fresh n').t t (.one (.c (.rf ⟨n',0,[]⟩))),(n',⟨false,[.ow sub []]⟩)::(s.fresh n').m⟩
  |_,_=>s
 |.one (.c (.rf ⟨n,0,[]⟩))=>match ab s.m n with
  |some ⟨false,[.ow sub' l]⟩=>match n'.isOut with
   |false=>⟨l6 ((s.drop n).fresh n').t t (.one (.c (.rf ⟨n',0,[]⟩))),(n',⟨false,[.ow sub' l]⟩)::((s.drop n).fresh n').m⟩
   |_=>s
  |_=>s
 |_=>s
def S.own:List (Nat×Nm×List Sh)->S->S
 |[],s=>s
 |(t,n,sub)::r,s=>S.own r (if 2000000<=t then s.mvR n else if 1000000<=t then s.ownR n (t - 1000000) sub else LP t n sub s)
section
variable {g:G} {s:S} {a:Act} {w:World} {H:FH} {γ:Gam} {F:Nm->Fp}
theorem IB(h:RX g s a w H γ F){t:Nat}{v:AV}(hv:AR w H γ s.m v (g.tv a t)):RX g ⟨l6 s.t t v,s.m⟩ a w H γ F:=by
 refine⟨h.mem,h.fr,h.nt,h.df,fun i=>?_⟩;show AR w H γ s.m (aL (l6 s.t t v) i) _
 rw[fS];split
 ·rename_i e;subst e;exact hv
 ·exact h.t i
theorem PI{m:Mm}{n:Nm}{r:Root}{sub:List Sh}{l:List (List D)}{v:Value}(hr:r=⟨false,[.ow sub l]⟩)(hγ:γ n=.gh v):AR w H γ ((n,r)::m) (.one (.c (.rf ⟨n,0,[]⟩))) v:=by
 subst hr;refine⟨fun _=>rfl,?_,?_⟩
 ·rw[bx];refine⟨⟨false,[.ow sub l]⟩,by simp only[ab,if_true],?_⟩;show bf [T.ow sub l] 0 []
  simp[bf]
 ·show aq w (γ n) 0=some v
  rw[hγ];rfl
theorem Iz(h:RX g s a w H γ F)(t:Nat)(n':Nm)(sub:List Sh):∃γ' F',RX g (LP t n' sub s) a w H γ' F':=by
 unfold LP;split
 ·rename_i hnil;split
  ·rename_i hnone hno;have h1:=bX h n'
   have hv:=h.t t
   rw[hnil]at hv;obtain⟨_,hv⟩:=hv;obtain⟨γ',F',h2,hγ⟩:=cG h1 hno hnone (v:=.slice none 0 0) (t:=.ow sub []) (f:=fun _=>0) ⟨1,dA.2 (.inl ⟨rfl,rfl,fun _=>rfl⟩)⟩ (fun b=>by have:=h1.mem.le1 b;omega) (fun b hb=>absurd rfl hb) (fun b hb=>absurd rfl hb);exact⟨γ',F',IB h2 (by rw[hv];exact PI rfl hγ)⟩
  ·exact⟨γ,F,h⟩
 ·rename_i n hrf
  ·split
   ·rename_i sub' l hroot;split
    ·rename_i hno;obtain⟨v,f,hγn,hTR,hd,htot⟩:=Bc h hroot;have h1:=bX hd n'
     have hle:∀b,tot F ((s.drop n).fresh n').m b<=tot F (s.drop n).m b:=by
      intro b;unfold S.fresh;split
      ·exact WN _
      ·show tot F (aC _ _) b<=_
       rw[aV];exact eD
     have hv:=h.t t
     rw[hrf]at hv;obtain⟨_,_,hv⟩:=hv;have hv':v=g.tv a t:=by
      simp only[plV,hγn,aq,if_true,WG]at hv;exact hv
     obtain⟨γ',F',h2,hγ⟩:=cG h1 hno (bH hd n') (v:=v) (t:=.ow sub' l) (f:=f) (hTR _) (fun b=>by have:=hle b;have:=htot b;have:=h.mem.le1 b;omega)
      (fun b hb=>⟨h.mem.lt b (by have:=htot b;omega),h.mem.nofz b (by have:=htot b;omega)⟩) (fun b hb=>h.fr.tt b (by have:=htot b;omega))
     exact⟨γ',F',IB h2 (by rw[<- hv'];exact PI rfl hγ)⟩
    ·exact⟨γ,F,h⟩
   ·exact⟨γ,F,h⟩
 ·exact⟨γ,F,h⟩
def S.cutO(ns:List (Nat×Nm×List Sh))(ks:List Nat)(ds:List Nm)(s:S):S:=(s.own ns).cut ks ds
variable {P:Program} {Q:Exit->S->Prop}
def Tl:List D->Option UInt8
 |[.int .u8 n]=>if 0<=n/\n < 256 then some (UInt8.ofNat n.toNat)else none
 |_=>none
def rB:Rw UInt8 where
 enc b:=[.int .u8 (b.toNat:Int)]
 dec:=Tl
 inv l x h:=by
  unfold Tl at h;split at h
  ·split at h
   ·rename_i n hn;simp only[WG]at h;subst h
    congr 2
    have:n.toNat < 256:=by omega
    simp only[UInt8.toNat_ofNat',Nat.reducePow];omega
   ·simp at h
  ·simp at h
theorem Sw(b:List UInt8):(b.map fun c=>[D.int .u8 (c.toNat:Int)])=b.map rB.enc:=rfl
theorem zN(a:Nat)(l:List Nat):(([]:List Nat)==a::l)=false:=rfl
theorem zc(a:Nat)(l:List Nat):((a::l)==([]:List Nat))=false:=rfl
attribute [push_cast] zN zc Sw S.own LP S.ownR S.mvR bz S.cutO Nm.isOut D.sure
end
def Jl(cells:List T)(off:Nat)(sub:List Sh):List T:=
 match cells[off]? with
 |some .nil=>cells.set off (.ow sub [])
 |_=>cells
def vJ:List (Nat×List Sh)->List T->List T
 |[],cells=>cells
 |(off,sub)::r,cells=>vJ r (Jl cells off sub)
section
variable {w:World} {H:FH} {γ:Gam} {m:Mm} {F:Nm->Fp}
end
section
variable {g:G} {a:Act} {w:World} {H:FH} {γ:Gam} {F:Nm->Fp}
end
structure Cs1 (σ:Type) where
 j:Nat
 enc:σ->List T
 dec:List T->Option σ
 offs:List (Nat×List Sh)
 inv:∀l x,dec l=some x->vJ offs l=enc x
 self:∀x,(enc x).all (T.self (.out j))=true
 ren:∀l x n,dec l=some x->dec (l.map (T.ren n (.out j)))=some x
section
variable {α β γ' ρ σ:Type}
def fp0(c:Cs1 σ)(r:ρ->AV)(pre:σ->Prop)(f:σ->ρ×σ):List AV->List T->(AV->List T->Prop)->Prop
 |[],cells,K=>match c.dec cells with
  |some s=>pre s/\K (r (f s).1) (c.enc (f s).2)
  |none=>False
 |_,_,_=>False
def fp1(c:Cs1 σ)(a:Cd α)(r:ρ->AV)(pre:σ->α->Prop)(f:σ->α->ρ×σ):List AV->List T->(AV->List T->Prop)->Prop
 |[.one x],cells,K=>match c.dec cells,a.dec x with
  |some s,some x=>pre s x/\K (r (f s x).1) (c.enc (f s x).2)
  |_,_=>False
 |_,_,_=>False
def fp2(c:Cs1 σ)(a:Cd α)(b:Cd β)(r:ρ->AV)(pre:σ->α->β->Prop)(f:σ->α->β->ρ×σ):List AV->List T->(AV->List T->Prop)->Prop
 |[.one x,.one y],cells,K=>match c.dec cells,a.dec x,b.dec y with
  |some s,some x,some y=>pre s x y/\K (r (f s x y).1) (c.enc (f s x y).2)
  |_,_,_=>False
 |_,_,_=>False
variable {P:Program} {f:Nat} {fn:Func} {co:Code}
end
attribute [push_cast] WN List.isEmpty_nil List.isEmpty_cons Wa fp0 fp1 fp2 T.ren T.self jR Jl vJ VI
attribute [push_cast] jf Nm.tyd
section
variable {P:Program} {cs:CT} {all:List Oper} {g:G} {Q:Exit->S->Prop}
end
def T.isD:T->Bool
 |.d _=>true
 |_=>false
def T.frB(n:Nm)(row:List D):T->T
 |.pl p=>match p.path with
  |[]=>if p.root=n then .el row p.off else .pl p
  |_=>(T.pl p).kill (aX n)
 |t=>t.kill (aX n)
def S.frzB(n:Nm)(s:S):S:=
 match ab s.m n with
 |some ⟨true,cells⟩=>if cells.all T.isD=true then⟨oY (AV.map (T.frB n (cells.map T.toD))) s.t,aC (aX n) (bz s.m n)⟩else s
 |_=>s
theorem xl{H:FH}{row:List D}{b o:Nat}(h:∀j,j<row.length->∃y:Value,H b (o+j)=some y/\FDx H (row.getD j default) y):∃m,wz H m row b o:=by
 have key:∀n,n<=row.length->∃m,∀j,j<n->∃y:Value,H b (o+j)=some y/\FD H m (row.getD j default) y:=by
  intro n;induction n with
  |zero=>exact fun _=>⟨0,fun j hj=>by omega⟩
  |succ n ih=>
   intro hn;obtain⟨m1,h1⟩:=ih Z1;obtain⟨y,hy,m2,hf⟩:=h n Z1;refine⟨m1+m2,fun j hj=>?_⟩;by_cases hjn:j=n
   ·subst hjn;exact⟨y,hy,eG (fun _ _ _ h=>h) _ _ _ _ Z1 hf⟩
   ·obtain⟨z,hz,hf⟩:=h1 j Z1;exact⟨z,hz,eG (fun _ _ _ h=>h) _ _ _ _ Z1 hf⟩
 exact key row.length (WN _)
section
variable {P:Program} {g:G} {s:S} {a:Act} {w:World} {H:FH} {γ:Gam} {F:Nm->Fp}
theorem wo{F:Nm->Fp}{m:Mm}{n:Nm}{r:Root}(hk:ab m n=some r)(c:Nat):tot F (bz m n) c+F n c=tot F m c:=by
 induction m with
 |nil=>simp[ab]at hk
 |cons x m ih=>
  obtain⟨k,y⟩:=x;simp only[ab,bz]at hk⊢;by_cases hkn:k=n
  ·subst hkn;rw[if_pos rfl,be];dsimp only;omega
  ·rw[if_neg hkn]at hk;rw[if_neg hkn,be,be];have:=ih hk
   dsimp only at this⊢;omega
theorem Qn(h:RX g s a w H γ F)(n:Nm):∃H',RX g (s.frzB n) a w H' γ F:=by
 unfold S.frzB;split
 rotate_left
 ·exact⟨H,h⟩
 rename_i cells hr;split
 rotate_left
 ·exact⟨H,h⟩
 rename_i hall;have hR:=h.mem.roots _ (ae hr)
 unfold a8 at hR;rw[if_pos rfl]at hR;obtain⟨b,cs,ty,fz,f,e1,e2,e3,e4,e5,e6⟩:=hR;dsimp only at e1 e4 e5 e6;have hd:=pE h n
 have hdm:(s.drop n).m=aC (aX n) (bz s.m n):=rfl
 have tdel:∀c,tot F (aC (aX n) (bz s.m n)) c+F n c=tot F s.m c:=fun c=>by rw[aV];exact wo hr c
 let H':FH:=fun k o=>if k=b then(w.cell? ⟨k,o,none⟩).map HV.c else H k o
 have hFb:F n b≠0:=by
  have:=e6 b;rw[if_pos rfl]at this;omega
 have htb:tot F s.m b≠0:=by have:=tdel b;omega
 have hH:∀k o y,H k o=some y->H' k o=some y:=by
  intro k o y hy;simp only[H'];split
  ·rename_i e;subst e;rw[h.mem.nofz _ htb o]at hy;cases hy
  ·exact hy
 have hag:∀k o y,H' k o=some y->RdV w k o y:=by
  intro k o y hy;simp only[H']at hy;split at hy
  ·obtain⟨z,hz,rfl⟩:=WW.1 hy;exact hz
  ·exact h.mem.agree k o y hy
 have hmem:=hd.mem
 rw[hdm]at hmem;have hKr:Keeps w γ (aC (aX n) (bz s.m n)) w γ (aC (aX n) (bz s.m n)):=⟨fun q hq=>⟨hq,rfl⟩,fun q hq=>⟨hq,rfl⟩⟩
 have hcell:∀j,w.cell? ⟨b,j,none⟩=cs[j]? := fun j=>by simp[World.cell?,e2]
 have hrow:∃m,wz H' m (cells.map T.toD) b 0:=by
  refine xl (fun j hj=>?_);rw[WJ]at hj;have hcj:cells[j]? = some cells[j]:=WH hj
  obtain⟨v,q,v1,v2,_⟩:=yQ e5 hcj;have hisD:=WY.1 hall cells[j] (Xj hj)
  refine⟨v,?_,?_⟩
  ·simp only[H',if_true,Xy];rw[hcell];simpa using v1
  ·rw[List.getD,WK,hcj];simp only[Option.map_some,Xb];generalize cells[j]=t at v2 hisD;cases t with
   |d x=>exact cr hH v2.2
   |_=>simp[T.isD]at hisD
 refine⟨H',⟨?_,?_,h.nt,h.df,fun i=>?_⟩⟩
 ·refine⟨hag,fun x hx=>aN hKr hH rfl (fun _ _=>rfl) (hmem.roots x hx),hmem.keys,hmem.le1,hmem.lt,fun k hk o=>?_⟩;have hkb:k≠b:=by
   intro e;subst e;have h1:=tdel k;have h2:=h.mem.le1 k;dsimp only at hk;omega
  simp only[H'];rw[if_neg hkb];exact hmem.nofz k hk o
 ·refine⟨h.fr.size,h.fr.os,h.fr.tape,h.fr.output,h.fr.block,fun k o y hy=>hH _ _ _ (h.fr.hold k o y hy),fun k o h1 h2=>?_,fun k hk=>h.fr.tt k ?_,h.fr.nz.1,fun k o x l c h1 h2=>?_⟩
  rotate_left 2
  ·by_cases hkb:k=b
   ·subst hkb;have e0:fz=(0,0):=e3.1
    subst e0;exact⟨_,_,e2⟩
   ·simp only[H']at h1;rw[if_neg hkb]at h1;exact h.fr.nz.2 k o x l c h1 h2
  ·by_cases hkb:k=b
   ·subst hkb;exact h.fr.tt k htb
   ·simp only[H']at h1;rw[if_neg hkb]at h1;exact h.fr.hnew k o h1 h2
  ·have h1:=tdel k;dsimp only at hk;omega
 ·show AR w H' γ _ (aL (oY _ s.t) i) _
  rw[nD rfl];refine dW (fun t y ht=>?_) (h.t i);have hk:=fun(t:T) (ht:TR w H γ s.m t (fun _=>0) y)=>np (cZ (n:=n)) hH (fun _ hb=>absurd rfl hb) ht
  cases t with
  |pl p=>
   obtain⟨pn,po,pp⟩:=p;cases pp with
   |nil=>
    simp only[T.frB];split
    ·rename_i hc;subst hc;obtain⟨_,_,ad,had,hy⟩:=ht;obtain⟨m,hm⟩:=hrow;have:ad=⟨b,po,none⟩:=by
      simp only[plA,e1,WG]at had;exact had.symm
     subst this;exact⟨fun _=>rfl,b,0,m,by rw[hy,Xy],hm⟩
    ·rename_i hc;have:=hk _ ht
     have hb:aX n false ⟨pn,po,[]⟩=false:=by simp[aX,hc]
     simp only[T.kill,hb,WP,if_false]at this;exact this
   |cons st q=>exact hk _ ht
  |_=>exact hk _ ht
variable {Q:Exit->S->Prop}
end
def tI(k:IntKind)(n:Int):T:=.d (.int k n)
theorem PS(k:IntKind)(n:Int):(tI k n).owned=false:=rfl
attribute [push_cast] Pl.at sQ aY bF okO
attribute [push_cast high] PS
attribute [push_cast] T.isD T.frB S.frzB oY lA Xy Yn Nat.mul_one Yp T.toD XW List.replicate_zero
section
variable {P:Program} {cs:CT} {all:List Oper} {g:G} {Q:Exit->S->Prop}
end
end Go.Am
end

section
open Go Go.Am
namespace Lt
structure Var where
 Name:List UInt8
 Type_:List UInt8
 deriving Inhabited,DecidableEq
def Var.enc(x:Var):List D:=[.str x.Name,.str x.Type_]
def Var.dec:List D->Option Var
 |[.str v0,.str v1]=>some ⟨v0,v1⟩
 |_=>none
theorem Var.dec_inv:∀(l:List D)(x:Var),Var.dec l=some x->l=x.enc:=by
 intro l x h;unfold Var.dec at h;split at h
 ·simp only[WG]at h;subst h;rfl
 ·simp at h
def Var.rw:Rw Var:=⟨Var.enc,Var.dec,Var.dec_inv⟩
theorem Var.rows(l:List Var):(∀x∈l.map Var.enc,x.length=2)=True:=by
 simp[Var.enc]
attribute [push_cast] Var.enc Var.dec Var.rows
structure Class where
 Name:List UInt8
 Fields:List Var
 deriving Inhabited,DecidableEq
def Class.enc(x:Class):List D:=[.str x.Name,.li (x.Fields.map Var.enc)]
def Class.dec:List D->Option Class
 |[.str v0,.li v1]=>(cg Var.rw v1).bind fun w1=>some ⟨v0,w1⟩
 |_=>none
theorem Class.dec_inv:∀(l:List D)(x:Class),Class.dec l=some x->l=x.enc:=by
 intro l x h;unfold Class.dec at h;split at h
 ·simp only[Xd,WG]at h;obtain⟨w1,hw1,rfl⟩:=h;rw[au hw1];rfl
 ·simp at h
def Class.rw:Rw Class:=⟨Class.enc,Class.dec,Class.dec_inv⟩
theorem Class.rows(l:List Class):(∀x∈l.map Class.enc,x.length=2)=True:=by
 simp[Class.enc]
attribute [push_cast] Class.enc Class.dec Class.rows
structure Extern where
 Name:List UInt8
 N:Int
 deriving Inhabited,DecidableEq
def Extern.enc(x:Extern):List D:=[.str x.Name,.int .i64 x.N]
def Extern.dec:List D->Option Extern
 |[.str v0,.int .i64 v1]=>some ⟨v0,v1⟩
 |_=>none
theorem Extern.dec_inv:∀(l:List D)(x:Extern),Extern.dec l=some x->l=x.enc:=by
 intro l x h;unfold Extern.dec at h;split at h
 ·simp only[WG]at h;subst h;rfl
 ·simp at h
def Extern.rw:Rw Extern:=⟨Extern.enc,Extern.dec,Extern.dec_inv⟩
theorem Extern.rows(l:List Extern):(∀x∈l.map Extern.enc,x.length=2)=True:=by
 simp[Extern.enc]
attribute [push_cast] Extern.enc Extern.dec Extern.rows
structure Arg where
 Kind:Int
 S:List UInt8
 N:Int
 deriving Inhabited,DecidableEq
def Arg.enc(x:Arg):List D:=[.int .i64 x.Kind,.str x.S,.int .i64 x.N]
def Arg.dec:List D->Option Arg
 |[.int .i64 v0,.str v1,.int .i64 v2]=>some ⟨v0,v1,v2⟩
 |_=>none
theorem Arg.dec_inv:∀(l:List D)(x:Arg),Arg.dec l=some x->l=x.enc:=by
 intro l x h;unfold Arg.dec at h;split at h
 ·simp only[WG]at h;subst h;rfl
 ·simp at h
def Arg.rw:Rw Arg:=⟨Arg.enc,Arg.dec,Arg.dec_inv⟩
theorem Arg.rows(l:List Arg):(∀x∈l.map Arg.enc,x.length=3)=True:=by
 simp[Arg.enc]
attribute [push_cast] Arg.enc Arg.dec Arg.rows
structure In where
 Block:List UInt8
 A:Arg
 deriving Inhabited,DecidableEq
def In.enc(x:In):List D:=[.str x.Block,.int .i64 x.A.Kind,.str x.A.S,.int .i64 x.A.N]
def In.dec:List D->Option In
 |[.str v0,.int .i64 v1,.str v2,.int .i64 v3]=>some ⟨v0,⟨v1,v2,v3⟩⟩
 |_=>none
theorem In.dec_inv:∀(l:List D)(x:In),In.dec l=some x->l=x.enc:=by
 intro l x h;unfold In.dec at h;split at h
 ·simp only[WG]at h;subst h;rfl
 ·simp at h
def In.rw:Rw In:=⟨In.enc,In.dec,In.dec_inv⟩
theorem In.rows(l:List In):(∀x∈l.map In.enc,x.length=4)=True:=by
 simp[In.enc]
attribute [push_cast] In.enc In.dec In.rows
structure Phi where
 Dst:List UInt8
 Ins:List In
 deriving Inhabited,DecidableEq
def Phi.enc(x:Phi):List D:=[.str x.Dst,.li (x.Ins.map In.enc)]
def Phi.dec:List D->Option Phi
 |[.str v0,.li v1]=>(cg In.rw v1).bind fun w1=>some ⟨v0,w1⟩
 |_=>none
theorem Phi.dec_inv:∀(l:List D)(x:Phi),Phi.dec l=some x->l=x.enc:=by
 intro l x h;unfold Phi.dec at h;split at h
 ·simp only[Xd,WG]at h;obtain⟨w1,hw1,rfl⟩:=h;rw[au hw1];rfl
 ·simp at h
def Phi.rw:Rw Phi:=⟨Phi.enc,Phi.dec,Phi.dec_inv⟩
theorem Phi.rows(l:List Phi):(∀x∈l.map Phi.enc,x.length=2)=True:=by
 simp[Phi.enc]
attribute [push_cast] Phi.enc Phi.dec Phi.rows
structure Bind where
 Name:List UInt8
 A:Arg
 deriving Inhabited,DecidableEq
def Bind.enc(x:Bind):List D:=[.str x.Name,.int .i64 x.A.Kind,.str x.A.S,.int .i64 x.A.N]
def Bind.dec:List D->Option Bind
 |[.str v0,.int .i64 v1,.str v2,.int .i64 v3]=>some ⟨v0,⟨v1,v2,v3⟩⟩
 |_=>none
theorem Bind.dec_inv:∀(l:List D)(x:Bind),Bind.dec l=some x->l=x.enc:=by
 intro l x h;unfold Bind.dec at h;split at h
 ·simp only[WG]at h;subst h;rfl
 ·simp at h
def Bind.rw:Rw Bind:=⟨Bind.enc,Bind.dec,Bind.dec_inv⟩
theorem Bind.rows(l:List Bind):(∀x∈l.map Bind.enc,x.length=4)=True:=by
 simp[Bind.enc]
attribute [push_cast] Bind.enc Bind.dec Bind.rows
structure Frame where
 Func:List UInt8
 Block:List UInt8
 At:Int
 Vars:List Bind
 deriving Inhabited,DecidableEq
def Frame.enc(x:Frame):List D:=[.str x.Func,.str x.Block,.int .i64 x.At,.li (x.Vars.map Bind.enc)]
def Frame.dec:List D->Option Frame
 |[.str v0,.str v1,.int .i64 v2,.li v3]=>(cg Bind.rw v3).bind fun w3=>some ⟨v0,v1,v2,w3⟩
 |_=>none
theorem Frame.dec_inv:∀(l:List D)(x:Frame),Frame.dec l=some x->l=x.enc:=by
 intro l x h;unfold Frame.dec at h;split at h
 ·simp only[Xd,WG]at h;obtain⟨w3,hw3,rfl⟩:=h;rw[au hw3];rfl
 ·simp at h
def Frame.rw:Rw Frame:=⟨Frame.enc,Frame.dec,Frame.dec_inv⟩
theorem Frame.rows(l:List Frame):(∀x∈l.map Frame.enc,x.length=4)=True:=by
 simp[Frame.enc]
attribute [push_cast] Frame.enc Frame.dec Frame.rows
structure Virt where
 Class:List UInt8
 Vals:List Arg
 deriving Inhabited,DecidableEq
def Virt.enc(x:Virt):List D:=[.str x.Class,.li (x.Vals.map Arg.enc)]
def Virt.dec:List D->Option Virt
 |[.str v0,.li v1]=>(cg Arg.rw v1).bind fun w1=>some ⟨v0,w1⟩
 |_=>none
theorem Virt.dec_inv:∀(l:List D)(x:Virt),Virt.dec l=some x->l=x.enc:=by
 intro l x h;unfold Virt.dec at h;split at h
 ·simp only[Xd,WG]at h;obtain⟨w1,hw1,rfl⟩:=h;rw[au hw1];rfl
 ·simp at h
def Virt.rw:Rw Virt:=⟨Virt.enc,Virt.dec,Virt.dec_inv⟩
theorem Virt.rows(l:List Virt):(∀x∈l.map Virt.enc,x.length=2)=True:=by
 simp[Virt.enc]
attribute [push_cast] Virt.enc Virt.dec Virt.rows
structure Instr where
 Op:Int
 Dst:List UInt8
 Name:List UInt8
 Args:List Arg
 Frames:List Frame
 Objs:List Virt
 deriving Inhabited,DecidableEq
def Instr.enc(x:Instr):List D:=[.int .i64 x.Op,.str x.Dst,.str x.Name,.li (x.Args.map Arg.enc),.li (x.Frames.map Frame.enc),.li (x.Objs.map Virt.enc)]
def Instr.dec:List D->Option Instr
 |[.int .i64 v0,.str v1,.str v2,.li v3,.li v4,.li v5]=>(cg Arg.rw v3).bind fun w3=>(cg Frame.rw v4).bind fun w4=>(cg Virt.rw v5).bind fun w5=>some ⟨v0,v1,v2,w3,w4,w5⟩
 |_=>none
theorem Instr.dec_inv:∀(l:List D)(x:Instr),Instr.dec l=some x->l=x.enc:=by
 intro l x h;unfold Instr.dec at h;split at h
 ·simp only[Xd,WG]at h;obtain⟨w3,hw3,w4,hw4,w5,hw5,rfl⟩:=h;rw[au hw3,au hw4,au hw5];rfl
 ·simp at h
def Instr.rw:Rw Instr:=⟨Instr.enc,Instr.dec,Instr.dec_inv⟩
theorem Instr.rows(l:List Instr):(∀x∈l.map Instr.enc,x.length=6)=True:=by
 simp[Instr.enc]
attribute [push_cast] Instr.enc Instr.dec Instr.rows
structure Term where
 Kind:Int
 A:Arg
 To:List (List UInt8)
 N:Int
 deriving Inhabited,DecidableEq
def Term.enc(x:Term):List D:=[.int .i64 x.Kind,.int .i64 x.A.Kind,.str x.A.S,.int .i64 x.A.N,.li (x.To.map rS.enc),.int .i64 x.N]
def Term.dec:List D->Option Term
 |[.int .i64 v0,.int .i64 v1,.str v2,.int .i64 v3,.li v4,.int .i64 v5]=>(cg rS v4).bind fun w4=>some ⟨v0,⟨v1,v2,v3⟩,w4,v5⟩
 |_=>none
theorem Term.dec_inv:∀(l:List D)(x:Term),Term.dec l=some x->l=x.enc:=by
 intro l x h;unfold Term.dec at h;split at h
 ·simp only[Xd,WG]at h;obtain⟨w4,hw4,rfl⟩:=h;rw[au hw4];rfl
 ·simp at h
def Term.rw:Rw Term:=⟨Term.enc,Term.dec,Term.dec_inv⟩
theorem Term.rows(l:List Term):(∀x∈l.map Term.enc,x.length=6)=True:=by
 simp[Term.enc]
attribute [push_cast] Term.enc Term.dec Term.rows
structure Block where
 Name:List UInt8
 Phis:List Phi
 Code:List Instr
 End:Term
 deriving Inhabited,DecidableEq
def Block.enc(x:Block):List D:=[.str x.Name,.li (x.Phis.map Phi.enc),.li (x.Code.map Instr.enc),.int .i64 x.End.Kind,.int .i64 x.End.A.Kind,.str x.End.A.S,.int .i64 x.End.A.N,.li (x.End.To.map rS.enc),.int .i64 x.End.N]
def Block.dec:List D->Option Block
 |[.str v0,.li v1,.li v2,.int .i64 v3,.int .i64 v4,.str v5,.int .i64 v6,.li v7,.int .i64 v8]=>(cg Phi.rw v1).bind fun w1=>(cg Instr.rw v2).bind fun w2=>(cg rS v7).bind fun w7=>some ⟨v0,w1,w2,⟨v3,⟨v4,v5,v6⟩,w7,v8⟩⟩
 |_=>none
theorem Block.dec_inv:∀(l:List D)(x:Block),Block.dec l=some x->l=x.enc:=by
 intro l x h;unfold Block.dec at h;split at h
 ·simp only[Xd,WG]at h;obtain⟨w1,hw1,w2,hw2,w7,hw7,rfl⟩:=h;rw[au hw1,au hw2,au hw7];rfl
 ·simp at h
def Block.rw:Rw Block:=⟨Block.enc,Block.dec,Block.dec_inv⟩
theorem Block.rows(l:List Block):(∀x∈l.map Block.enc,x.length=9)=True:=by
 simp[Block.enc]
attribute [push_cast] Block.enc Block.dec Block.rows
structure Func where
 Name:List UInt8
 Result:List UInt8
 Params:List Var
 Vars:List Var
 Blocks:List Block
 deriving Inhabited,DecidableEq
def Func.enc(x:Func):List D:=[.str x.Name,.str x.Result,.li (x.Params.map Var.enc),.li (x.Vars.map Var.enc),.li (x.Blocks.map Block.enc)]
def Func.dec:List D->Option Func
 |[.str v0,.str v1,.li v2,.li v3,.li v4]=>(cg Var.rw v2).bind fun w2=>(cg Var.rw v3).bind fun w3=>(cg Block.rw v4).bind fun w4=>some ⟨v0,v1,w2,w3,w4⟩
 |_=>none
theorem Func.dec_inv:∀(l:List D)(x:Func),Func.dec l=some x->l=x.enc:=by
 intro l x h;unfold Func.dec at h;split at h
 ·simp only[Xd,WG]at h;obtain⟨w2,hw2,w3,hw3,w4,hw4,rfl⟩:=h;rw[au hw2,au hw3,au hw4];rfl
 ·simp at h
def Func.rw:Rw Func:=⟨Func.enc,Func.dec,Func.dec_inv⟩
theorem Func.rows(l:List Func):(∀x∈l.map Func.enc,x.length=5)=True:=by
 simp[Func.enc]
attribute [push_cast] Func.enc Func.dec Func.rows
structure Program where
 SSA:Bool
 Classes:List Class
 Globals:List Var
 Externs:List Extern
 Funcs:List Func
 deriving Inhabited,DecidableEq
def Program.enc(x:Program):List D:=[.bool x.SSA,.li (x.Classes.map Class.enc),.li (x.Globals.map Var.enc),.li (x.Externs.map Extern.enc),.li (x.Funcs.map Func.enc)]
def Program.dec:List D->Option Program
 |[.bool v0,.li v1,.li v2,.li v3,.li v4]=>(cg Class.rw v1).bind fun w1=>(cg Var.rw v2).bind fun w2=>(cg Extern.rw v3).bind fun w3=>(cg Func.rw v4).bind fun w4=>some ⟨v0,w1,w2,w3,w4⟩
 |_=>none
theorem Program.dec_inv:∀(l:List D)(x:Program),Program.dec l=some x->l=x.enc:=by
 intro l x h;unfold Program.dec at h;split at h
 ·simp only[Xd,WG]at h;obtain⟨w1,hw1,w2,hw2,w3,hw3,w4,hw4,rfl⟩:=h;rw[au hw1,au hw2,au hw3,au hw4];rfl
 ·simp at h
def Program.rw:Rw Program:=⟨Program.enc,Program.dec,Program.dec_inv⟩
theorem Program.rows(l:List Program):(∀x∈l.map Program.enc,x.length=5)=True:=by
 simp[Program.enc]
attribute [push_cast] Program.enc Program.dec Program.rows
structure Reader where
 p:Program
 at_:Int
 where_:Int
 first:Bool
 long:Int
 deriving Inhabited,DecidableEq
def Reader.enc(x:Reader):List D:=[.bool x.p.SSA,.li (x.p.Classes.map Class.enc),.li (x.p.Globals.map Var.enc),.li (x.p.Externs.map Extern.enc),.li (x.p.Funcs.map Func.enc),.int .i64 x.at_,.int .i64 x.where_,.bool x.first,.int .i64 x.long]
def Reader.dec:List D->Option Reader
 |[.bool v0,.li v1,.li v2,.li v3,.li v4,.int .i64 v5,.int .i64 v6,.bool v7,.int .i64 v8]=>(cg Class.rw v1).bind fun w1=>(cg Var.rw v2).bind fun w2=>(cg Extern.rw v3).bind fun w3=>(cg Func.rw v4).bind fun w4=>some ⟨⟨v0,w1,w2,w3,w4⟩,v5,v6,v7,v8⟩
 |_=>none
theorem Reader.dec_inv:∀(l:List D)(x:Reader),Reader.dec l=some x->l=x.enc:=by
 intro l x h;unfold Reader.dec at h;split at h
 ·simp only[Xd,WG]at h;obtain⟨w1,hw1,w2,hw2,w3,hw3,w4,hw4,rfl⟩:=h;rw[au hw1,au hw2,au hw3,au hw4];rfl
 ·simp at h
def Reader.rw:Rw Reader:=⟨Reader.enc,Reader.dec,Reader.dec_inv⟩
theorem Reader.rows(l:List Reader):(∀x∈l.map Reader.enc,x.length=9)=True:=by
 simp[Reader.enc]
attribute [push_cast] Reader.enc Reader.dec Reader.rows
structure Fault where
 e:Int
 deriving Inhabited,DecidableEq
def Fault.enc(x:Fault):List D:=[.int .i64 x.e]
def Fault.dec:List D->Option Fault
 |[.int .i64 v0]=>some ⟨v0⟩
 |_=>none
theorem Fault.dec_inv:∀(l:List D)(x:Fault),Fault.dec l=some x->l=x.enc:=by
 intro l x h;unfold Fault.dec at h;split at h
 ·simp only[WG]at h;subst h;rfl
 ·simp at h
def Fault.rw:Rw Fault:=⟨Fault.enc,Fault.dec,Fault.dec_inv⟩
theorem Fault.rows(l:List Fault):(∀x∈l.map Fault.enc,x.length=1)=True:=by
 simp[Fault.enc]
attribute [push_cast] Fault.enc Fault.dec Fault.rows
structure Line where
 N:Int
 Words:List (List UInt8)
 deriving Inhabited,DecidableEq
def Line.enc(x:Line):List D:=[.int .i64 x.N,.li (x.Words.map rS.enc)]
def Line.dec:List D->Option Line
 |[.int .i64 v0,.li v1]=>(cg rS v1).bind fun w1=>some ⟨v0,w1⟩
 |_=>none
theorem Line.dec_inv:∀(l:List D)(x:Line),Line.dec l=some x->l=x.enc:=by
 intro l x h;unfold Line.dec at h;split at h
 ·simp only[Xd,WG]at h;obtain⟨w1,hw1,rfl⟩:=h;rw[au hw1];rfl
 ·simp at h
def Line.rw:Rw Line:=⟨Line.enc,Line.dec,Line.dec_inv⟩
theorem Line.eta(x:Line):(⟨x.N,x.Words⟩:Line)=x:=rfl
theorem Line.rwe(x:Line):Line.rw.enc x=x.enc:=rfl
theorem Line.rwd(l:List D):Line.rw.dec l=Line.dec l:=rfl
theorem Line.rwm:Line.rw.enc=Line.enc:=rfl
theorem Line.rows(l:List Line):(∀x∈l.map Line.enc,x.length=2)=True:=by
 simp[Line.enc]
attribute [push_cast] Line.enc Line.dec Line.eta Line.rwe Line.rwd Line.rwm Line.rows
structure RForm where
 Word:List UInt8
 Dst:Bool
 Named:Bool
 Least:Int
 Most:Int
 deriving Inhabited,DecidableEq
def RForm.enc(x:RForm):List D:=[.str x.Word,.bool x.Dst,.bool x.Named,.int .i64 x.Least,.int .i64 x.Most]
def RForm.dec:List D->Option RForm
 |[.str v0,.bool v1,.bool v2,.int .i64 v3,.int .i64 v4]=>some ⟨v0,v1,v2,v3,v4⟩
 |_=>none
theorem RForm.dec_inv:∀(l:List D)(x:RForm),RForm.dec l=some x->l=x.enc:=by
 intro l x h;unfold RForm.dec at h;split at h
 ·simp only[WG]at h;subst h;rfl
 ·simp at h
def RForm.rw:Rw RForm:=⟨RForm.enc,RForm.dec,RForm.dec_inv⟩
theorem RForm.rows(l:List RForm):(∀x∈l.map RForm.enc,x.length=5)=True:=by
 simp[RForm.enc]
attribute [push_cast] RForm.enc RForm.dec RForm.rows
structure asked where
 p:Program
 i:Instr
 dst:List UInt8
 args:List (List UInt8)
 deriving Inhabited,DecidableEq
def asked.enc(x:asked):List D:=[.bool x.p.SSA,.li (x.p.Classes.map Class.enc),.li (x.p.Globals.map Var.enc),.li (x.p.Externs.map Extern.enc),.li (x.p.Funcs.map Func.enc),.int .i64 x.i.Op,.str x.i.Dst,.str x.i.Name,.li (x.i.Args.map Arg.enc),.li (x.i.Frames.map Frame.enc),.li (x.i.Objs.map Virt.enc),.str x.dst,.li (x.args.map rS.enc)]
def asked.dec:List D->Option asked
 |[.bool v0,.li v1,.li v2,.li v3,.li v4,.int .i64 v5,.str v6,.str v7,.li v8,.li v9,.li v10,.str v11,.li v12]=>(cg Class.rw v1).bind fun w1=>(cg Var.rw v2).bind fun w2=>(cg Extern.rw v3).bind fun w3=>(cg Func.rw v4).bind fun w4=>(cg Arg.rw v8).bind fun w8=>(cg Frame.rw v9).bind fun w9=>(cg Virt.rw v10).bind fun w10=>(cg rS v12).bind fun w12=>some ⟨⟨v0,w1,w2,w3,w4⟩,⟨v5,v6,v7,w8,w9,w10⟩,v11,w12⟩
 |_=>none
theorem asked.dec_inv:∀(l:List D)(x:asked),asked.dec l=some x->l=x.enc:=by
 intro l x h;unfold asked.dec at h;split at h
 ·simp only[Xd,WG]at h;obtain⟨w1,hw1,w2,hw2,w3,hw3,w4,hw4,w8,hw8,w9,hw9,w10,hw10,w12,hw12,rfl⟩:=h;rw[au hw1,au hw2,au hw3,au hw4,au hw8,au hw9,au hw10,au hw12];rfl
 ·simp at h
def asked.rw:Rw asked:=⟨asked.enc,asked.dec,asked.dec_inv⟩
theorem asked.rows(l:List asked):(∀x∈l.map asked.enc,x.length=13)=True:=by
 simp[asked.enc]
attribute [push_cast] asked.enc asked.dec asked.rows
structure Read where
 P:Program
 Where:Int
 Long:Int
 deriving Inhabited,DecidableEq
def Read.enc(x:Read):List D:=[.bool x.P.SSA,.li (x.P.Classes.map Class.enc),.li (x.P.Globals.map Var.enc),.li (x.P.Externs.map Extern.enc),.li (x.P.Funcs.map Func.enc),.int .i64 x.Where,.int .i64 x.Long]
def Read.dec:List D->Option Read
 |[.bool v0,.li v1,.li v2,.li v3,.li v4,.int .i64 v5,.int .i64 v6]=>(cg Class.rw v1).bind fun w1=>(cg Var.rw v2).bind fun w2=>(cg Extern.rw v3).bind fun w3=>(cg Func.rw v4).bind fun w4=>some ⟨⟨v0,w1,w2,w3,w4⟩,v5,v6⟩
 |_=>none
theorem Read.dec_inv:∀(l:List D)(x:Read),Read.dec l=some x->l=x.enc:=by
 intro l x h;unfold Read.dec at h;split at h
 ·simp only[Xd,WG]at h;obtain⟨w1,hw1,w2,hw2,w3,hw3,w4,hw4,rfl⟩:=h;rw[au hw1,au hw2,au hw3,au hw4];rfl
 ·simp at h
def Read.rw:Rw Read:=⟨Read.enc,Read.dec,Read.dec_inv⟩
theorem Read.rows(l:List Read):(∀x∈l.map Read.enc,x.length=7)=True:=by
 simp[Read.enc]
attribute [push_cast] Read.enc Read.dec Read.rows
structure RLine where
 N:Int
 Words:List (List UInt8)
 deriving Inhabited,DecidableEq
def RLine.enc(x:RLine):List D:=[.int .i64 x.N,.li (x.Words.map rS.enc)]
def RLine.dec:List D->Option RLine
 |[.int .i64 v0,.li v1]=>(cg rS v1).bind fun w1=>some ⟨v0,w1⟩
 |_=>none
theorem RLine.dec_inv:∀(l:List D)(x:RLine),RLine.dec l=some x->l=x.enc:=by
 intro l x h;unfold RLine.dec at h;split at h
 ·simp only[Xd,WG]at h;obtain⟨w1,hw1,rfl⟩:=h;rw[au hw1];rfl
 ·simp at h
def RLine.rw:Rw RLine:=⟨RLine.enc,RLine.dec,RLine.dec_inv⟩
theorem RLine.rows(l:List RLine):(∀x∈l.map RLine.enc,x.length=2)=True:=by
 simp[RLine.enc]
attribute [push_cast] RLine.enc RLine.dec RLine.rows
structure Form where
 Word:List UInt8
 Dst:Bool
 Named:Bool
 Least:Int
 Most:Int
 deriving Inhabited,DecidableEq
def Form.enc(x:Form):List D:=[.str x.Word,.bool x.Dst,.bool x.Named,.int .i64 x.Least,.int .i64 x.Most]
def Form.dec:List D->Option Form
 |[.str v0,.bool v1,.bool v2,.int .i64 v3,.int .i64 v4]=>some ⟨v0,v1,v2,v3,v4⟩
 |_=>none
theorem Form.dec_inv:∀(l:List D)(x:Form),Form.dec l=some x->l=x.enc:=by
 intro l x h;unfold Form.dec at h;split at h
 ·simp only[WG]at h;subst h;rfl
 ·simp at h
def Form.rw:Rw Form:=⟨Form.enc,Form.dec,Form.dec_inv⟩
theorem Form.rows(l:List Form):(∀x∈l.map Form.enc,x.length=5)=True:=by
 simp[Form.enc]
attribute [push_cast] Form.enc Form.dec Form.rows
structure step where
 at_:Int
 next:Int
 deriving Inhabited,DecidableEq
def step.enc(x:step):List D:=[.int .i64 x.at_,.int .i64 x.next]
def step.dec:List D->Option step
 |[.int .i64 v0,.int .i64 v1]=>some ⟨v0,v1⟩
 |_=>none
theorem step.dec_inv:∀(l:List D)(x:step),step.dec l=some x->l=x.enc:=by
 intro l x h;unfold step.dec at h;split at h
 ·simp only[WG]at h;subst h;rfl
 ·simp at h
def step.rw:Rw step:=⟨step.enc,step.dec,step.dec_inv⟩
theorem step.rows(l:List step):(∀x∈l.map step.enc,x.length=2)=True:=by
 simp[step.enc]
attribute [push_cast] step.enc step.dec step.rows
inductive Cap where
 deriving DecidableEq
def Cap.enc:Cap->List D
 |x=>by cases x
structure Clo where
 fn:Nat
 caps:List Cap
 deriving Inhabited,DecidableEq
end Lt
end

section
namespace Go.Am
open Go
inductive Sn where
 |Var|Class|Extern|Arg|In|Phi|Bind|Frame|Virt|Instr|Term|Block|Func|Program|Reader|Fault|Line|RForm|asked|Read|RLine|Form|step
 deriving DecidableEq,Inhabited
inductive U where
 |i (k:IntKind)|b8|bo|s|sl (u:U)|mp (k v:U)|fn|st (n:Sn)
 deriving DecidableEq,Inhabited
abbrev JY:Sn->Type
 |.Var=>Lt.Var
 |.Class=>Lt.Class
 |.Extern=>Lt.Extern
 |.Arg=>Lt.Arg
 |.In=>Lt.In
 |.Phi=>Lt.Phi
 |.Bind=>Lt.Bind
 |.Frame=>Lt.Frame
 |.Virt=>Lt.Virt
 |.Instr=>Lt.Instr
 |.Term=>Lt.Term
 |.Block=>Lt.Block
 |.Func=>Lt.Func
 |.Program=>Lt.Program
 |.Reader=>Lt.Reader
 |.Fault=>Lt.Fault
 |.Line=>Lt.Line
 |.RForm=>Lt.RForm
 |.asked=>Lt.asked
 |.Read=>Lt.Read
 |.RLine=>Lt.RLine
 |.Form=>Lt.Form
 |.step=>Lt.step
abbrev El:U->Type
 |.i _=>Int
 |.b8=>UInt8
 |.bo=>Bool
 |.s=>List UInt8
 |.sl u=>List (El u)
 |.mp k v=>Option (List (El k×El v))
 |.fn=>Lt.Clo
 |.st n=>JY n
abbrev Fl:List U->Type
 |[]=>Unit
 |[u]=>El u
 |u::v::r=>El u×Fl (v::r)
def Fl.cons:(u:U)->(us:List U)->El u->Fl us->Fl (u::us)
 |_,[],x,_=>x
 |_,_::_,x,y=>(x,y)
def Fl.hd:(u:U)->(us:List U)->Fl (u::us)->El u
 |_,[],x=>x
 |_,_::_,x=>x.1
def Fl.tl:(u:U)->(us:List U)->Fl (u::us)->Fl us
 |_,[],_=>()
 |_,_::_,x=>x.2
structure SD (α:Type) where
 fs:List U
 mkF:Fl fs->α
 un:α->Fl fs
 l1:∀x,mkF (un x)=x
 l2:∀y,un (mkF y)=y
 enc:α->List D
 df:α
def sd:(n:Sn)->SD (JY n)
 |.Var=>⟨[.s,.s],fun x=>⟨x.1,x.2⟩,fun x=>(x.Name,x.Type_),fun _=>rfl,fun _=>rfl,Lt.Var.enc,default⟩
 |.Class=>⟨[.s,(.sl (.st .Var))],fun x=>⟨x.1,x.2⟩,fun x=>(x.Name,x.Fields),fun _=>rfl,fun _=>rfl,Lt.Class.enc,default⟩
 |.Extern=>⟨[.s,.i .i64],fun x=>⟨x.1,x.2⟩,fun x=>(x.Name,x.N),fun _=>rfl,fun _=>rfl,Lt.Extern.enc,default⟩
 |.Arg=>⟨[.i .i64,.s,.i .i64],fun x=>⟨x.1,x.2.1,x.2.2⟩,fun x=>(x.Kind,x.S,x.N),fun _=>rfl,fun _=>rfl,Lt.Arg.enc,default⟩
 |.In=>⟨[.s,.i .i64,.s,.i .i64],fun x=>⟨x.1,⟨x.2.1,x.2.2.1,x.2.2.2⟩⟩,fun x=>(x.Block,x.A.Kind,x.A.S,x.A.N),fun _=>rfl,fun _=>rfl,Lt.In.enc,default⟩
 |.Phi=>⟨[.s,(.sl (.st .In))],fun x=>⟨x.1,x.2⟩,fun x=>(x.Dst,x.Ins),fun _=>rfl,fun _=>rfl,Lt.Phi.enc,default⟩
 |.Bind=>⟨[.s,.i .i64,.s,.i .i64],fun x=>⟨x.1,⟨x.2.1,x.2.2.1,x.2.2.2⟩⟩,fun x=>(x.Name,x.A.Kind,x.A.S,x.A.N),fun _=>rfl,fun _=>rfl,Lt.Bind.enc,default⟩
 |.Frame=>⟨[.s,.s,.i .i64,(.sl (.st .Bind))],fun x=>⟨x.1,x.2.1,x.2.2.1,x.2.2.2⟩,fun x=>(x.Func,x.Block,x.At,x.Vars),fun _=>rfl,fun _=>rfl,Lt.Frame.enc,default⟩
 |.Virt=>⟨[.s,(.sl (.st .Arg))],fun x=>⟨x.1,x.2⟩,fun x=>(x.Class,x.Vals),fun _=>rfl,fun _=>rfl,Lt.Virt.enc,default⟩
 |.Instr=>⟨[.i .i64,.s,.s,(.sl (.st .Arg)),(.sl (.st .Frame)),(.sl (.st .Virt))],fun x=>⟨x.1,x.2.1,x.2.2.1,x.2.2.2.1,x.2.2.2.2.1,x.2.2.2.2.2⟩,fun x=>(x.Op,x.Dst,x.Name,x.Args,x.Frames,x.Objs),fun _=>rfl,fun _=>rfl,Lt.Instr.enc,default⟩
 |.Term=>⟨[.i .i64,.i .i64,.s,.i .i64,.sl .s,.i .i64],fun x=>⟨x.1,⟨x.2.1,x.2.2.1,x.2.2.2.1⟩,x.2.2.2.2.1,x.2.2.2.2.2⟩,fun x=>(x.Kind,x.A.Kind,x.A.S,x.A.N,x.To,x.N),fun _=>rfl,fun _=>rfl,Lt.Term.enc,default⟩
 |.Block=>⟨[.s,(.sl (.st .Phi)),(.sl (.st .Instr)),.i .i64,.i .i64,.s,.i .i64,.sl .s,.i .i64],fun x=>⟨x.1,x.2.1,x.2.2.1,⟨x.2.2.2.1,⟨x.2.2.2.2.1,x.2.2.2.2.2.1,x.2.2.2.2.2.2.1⟩,x.2.2.2.2.2.2.2.1,x.2.2.2.2.2.2.2.2⟩⟩,fun x=>(x.Name,x.Phis,x.Code,x.End.Kind,x.End.A.Kind,x.End.A.S,x.End.A.N,x.End.To,x.End.N),fun _=>rfl,fun _=>rfl,Lt.Block.enc,default⟩
 |.Func=>⟨[.s,.s,(.sl (.st .Var)),(.sl (.st .Var)),(.sl (.st .Block))],fun x=>⟨x.1,x.2.1,x.2.2.1,x.2.2.2.1,x.2.2.2.2⟩,fun x=>(x.Name,x.Result,x.Params,x.Vars,x.Blocks),fun _=>rfl,fun _=>rfl,Lt.Func.enc,default⟩
 |.Program=>⟨[.bo,(.sl (.st .Class)),(.sl (.st .Var)),(.sl (.st .Extern)),(.sl (.st .Func))],fun x=>⟨x.1,x.2.1,x.2.2.1,x.2.2.2.1,x.2.2.2.2⟩,fun x=>(x.SSA,x.Classes,x.Globals,x.Externs,x.Funcs),fun _=>rfl,fun _=>rfl,Lt.Program.enc,default⟩
 |.Reader=>⟨[.bo,(.sl (.st .Class)),(.sl (.st .Var)),(.sl (.st .Extern)),(.sl (.st .Func)),.i .i64,.i .i64,.bo,.i .i64],fun x=>⟨⟨x.1,x.2.1,x.2.2.1,x.2.2.2.1,x.2.2.2.2.1⟩,x.2.2.2.2.2.1,x.2.2.2.2.2.2.1,x.2.2.2.2.2.2.2.1,x.2.2.2.2.2.2.2.2⟩,fun x=>(x.p.SSA,x.p.Classes,x.p.Globals,x.p.Externs,x.p.Funcs,x.at_,x.where_,x.first,x.long),fun _=>rfl,fun _=>rfl,Lt.Reader.enc,default⟩
 |.Fault=>⟨[.i .i64],fun x=>⟨x⟩,fun x=>x.e,fun _=>rfl,fun _=>rfl,Lt.Fault.enc,default⟩
 |.Line=>⟨[.i .i64,.sl .s],fun x=>⟨x.1,x.2⟩,fun x=>(x.N,x.Words),fun _=>rfl,fun _=>rfl,Lt.Line.enc,default⟩
 |.RForm=>⟨[.s,.bo,.bo,.i .i64,.i .i64],fun x=>⟨x.1,x.2.1,x.2.2.1,x.2.2.2.1,x.2.2.2.2⟩,fun x=>(x.Word,x.Dst,x.Named,x.Least,x.Most),fun _=>rfl,fun _=>rfl,Lt.RForm.enc,default⟩
 |.asked=>⟨[.bo,(.sl (.st .Class)),(.sl (.st .Var)),(.sl (.st .Extern)),(.sl (.st .Func)),.i .i64,.s,.s,(.sl (.st .Arg)),(.sl (.st .Frame)),(.sl (.st .Virt)),.s,.sl .s],fun x=>⟨⟨x.1,x.2.1,x.2.2.1,x.2.2.2.1,x.2.2.2.2.1⟩,⟨x.2.2.2.2.2.1,x.2.2.2.2.2.2.1,x.2.2.2.2.2.2.2.1,x.2.2.2.2.2.2.2.2.1,x.2.2.2.2.2.2.2.2.2.1,x.2.2.2.2.2.2.2.2.2.2.1⟩,x.2.2.2.2.2.2.2.2.2.2.2.1,x.2.2.2.2.2.2.2.2.2.2.2.2⟩,fun x=>(x.p.SSA,x.p.Classes,x.p.Globals,x.p.Externs,x.p.Funcs,x.i.Op,x.i.Dst,x.i.Name,x.i.Args,x.i.Frames,x.i.Objs,x.dst,x.args),fun _=>rfl,fun _=>rfl,Lt.asked.enc,default⟩
 |.Read=>⟨[.bo,(.sl (.st .Class)),(.sl (.st .Var)),(.sl (.st .Extern)),(.sl (.st .Func)),.i .i64,.i .i64],fun x=>⟨⟨x.1,x.2.1,x.2.2.1,x.2.2.2.1,x.2.2.2.2.1⟩,x.2.2.2.2.2.1,x.2.2.2.2.2.2⟩,fun x=>(x.P.SSA,x.P.Classes,x.P.Globals,x.P.Externs,x.P.Funcs,x.Where,x.Long),fun _=>rfl,fun _=>rfl,Lt.Read.enc,default⟩
 |.RLine=>⟨[.i .i64,.sl .s],fun x=>⟨x.1,x.2⟩,fun x=>(x.N,x.Words),fun _=>rfl,fun _=>rfl,Lt.RLine.enc,default⟩
 |.Form=>⟨[.s,.bo,.bo,.i .i64,.i .i64],fun x=>⟨x.1,x.2.1,x.2.2.1,x.2.2.2.1,x.2.2.2.2⟩,fun x=>(x.Word,x.Dst,x.Named,x.Least,x.Most),fun _=>rfl,fun _=>rfl,Lt.Form.enc,default⟩
 |.step=>⟨[.i .i64,.i .i64],fun x=>⟨x.1,x.2⟩,fun x=>(x.at_,x.next),fun _=>rfl,fun _=>rfl,Lt.step.enc,default⟩
def Uq:Lt.Cap->(n:Sn)×JY n
 |x=>by cases x
def Vx:(n:Sn)->JY n->Option Lt.Cap
 |_,_=>none
def V6:List Sn:=[]
theorem Rd{n:Sn}{x:JY n}{c:Lt.Cap}(h:Vx n x=some c):Uq c=⟨n,x⟩/\c.enc=(sd n).enc x:=by
 cases n<;>first|(cases h;exact⟨rfl,rfl⟩)|cases h
end Go.Am
end

section
namespace Go.Am
open Go.MapKept
def jz:D->D->Bool
 |.int k a,.int k' b=>decide (k=k')&&decide (a=b)
 |.bool a,.bool b=>a==b
 |.str a,.str b=>decide (a=b)
 |_,_=>false
def gW:TK->D->Bool
 |.int k,.int k' _=>decide (k'=k)
 |.bool,.bool _=>true
 |.str,.str _=>true
 |_,_=>false
def lV:List (D×Sh×D)->D->Option (Sh×D)
 |[],_=>none
 |x::l,k=>match jz x.1 k with
  |true=>some x.2
  |false=>lV l k
def gQ:List (D×Sh×D)->D->Sh×D->List (D×Sh×D)
 |[],k,v=>[(k,v)]
 |x::l,k,v=>match jz x.1 k with
  |true=>(k,v)::l
  |false=>x::gQ l k v
def zg:List (D×Sh×D)->D->List (D×Sh×D)
 |[],_=>[]
 |x::l,k=>match jz x.1 k with
  |true=>l
  |false=>x::zg l k
theorem kB{P:Program}{d:TypeDesc}{k k':D}{v v':Value}{H:FH}(hk:gW (eC P d) k=true)(hk':gW (eC P d) k'=true)(h:FDx H k v)(h':FDx H k' v'):IsKey d v/\(jz k k'=true ↔ v=v'):=by
 cases d<;>simp only[eC]at hk hk'<;>cases k<;>simp only[gW]at hk<;>(first|(cases hk;done)|skip)<;>cases k'<;>simp only[gW]at hk'<;>(first|(cases hk';done)|skip)
 ·obtain rfl:=gu h;obtain rfl:=gu h';exact⟨trivial,by simp[jz]⟩
 ·obtain⟨rfl,_⟩:=dL h;obtain⟨rfl,_⟩:=dL h';simp only[decide_eq_true_eq]at hk hk';subst hk;subst hk';exact⟨rfl,by simp[jz]⟩
 ·obtain⟨rfl,_⟩:=fm h;obtain⟨rfl,_⟩:=fm h';exact⟨trivial,by simp[jz]⟩
theorem lG{κ:TK}{k:D}(h:gW κ k=true):k.isKey=true:=by
 cases κ<;>cases k<;>first|rfl|cases h
theorem tz{P:Program}{d:TypeDesc}{w:World}{H:FH}{k:D}{kv:Value}(hk:gW (eC P d) k=true)(hkv:FDx H k kv):∀(l:List (D×Sh×D))(es:List MapEntry)(i:Nat)(f:Fp),MpO w H l es f->(l.all fun x=>gW (eC P d) x.1)=true ->
  (lV l k=none/\zg l k=l/\Instr.findNow d kv es i=some none/\(∀e∈es,e.key≠kv)/\∀w' v vv b n(fv:Fp),(∀b,f b≠0->w'.heap[b]? = w.heap[b]?)->OD w' H n v.1 v.2 fv vv->MpO w' H (gQ l k v) (es++[⟨kv,vv,b⟩]) (fun b=>fv b+f b)) \/
  ∃j x e n,∃f1 f2:Fp,lV l k=some x/\Instr.findNow d kv es i=some (some (i+j,e.val))/\OD w H n x.1 x.2 f1 e.val/\(∀b,f b=f1 b+f2 b)/\es[j]? = some e/\e.key=kv /\
   (∀w' v vv n(fv:Fp),(∀b,f2 b≠0->w'.heap[b]? = w.heap[b]?)->OD w' H n v.1 v.2 fv vv->MpO w' H (gQ l k v) (es.set j { e with key:=kv,val:=vv }) (fun b=>fv b+f2 b))/\MpO w H (zg l k) (es.eraseIdx j) f2
 |[],[],i,f,h,_=>.inl ⟨rfl,rfl,rfl,by simp,fun w' v vv b n fv hw h'=>⟨⟨lG hk,hkv⟩,fv,f,n,fun _=>rfl,h',h⟩⟩
 |x::l,e::es,i,f,h,ha=>by
  simp only[W0,WI]at ha;obtain⟨⟨h1,h2⟩,g1,g2,n,h3,h4,hr⟩:=h;obtain⟨q1,q2⟩:=kB (P:=P) ha.1 hk h2 hkv;obtain⟨p1,_⟩:=kB (P:=P) hk hk hkv hkv;obtain⟨r,e1,e2⟩:=sameNow_of_keys p1 q1;cases r with
  |true=>
   have hke:=e2.1 rfl
   have hq:=q2.2 hke.symm
   refine .inr ⟨0,x.2,e,n,g1,g2,by simp only[lV,hq],by simp[Instr.findNow,e1],h4,h3,rfl,hke.symm,fun w' v vv n fv hw hv=>?_,?_⟩
   ·simp only[gQ,hq,List.set_cons_zero];exact⟨⟨lG hk,hkv⟩,fv,g2,n,fun _=>rfl,hv,ix (fun _ _ _ h=>h) hw hr⟩
   ·simp only[zg,hq,List.eraseIdx_cons_zero];exact hr
  |false=>
   have hne:kv≠e.key:=fun q=>by have:=e2.2 q;cases this
   have hq:jz x.1 k=false:=by
    cases hb:jz x.1 k with
    |false=>rfl
    |true=>exact absurd (q2.1 hb).symm hne
   rcases tz hk hkv l es (i+1) g2 hr ha.2 with⟨k1,k0,k2,k3,k4⟩|⟨j,x',e',n',f1,f2,k1,k2,k3,k4,k5,k6,k7,k8⟩
   ·refine .inl ⟨by simp only[lV,hq,k1],by simp only[zg,hq,k0],by simp[Instr.findNow,e1,k2],fun y hy=>?_,fun w' v vv b n' fv hw hv=>?_⟩
    ·rcases WR.1 hy with rfl|hy
     ·exact fun q=>hne q.symm
     ·exact k3 y hy
    ·simp only[gQ,hq];exact⟨⟨h1,h2⟩,g1,fun b=>fv b+g2 b,n,fun b=>by have:=h3 b;dsimp only;omega,bQ (fun _ _ _ h=>h) n n _ _ _ _ (WN _) (fun b hb=>hw b (by have:=h3 b;omega)) h4,k4 w' v vv b n' fv (fun b hb=>hw b (by have:=h3 b;omega)) hv⟩
   ·refine .inr ⟨j+1,x',e',n',f1,fun b=>g1 b+f2 b,by simp only[lV,hq,k1],by simp[Instr.findNow,e1,k2];omega,k3,fun b=>by have:=h3 b;have:=k4 b;dsimp only;omega,by simpa using k5,k6,fun w' v vv n'' fv hw hv=>?_,?_⟩
    ·simp only[gQ,hq,List.set_cons_succ];exact⟨⟨h1,h2⟩,g1,fun b=>fv b+f2 b,n,fun b=>by dsimp only;omega,bQ (fun _ _ _ h=>h) n n _ _ _ _ (WN _) (fun b hb=>hw b (by dsimp only;omega)) h4,k7 w' v vv n'' fv (fun b hb=>hw b (by dsimp only;omega)) hv⟩
    ·simp only[zg,hq,List.eraseIdx_cons_succ];exact⟨⟨h1,h2⟩,g1,f2,n,fun _=>rfl,h4,k8⟩
 |[],_::_,_,_,h,_=>h.elim
 |_::_,[],_,_,h,_=>h.elim
section
variable {P:Program} {w:World} {H:FH}
theorem FU{es:Array MapEntry}{j:Nat}{e:MapEntry}(h:es[j]? = some e)(f:MapEntry->MapEntry):(es.modify j f).toList=es.toList.set j (f e):=by
 apply XI
 intro i;rw[Array.getElem?_toList,Array.getElem?_modify,XA];by_cases hi:j=i
 ·subst hi;have hl:j<es.toList.length:=by simpa using(XU.1 h).1
  rw[if_pos rfl,if_pos rfl,if_pos hl,h];rfl
 ·rw[if_neg hi,if_neg hi];simp
theorem wc{mt kt et:TypeId}{d:TypeDesc}{b ck:Nat}{es:Array MapEntry}{l:List (D×Sh×D)}{f:Fp}{k:D}{kv vv:Value}(hm:P.underlying mt=some (.map kt et))(hd:P.underlying kt=some d)(hb:w.heap[b]? = some (.map es ck))(hs:Stamped es ck)
  (hl:MpO w H l es.toList f) (hfb:f b=0) (ha:(l.all fun x=>gW (eC P d) x.1)=true) (hk:gW (eC P d) k=true) (hkv:FDx H k kv) {v:Sh×D} {n:Nat} {fv:Fp} (hvb:fv b=0) (hv:OD w H n v.1 v.2 fv vv) :
  ∃es' ck',∃f2:Fp,(Instr.mapUpdate mt (.map (some b)) kv vv).run P w=.ok () { w with heap:=w.heap.setIfInBounds b (.map es' ck') }/\Stamped es' ck'/\(∀c,f2 c<=f c)/\MpO { w with heap:=w.heap.setIfInBounds b (.map es' ck') } H (gQ l k v) es'.toList (fun c=>fv c+f2 c):=by
 have hkey:IsKey d kv:=(kB (P:=P) hk hk hkv hkv).1
 have hne:∀es' ck' c,c≠b->({ w with heap:=w.heap.setIfInBounds b (.map es' ck') }:World).heap[c]? = w.heap[c]? := fun es' ck' c hc=>(heap_set hb).2 c hc
 have hod:∀es' ck',OD { w with heap:=w.heap.setIfInBounds b (.map es' ck') } H n v.1 v.2 fv vv:=fun es' ck'=>bQ (fun _ _ _ h=>h) n n _ _ _ _ (WN _) (fun c hc=>hne es' ck' c (fun e=>by subst e;exact hc hvb)) hv
 rcases tz hk hkv l es.toList 0 f hl ha with⟨_,_,g2,g3,g4⟩|⟨j,x,e,n',f1,f2,_,g2,_,g3,g4,g5,g6,_⟩
 ·refine⟨es.push ⟨kv,vv,ck⟩,ck+1,f,?_,stamped_push hs g3,fun _=>WN _,?_⟩
  ·simp[Instr.mapUpdate,run_underlying hm,MapKept.run_getObj_map hb,run_checkKey hd hkey,run_findKey hd g2,run_setObj_map _ hb,Result.andThen]
  ·rw[Array.toList_push];exact g4 _ v vv ck n fv (fun c hc=>hne _ _ c (fun e=>by subst e;exact hc hfb)) (hod _ _)
 ·have hj:es[j]? = some e:=by simpa using g4
  rw[Xy]at g2;refine⟨es.modify j fun e=>{ e with key:=kv,val:=vv },ck,f2,?_,stamped_modify hs _ _ (fun _ _=>rfl) (fun e' _ he'=>by rw[hj]at he';obtain rfl:=Option.some.inj he';exact g5.symm),fun c=>by have:=g3 c;omega,?_⟩
  ·simp[Instr.mapUpdate,run_underlying hm,MapKept.run_getObj_map hb,run_checkKey hd hkey,run_findKey hd g2,hj,g5,run_keyThatStays hkey,run_setObj_map _ hb,Result.andThen]
  ·rw[FU hj];exact g6 _ v vv n fv (fun c hc=>hne _ _ c (fun e=>by subst e;have:=g3 c;omega)) (hod _ _)
theorem Gv{mt kt et ty:TypeId}{d:TypeDesc}{b ck:Nat}{es:Array MapEntry}{l:List (D×Sh×D)}{f:Fp}{k:D}{kv:Value}(hm:P.underlying mt=some (.map kt et))(hd:P.underlying kt=some d)(hb:w.heap[b]? = some (.map es ck))(hs:Stamped es ck)
  (hl:MpO w H l es.toList f) (hfb:f b=0) (ha:(l.all fun x=>gW (eC P d) x.1)=true) (hk:gW (eC P d) k=true) (hkv:FDx H k kv) (ats:Array TypeId) (hat:ats[0]? = some mt) :
  ∃es',∃f2:Fp,(Builtin.delete_ ats ty #[.map (some b),kv]).run P w=.ok (.tuple #[]) { w with heap:=w.heap.setIfInBounds b (.map es' ck) }/\Stamped es' ck/\(∀c,f2 c<=f c)/\MpO { w with heap:=w.heap.setIfInBounds b (.map es' ck) } H (zg l k) es'.toList f2:=by
 have hkey:IsKey d kv:=(kB (P:=P) hk hk hkv hkv).1
 have hfr:∀es'(f2:Fp),(∀c,f2 c<=f c)->∀{l':List (D×Sh×D)}{es2:List MapEntry},MpO w H l' es2 f2->MpO { w with heap:=w.heap.setIfInBounds b (.map es' ck) } H l' es2 f2:=fun es' f2 hf2 _ _ h=>ix (fun _ _ _ h=>h) (fun c hc=>(heap_set hb).2 c (fun e=>by subst e;have:=hf2 c;omega)) h
 rcases tz hk hkv l es.toList 0 f hl ha with⟨_,g1,g2,_,_⟩|⟨j,x,e,n',f1,f2,_,g2,_,g3,g4,_,_,g5⟩
 ·refine⟨es,f,?_,hs,fun _=>WN _,hfr _ _ (fun _=>WN _) (by rw[g1];exact hl)⟩;simp[Builtin.delete_,hat,run_underlying hm,MapKept.run_getObj_map hb,run_checkKey hd hkey,run_findKey hd g2,run_setObj_map _ hb,Result.andThen]
 ·rw[Xy]at g2;have hle:∀c,f2 c<=f c:=fun c=>by have:=g3 c;omega
  refine⟨es.eraseIdxIfInBounds j,f2,?_,stamped_erase hs j,hle,hfr _ _ hle ?_⟩
  ·simp[Builtin.delete_,hat,run_underlying hm,MapKept.run_getObj_map hb,run_checkKey hd hkey,run_findKey hd g2,run_setObj_map _ hb,Result.andThen]
  ·have hj:j<es.size:=by have:=ah g4;simpa using this
   have:(es.eraseIdxIfInBounds j).toList=es.toList.eraseIdx j:=by simp[Array.eraseIdxIfInBounds,hj]
   rw[this];exact g5
theorem pf{mt kt et:TypeId}{d:TypeDesc}{b ck:Nat}{es:Array MapEntry}{l:List (D×Sh×D)}{f:Fp}{k:D}{kv z:Value}(hm:P.underlying mt=some (.map kt et))(hd:P.underlying kt=some d)(hb:w.heap[b]? = some (.map es ck))
  (hl:MpO w H l es.toList f) (ha:(l.all fun x=>gW (eC P d) x.1)=true) (hk:gW (eC P d) k=true) (hkv:FDx H k kv) (hz:(zeroValue et).run P w=.ok z w) (ok:Bool) :
  ∃v,(Instr.lookup mt (.map (some b)) kv ok).run P w=.ok (if ok then .tuple #[v,.bool (lV l k).isSome]else v) w /\
   (match lV l k with|some x=>∃n,∃f1 f2:Fp,OD w H n x.1 x.2 f1 v/\(∀c,f c=f1 c+f2 c)/\MpO w H (gQ l k (x.1,.any)) es.toList f2|none=>v=z/\MpO w H l es.toList f):=by
 have hkey:IsKey d kv:=(kB (P:=P) hk hk hkv hkv).1
 rcases tz hk hkv l es.toList 0 f hl ha with⟨g1,_,g2,_,_⟩|⟨j,x,e,n,f1,f2,g1,g2,g3,g4,g5,g6,g7,_⟩
 ·refine⟨z,?_,by rw[g1];exact⟨rfl,hl⟩⟩;rw[g1];simp[Instr.lookup,run_underlying hm,MapKept.run_getObj_map hb,run_checkKey hd hkey,run_findKey hd g2,hz,Result.andThen]
 ·refine⟨e.val,?_,?_⟩
  ·rw[g1];simp[Instr.lookup,run_underlying hm,MapKept.run_getObj_map hb,run_checkKey hd hkey,run_findKey hd g2,Result.andThen]
  ·rw[g1];refine⟨n,f1,f2,g3,g4,?_⟩;have hany:OD w H (n+1) x.1 .any (fun _=>0) e.val:=by
    cases x.1 with
    |fr=>exact dU.2 ⟨fun _=>rfl,0,trivial⟩
    |ow sub=>exact fun _=>rfl
   have h:=g7 w (x.1,.any) e.val (n+1) (fun _=>0) (fun _ _=>rfl) hany
   have e1:es.toList.set j { e with key:=kv,val:=e.val }=es.toList:=by
    refine XI fun i=>?_
    rw[XA];split
    ·rename_i e2;subst e2;rw[g5];split
     ·obtain⟨a,b,c⟩:=e;dsimp only at g6;rw[g6]
     ·rename_i h;rw[W8 Z1]at g5;cases g5
    ·rfl
   rw[e1]at h;simpa using h
end
theorem DR{F:Nm->Fp}{n:Nm}{f':Fp}:∀{m:Mm},n ∉ m.map (·.1)->∀c,tot (upd F n f') m c=tot F m c
 |[],_,_=>rfl
 |x::m,h,c=>by
  simp only[List.map_cons,WR,not_or]at h;simp only[tot];rw[jd (fun e=>h.1 e.symm),DR h.2]
theorem wq{F:Nm->Fp}{n:Nm}{f':Fp}:∀{m:Mm}{r:Root},ab m n=some r->(m.map (·.1)).Nodup->∀c,tot (upd F n f') m c+F n c=tot F m c+f' c
 |[],_,h,_,_=>by simp[ab]at h
 |(k,x)::m,r,h,hk,c=>by
  simp only[List.map_cons,Xl]at hk;simp only[tot];by_cases e:k=n
  ·subst e;rw[cQ,DR hk.1];omega
  ·simp only[ab]at h;rw[if_neg e]at h;rw[jd e];have:=wq h hk.2 c (F:=F) (f':=f')
   omega
def T.gh:T->Bool
 |.mp _=>true
 |.it _ _=>true
 |_=>false
theorem vA{t:T}(h:t.gh=true){off:Nat}{p:List Step}(hc:aF [t] off p):p=[]:=by
 cases p with
 |nil=>rfl
 |cons st u=>
  exfalso
  unfold aF at hc;cases off with
  |succ k=>exact hc.elim
  |zero=>cases t<;>first|exact hc.elim|(simp[T.gh]at h)
theorem zR{t:T}(h:t.gh=true){off:Nat}{p:List Step}(hc:bf [t] off p):off=0/\p=[]:=by
 unfold bf at hc;cases off with
 |succ k=>cases p<;>exact hc.elim
 |zero=>cases p with
  |nil=>exact⟨rfl,rfl⟩
  |cons st u=>cases t<;>first|exact hc.elim|(simp[T.gh]at h)
theorem Rx{t:T}(h:t.gh=true):bf [t] 0 []:=by
 cases t<;>first|trivial|(simp[T.gh]at h)
section
variable {P:Program} {g:G} {s:S} {a:Act} {w:World} {H:FH} {γ:Gam} {F:Nm->Fp}
theorem M8(h:RX g s a w H γ F){n:Nm}{t t':T}(hg1:t.gh=true)(hg2:t'.gh=true)(hr:ab s.m n=some ⟨false,[t]⟩){v:Value}(hγ:γ n=.gh v){w':World}{H':FH}{f':Fp}
  (hT:TR w' H' γ s.m t' f' v) (hle:∀c,tot F s.m c+f' c<=F n c+1) (hlt:∀c,f' c≠0->c<w.heap.size/\(∀o,H' c o=none)/\(g.own0 c≠0\/g.w0.heap.size<=c))
  (hsz:w'.heap.size=w.heap.size) (hos:w'.os=w.os) (htp:w'.tape=w.tape) (hout:w'.output=w.output)
  (hb:∀c,F n c=0->w'.heap[c]? = w.heap[c]?) (hH:∀b o y,H b o=some y->H' b o=some y) (hag:∀b o y,H' b o=some y->RdV w' b o y)
  (hnew:∀b o,H' b o≠none->H b o=none->F n b≠0/\f' b=0)
  (hnz:(∀b,Thawed w b->Thawed w' b)/\∀b o x l c,H' b o=some (.c (.slice x l c))->H b o=none->Thawed w' b) :
  RX g ⟨s.t,bE s.m n ⟨false,[t']⟩⟩ a w' H' γ (upd F n f'):=by
 have hgr:∀k,ab (bE s.m n ⟨false,[t']⟩) k=if n=k then some ⟨false,[t']⟩else ab s.m k:=fun k=>dP hr
 have hK:Keeps w γ s.m w' γ (bE s.m n ⟨false,[t']⟩):=by
  have fr:∀q,bD s.m q->q.root≠n->plA w' γ q=plA w γ q/\plV w' γ q=plV w γ q:=fun q hq hne=>rU h.mem hq (fun c hc=>hb c (by
   obtain⟨r',h1,_⟩:=ap.1 hq;have:=qF (F:=F) (ae hr) (ae h1) (fun e=>hne e.symm) c
   have:=h.mem.le1 c
   dsimp only at *;omega))
  constructor
  ·intro q hq;by_cases e:q.root=n
   ·obtain⟨r',h1,h2⟩:=ap.1 hq;rw[e,hr]at h1;obtain rfl:=Option.some.inj h1;refine⟨?_,?_⟩
    ·rw[ap,hgr,if_pos e.symm];refine⟨_,rfl,?_⟩;have hp:=vA hg1 h2
     unfold aF at h2⊢;rw[hp]at h2⊢;exact h2
    ·unfold plA;rw[vA hg1 h2,e,hγ]
   ·exact⟨ap.2 (by rw[hgr,if_neg (fun e2=>e e2.symm)];exact ap.1 hq),(fr q hq e).1⟩
  ·intro q hq;by_cases e:q.root=n
   ·obtain⟨r',h1,h2⟩:=bx.1 hq;rw[e,hr]at h1;obtain rfl:=Option.some.inj h1;obtain⟨ho,hp⟩:=zR hg1 h2;refine⟨?_,?_⟩
    ·rw[bx,hgr,if_pos e.symm];refine⟨_,rfl,?_⟩;rw[ho,hp];exact Rx hg2
    ·unfold plV;rw[hp,e,hγ];rfl
   ·exact⟨bx.2 (by rw[hgr,if_neg (fun e2=>e e2.symm)];exact bx.1 hq),(fr q (dH hq) e).2⟩
 have htot:∀c,tot (upd F n f') (⟨s.t,bE s.m n ⟨false,[t']⟩⟩:S).m c+F n c=tot F s.m c+f' c:=fun c=>by
  show tot (upd F n f') (bE s.m n ⟨false,[t']⟩) c+F n c=_
  rw[cC];exact wq hr h.mem.keys c
 have hge:∀c,F n c<=tot F s.m c:=fun c=>aW (F:=F) (ae hr) c
 refine⟨⟨hag,fun x hx=>?_,by rw[kC];exact h.mem.keys,fun c=>by have:=htot c;have:=hle c;omega,fun c hc=>?_,fun c hc o=>?_⟩,?_,h.nt,h.df,fun i=>bV hK hH (h.t i)⟩
 ·rcases mJ h.mem.keys hx with⟨hn,hx⟩|rfl
  ·rw[jd hn];exact aN hK hH rfl (fun c hc=>hb c (by
    have:=qF (F:=F) (ae hr) hx (fun e=>hn e.symm) c
    have:=h.mem.le1 c
    dsimp only at *;omega)) (h.mem.roots x hx)
  ·unfold a8;dsimp only;rw[if_neg (by simp)];refine⟨v,_,hγ,rfl,?_⟩;rw[cQ];cases t'<;>first|exact hT|(simp[T.gh]at hg2)
 ·rw[hsz];by_cases hf:f' c=0
  ·exact h.mem.lt c (by have:=htot c;omega)
  ·exact(hlt c hf).1
 ·cases hc1:H' c o with
  |none=>rfl
  |some y=>
   exfalso
   by_cases hf:f' c=0
   ·cases hc2:H c o with
    |some z=>
     have:tot F s.m c=0:=by
      rcases W7 (tot F s.m c)with h'|h'
      ·exact h'
      ·have:=h.mem.nofz c Z1 o;rw[hc2]at this;cases this
     have:=htot c;omega
    |none=>
     have h3:=(hnew c o (by rw[hc1];simp) hc2).1
     have:=htot c;have:=h.mem.le1 c;have:=hge c;omega
   ·have:=(hlt c hf).2.1 o;rw[hc1]at this;cases this
 ·have hfr:=h.fr
  have hown:∀c,F n c≠0->g.own0 c≠0\/g.w0.heap.size<=c:=fun c hc=>hfr.tt c (by have:=hge c;omega)
  refine⟨by rw[hsz];exact hfr.size,by rw[hos];exact hfr.os,by rw[htp];exact hfr.tape,by rw[hout];exact hfr.output,fun k hk h0=>?_,fun b o y hy=>hH _ _ _ (hfr.hold b o y hy),fun b o h1 h2=>?_,fun b hb2=>?_,fun b hb2=>hnz.1 b (hfr.nz.1 b hb2),fun b o x l2 c h1 h2=>?_⟩
  ·rw[hb k (by
    rcases W7 (F n k)with h'|h'
    ·exact h'
    ·rcases hown k Z1 with h''|h''
     ·exact absurd h0 h''
     ·omega)]
   exact hfr.block k hk h0
  ·cases hc:H b o with
   |some z=>exact hfr.hnew b o (by rw[hc];simp) h2
   |none=>exact hown b (hnew b o h1 hc).1
  ·by_cases hf:f' b=0
   ·exact hfr.tt b (by have:=htot b;omega)
   ·exact(hlt b hf).2.2
  ·cases hc:H b o with
   |some z=>
    have:=hH _ _ _ hc
    rw[h1]at this;obtain rfl:=Option.some.inj this;exact hnz.1 b (hfr.nz.2 b o x l2 c hc h2)
   |none=>exact hnz.2 b o x l2 c h1 hc
theorem Eo(h:RX g s a w H γ F){n:Nm}{l l':List (D×Sh×D)}(hr:ab s.m n=some ⟨false,[.mp l]⟩){v:Value}(hγ:γ n=.gh v){w':World}{H':FH}{f':Fp}
  (hT:TR w' H' γ s.m (.mp l') f' v) (hle:∀c,tot F s.m c+f' c<=F n c+1) (hlt:∀c,f' c≠0->c<w.heap.size/\(∀o,H' c o=none)/\(g.own0 c≠0\/g.w0.heap.size<=c))
  (hsz:w'.heap.size=w.heap.size) (hos:w'.os=w.os) (htp:w'.tape=w.tape) (hout:w'.output=w.output)
  (hb:∀c,F n c=0->w'.heap[c]? = w.heap[c]?) (hH:∀b o y,H b o=some y->H' b o=some y) (hag:∀b o y,H' b o=some y->RdV w' b o y)
  (hnew:∀b o,H' b o≠none->H b o=none->F n b≠0/\f' b=0)
  (hnz:(∀b,Thawed w b->Thawed w' b)/\∀b o x l c,H' b o=some (.c (.slice x l c))->H b o=none->Thawed w' b) :
  RX g ⟨s.t,bE s.m n ⟨false,[.mp l']⟩⟩ a w' H' γ (upd F n f'):=M8 h rfl rfl hr hγ hT hle hlt hsz hos htp hout hb hH hag hnew hnz
theorem O4(h:Mem w H γ s.m F){n:Nm}{l:List (D×Sh×D)}(hr:ab s.m n=some ⟨false,[.mp l]⟩) :
  ∃b es ck,∃f:Fp,γ n=.gh (.map (some b))/\w.heap[b]? = some (.map es ck)/\Stamped es ck/\MpO w H l es.toList f/\(∀c,F n c=f c+if c=b then 1 else 0)/\f b=0:=by
 have hroot:=h.roots _ (ae hr)
 unfold a8 at hroot;dsimp only at hroot;rw[if_neg (by simp)]at hroot;obtain⟨v,t,h1,h2,h3⟩:=hroot;obtain rfl:t=.mp l:=by simpa using h2.symm
 obtain⟨b,es,ck,f,rfl,k2,k3,k4,k5⟩:=h3;refine⟨b,es,ck,f,h1,k2,k3,k4,k5,?_⟩;have:=k5 b
 rw[if_pos rfl]at this;have:=h.le1 b
 have:=aW (F:=F) (ae hr) b
 dsimp only at *;omega
theorem GH{b:Nat}{es es':Array MapEntry}{ck ck':Nat}(hb:w.heap[b]? = some (.map es ck)):∀c,Thawed w c->Thawed { w with heap:=w.heap.setIfInBounds b (.map es' ck') } c:=fun c h0=>h0.of_block ((heap_set hb).2 c (fun e=>by
 obtain⟨cs,ty,e2⟩:=h0;subst e;rw[hb]at e2;cases e2))
theorem N4{w:World}{b:Nat}{es es':Array MapEntry}{ck ck':Nat}(hb:w.heap[b]? = some (.map es ck))(a:Addr):({ w with heap:=w.heap.setIfInBounds b (.map es' ck') }:World).cell? a=w.cell? a:=by
 unfold World.cell?;by_cases h:a.block=b
 ·rw[h,(heap_set hb).1,hb]
 ·rw[(heap_set hb).2 _ h]
theorem qU(h:RX g s a w H γ F){n:Nm}{l l':List (D×Sh×D)}(hr:ab s.m n=some ⟨false,[.mp l]⟩){b ck ck':Nat}{es es':Array MapEntry}{f f':Fp}(hγ:γ n=.gh (.map (some b)))(hb:w.heap[b]? = some (.map es ck))(hF:∀c,F n c=f c+if c=b then 1 else 0)
  (hs':Stamped es' ck') (hl':MpO { w with heap:=w.heap.setIfInBounds b (.map es' ck') } H l' es'.toList f') (hle:∀c,tot F s.m c+f' c<=f c+1) (hlt:∀c,f' c≠0->c<w.heap.size/\(∀o,H c o=none)/\(g.own0 c≠0\/g.w0.heap.size<=c)) :
  RX g ⟨s.t,bE s.m n ⟨false,[.mp l']⟩⟩ a { w with heap:=w.heap.setIfInBounds b (.map es' ck') } H γ (upd F n (fun c=>f' c+if c=b then 1 else 0)):=by
 have hcell:=fun a=>N4 (es':=es') (ck':=ck') hb a
 have hset:=heap_set (o':=.map es' ck') hb
 have htb:tot F s.m b≠0:=by have:=aW (F:=F) (ae hr) b;have:=hF b;rw[if_pos rfl]at this;dsimp only at *;omega
 refine Eo h hr hγ ⟨b,es',ck',f',rfl,hset.1,hs',hl',fun _=>rfl⟩ (fun c=>by have:=hle c;have:=hF c;(try dsimp only);omega) (fun c hc=>?_) (by simp) rfl rfl rfl (fun c hc=>hset.2 c (fun e=>by subst e;have:=hF c;rw[if_pos rfl]at this;omega)) (fun _ _ _ h=>h) (fun b' o y hy=>(h.mem.agree b' o y hy).frame (hset.2 b' (fun e=>by subst e;rw[h.mem.nofz _ htb o]at hy;cases hy))) (fun b o h1 h2=>absurd h2 h1) ⟨GH hb,fun c o x y z h1 h2=>by rw[h2]at h1;cases h1⟩;by_cases e:c=b
 ·subst e;exact⟨h.mem.lt c htb,h.mem.nofz c htb,h.fr.tt c htb⟩
 ·(try dsimp only at hc)
  rw[if_neg e]at hc;exact hlt c Z1
theorem JP(h:RX g s a w H γ F){n:Nm}(hno:n.isOut=false)(hn:ab s.m n=none) :
  ∃γ' F',RX g ⟨s.t,(n,⟨false,[.mp []]⟩)::s.m⟩ a (w.alloc (.map #[] 0)) H γ' F'/\γ' n=.gh (.map (some w.heap.size)):=by
 have hold:∀k,k<w.heap.size->(w.alloc (.map #[] 0)).heap[k]? = w.heap[k]? := fun k hk=>bU hk
 have h1:=mg h (w':=w.alloc (.map #[] 0)) (by simp) rfl rfl rfl (fun b hb=>.inl (hold b hb))
 have hz:tot F s.m w.heap.size=0:=by
  rcases W7 (tot F s.m w.heap.size)with h'|h'
  ·exact h'
  ·have:=h.mem.lt w.heap.size Z1;omega
 refine cG h1 hno hn (v:=.map (some w.heap.size)) (t:=.mp []) (f:=fun b=>if b=w.heap.size then 1 else 0) ⟨w.heap.size,#[],0,fun _=>0,rfl,bi,stamped_empty 0,fun _=>rfl,fun _=>(Xy _).symm⟩ (fun b=>?_) (fun b hb=>?_) (fun b hb=>?_)
 ·by_cases e:b=w.heap.size
  ·subst e;rw[hz];simp
  ·rw[if_neg e];have:=h.mem.le1 b;omega
 ·have e:b=w.heap.size:=by
   by_cases e:b=w.heap.size
   ·exact e
   ·rw[if_neg e]at hb;exact absurd rfl hb
  subst e;refine⟨by simp,fun o=>?_⟩;cases hc:H w.heap.size o with
  |none=>rfl
  |some y=>have:=(h.mem.agree _ _ _ hc).lt;simp at this
 ·right
  have e:b=w.heap.size:=by
   by_cases e:b=w.heap.size
   ·exact e
   ·rw[if_neg e]at hb;exact absurd rfl hb
  have:=h.fr.size
  omega
theorem qN{m:Mm}{n:Nm}{l:List (D×Sh×D)}{v:Value}(hn:ab m n=some ⟨false,[.mp l]⟩)(hg:γ n=.gh v):AR w H γ m (.one (.c (.rf ⟨n,0,[]⟩))) v:=by
 refine⟨fun _=>rfl,?_,?_⟩
 ·rw[bx];exact⟨_,hn,trivial⟩
 ·unfold plV;dsimp only;rw[hg];rfl
theorem JQ(h:RX g s a w H γ F){n:Nm}{l l':List (D×Sh×D)}(hr:ab s.m n=some ⟨false,[.mp l]⟩){b ck:Nat}{es:Array MapEntry}{f f1 f2:Fp}(hγ:γ n=.gh (.map (some b)))(hb:w.heap[b]? = some (.map es ck))(hs:Stamped es ck)(hF:∀c,F n c=f c+if c=b then 1 else 0)
  (hf:∀c,f c=f1 c+f2 c) (hl':MpO w H l' es.toList f2) {n2:Nm} (hno:n2.isOut=false) (hn2:ab s.m n2=none) {sub:List Sh} {rows:List (List D)} {k:Nat} {v:Value} (hod:OD w H k (.ow sub) (.li rows) f1 v) :
  ∃γ' F',RX g ⟨s.t,(n2,⟨false,[.ow sub rows]⟩)::bE s.m n ⟨false,[.mp l']⟩⟩ a w H γ' F'/\γ' n2=.gh v:=by
 have hge:∀c,F n c<=tot F s.m c:=fun c=>aW (F:=F) (ae hr) c
 have h1:RX g ⟨s.t,bE s.m n ⟨false,[.mp l']⟩⟩ a w H γ (upd F n (fun c=>f2 c+if c=b then 1 else 0)):=
  Eo h hr hγ ⟨b,es,ck,f2,rfl,hb,hs,hl',fun _=>rfl⟩ (fun c=>by have:=hF c;have:=hf c;have:=h.mem.le1 c;(try dsimp only);omega) (fun c hc=>by
   have h3:tot F s.m c≠0:=by have:=hF c;have:=hf c;have:=hge c;(try dsimp only at hc);omega
   exact⟨h.mem.lt c h3,h.mem.nofz c h3,h.fr.tt c h3⟩) rfl rfl rfl rfl (fun _ _=>rfl) (fun _ _ _ h=>h) h.mem.agree (fun b o h1 h2=>absurd h2 h1) jE
 have hne:n≠n2:=fun e=>by rw[<- e,hr]at hn2;cases hn2
 refine cG h1 hno (by show ab (bE s.m n _) n2=none;rw[dP hr,if_neg hne];exact hn2) (v:=v) (t:=.ow sub rows) (f:=f1) ⟨k,hod⟩ (fun c=>?_) (fun c hc=>?_) (fun c hc=>?_)
 ·have h3:tot (upd F n (fun c=>f2 c+if c=b then 1 else 0)) (bE s.m n ⟨false,[.mp l']⟩) c+F n c=tot F s.m c+(f2 c+if c=b then 1 else 0):=by rw[cC];exact wq hr h.mem.keys c
  have:=hF c;have:=hf c;have:=h.mem.le1 c
  show tot (upd F n _) (bE s.m n _) c+f1 c<=1
  omega
 ·have h3:tot F s.m c≠0:=by have:=hF c;have:=hf c;have:=hge c;omega
  exact⟨h.mem.lt c h3,h.mem.nofz c h3⟩
 ·have h3:tot F s.m c≠0:=by have:=hF c;have:=hf c;have:=hge c;omega
  exact h.fr.tt c h3
def Ux(l:List (D×Sh×D)):List (D×Sh×D):=l.map fun x=>(x.1,.fr,x.2.2)
theorem Iu{H':FH}(hH:∀b o y,H b o=some y->H' b o=some y):∀{l:List (D×Sh×D)}{es:List MapEntry}{f:Fp},MpO w H l es f->(∀b,f b≠0->∀o z,w.cell? ⟨b,o,none⟩=some z->H' b o=some z)->MpO w H' (Ux l) es (fun _=>0)
 |[],[],_,_,_=>fun _=>rfl
 |x::l,e::es,f,h,hc=>by
  obtain⟨⟨h1,h2⟩,f1,f2,k,h3,h4,h5⟩:=h;exact⟨⟨h1,cr hH h2⟩,fun _=>0,fun _=>0,k,fun _=>rfl,dU.2 ⟨fun _=>rfl,M3 hH k _ _ _ _ h4 (fun b hb=>hc b (by have:=h3 b;omega))⟩,Iu hH h5 (fun b hb=>hc b (by have:=h3 b;omega))⟩
 |[],_::_,_,h,_=>h.elim
 |_::_,[],_,h,_=>h.elim
theorem A9:∀{l:List (D×Sh×D)}{es:List MapEntry}{f:Fp},MpO w H l es f->∀b,f b≠0->Thawed w b
 |[],[],_,h,b,hb=>absurd (h b) hb
 |x::l,e::es,f,h,b,hb=>by
  obtain⟨_,f1,f2,k,h3,h4,h5⟩:=h;by_cases h0:f1 b=0
  ·exact A9 h5 b (by have:=h3 b;omega)
  ·exact Ix k _ _ _ _ h4 b h0
 |[],_::_,_,h,_,_=>h.elim
 |_::_,[],_,h,_,_=>h.elim
theorem Na(h:RX g s a w H γ F){n:Nm}{l:List (D×Sh×D)}(hr:ab s.m n=some ⟨false,[.mp l]⟩):∃H' F',RX g ⟨s.t,bE s.m n ⟨false,[.mp (Ux l)]⟩⟩ a w H' γ F':=by
 obtain⟨b,es,ck,f,h1,h2,h3,h4,h5,h6⟩:=O4 h.mem hr;have hge:∀c,F n c<=tot F s.m c:=fun c=>aW (F:=F) (ae hr) c
 have hft:∀c,f c≠0->tot F s.m c≠0:=fun c hc=>by have:=h5 c;have:=hge c;omega
 let H':FH:=fun b o=>if f b≠0 then(w.cell? ⟨b,o,none⟩).map HV.c else H b o
 have hH:∀b o y,H b o=some y->H' b o=some y:=by
  intro b o y hy;simp only[H'];split
  ·rename_i e;rw[h.mem.nofz b (hft b e) o]at hy;cases hy
  ·exact hy
 have hag:∀b o y,H' b o=some y->RdV w b o y:=by
  intro b o y hy;simp only[H']at hy;split at hy
  ·obtain⟨z,hz,rfl⟩:=WW.1 hy;exact hz
  ·exact h.mem.agree b o y hy
 have hbt:tot F s.m b≠0:=by have:=h5 b;rw[if_pos rfl]at this;have:=hge b;omega
 refine⟨H',_,Eo h hr h1 ⟨b,es,ck,fun _=>0,rfl,h2,h3,Iu hH h4 (fun b hb o z hz=>by simp only[H'];rw[if_pos hb,hz];rfl),fun _=>rfl⟩ (fun c=>by have:=h5 c;have:=h.mem.le1 c;(try dsimp only);omega) (fun c hc=>?_) rfl rfl rfl rfl (fun _ _=>rfl) hH hag (fun c o k1 k2=>?_) ⟨fun _ h=>h,fun c o x l2 q k1 k2=>?_⟩⟩
 ·have e:c=b:=by
   by_cases e:c=b
   ·exact e
   ·(try dsimp only at hc);rw[if_neg e]at hc;omega
  subst e;refine⟨h.mem.lt c hbt,fun o=>?_,h.fr.tt c hbt⟩;simp only[H'];rw[if_neg Z1];exact h.mem.nofz c hbt o
 ·have hc:f c≠0:=fun e=>by simp only[H']at k1;rw[if_neg Z1]at k1;exact k1 k2
  refine⟨by have:=h5 c;omega,?_⟩;dsimp only;rw[if_neg (fun e=>by subst e;exact hc h6)]
 ·have hc:f c≠0:=fun e=>by simp only[H']at k1;rw[if_neg Z1,k2]at k1;cases k1
  exact A9 h4 c hc
end
end Go.Am
end

section
namespace Go.Am
open MapKept
def mpD(l:List (D×Sh×D)):D:=.mp (some (l.map fun e=>(e.1,e.2.2)))
def esV(es:List MapEntry):List (Value×Value):=es.map fun e=>(e.key,e.val)
def frL(l:List (D×Sh×D)):Bool:=l.all fun e=>match e.2.1 with
 |.fr=>true
 |_=>false
def T.frm(n:Nm)(x:D):T->T
 |.rf p=>if p.root=n then(match p with
  |⟨_,0,[]⟩=>.d x
  |_=>.any)else .rf p
 |t=>t.kill (aX n)
def frzm(s:S)(n:Nm)(x:D):S:=⟨oY (AV.map (T.frm n x)) s.t,aC (aX n) (bz s.m n)⟩
theorem M1{w:World}{H:FH}:∀{l:List (D×Sh×D)}{es:List MapEntry}{f:Fp},frL l=true->MpO w H l es f->(esV es).length=l.length/\∃m,∀(i:Nat)(x:D×D)(y:Value×Value),(l.map fun e=>(e.1,e.2.2))[i]? = some x->(esV es)[i]? = some y->FD H m x.1 y.1/\FD H m x.2 y.2
 |[],[],_,_,_=>⟨rfl,0,fun i x y h _=>by simp at h⟩
 |a::l,e::es,f,hf,h=>by
  obtain⟨⟨_,⟨m1,h1⟩⟩,f1,f2,k,h2,h3,h4⟩:=h;simp only[frL,W0,WI]at hf;obtain⟨e1,m2,e2⟩:=M1 (by simpa[frL]using hf.2) h4;have hs:a.2.1=.fr:=by
   have:=hf.1
   split at this
   ·assumption
   ·cases this
  rw[hs]at h3;obtain⟨_,m3,h5⟩:=dU.1 h3;refine⟨by simp only[esV,List.map_cons,WL]at e1⊢;omega,m1+m2+m3,fun i x y hx hy=>?_⟩;have mono:=fun{m:Nat}(hm:m<=m1+m2+m3){d:D}{v:Value}(h:FD H m d v)=>eG (fun _ _ _ h=>h) m (m1+m2+m3) d v hm h
  cases i with
  |zero=>
   simp only[esV,List.map_cons,Xi,WG]at hx hy;subst hx hy;exact⟨mono Z1 h1,mono Z1 h5⟩
  |succ i=>
   simp only[esV,List.map_cons,Xx]at hx hy;obtain⟨a1,a2⟩:=e2 i x y hx hy;exact⟨mono Z1 a1,mono Z1 a2⟩
 |[],_::_,_,_,h=>h.elim
 |_::_,[],_,_,h=>h.elim
section
variable {g:G} {s:S} {a:Act} {w:World} {H:FH} {γ:Gam} {F:Nm->Fp}
theorem Qo(h:RX g s a w H γ F){n:Nm}{l:List (D×Sh×D)}(hr:ab s.m n=some ⟨false,[.mp l]⟩)(hl:frL l=true):∃H' F',RX g (frzm s n (mpD l)) a w H' γ F':=by
 obtain⟨b,es,ck,f,h1,h2,h3,h4,h5,h6⟩:=O4 h.mem hr;have hge:∀c,F n c<=tot F s.m c:=fun c=>aW (F:=F) (ae hr) c
 have hbt:tot F s.m b≠0:=by have:=h5 b;rw[if_pos rfl]at this;have:=hge b;omega
 let H':FH:=fun c o=>if c=b/\o=0 then some (.m es ck)else H c o
 have hH:∀c o y,H c o=some y->H' c o=some y:=by
  intro c o y hy;simp only[H'];rw[if_neg (fun e=>by rw[e.1,h.mem.nofz b hbt o]at hy;cases hy)];exact hy
 have hag:∀c o y,H' c o=some y->RdV w c o y:=by
  intro c o y hy;simp only[H']at hy;split at hy
  ·rename_i e;obtain rfl:=Option.some.inj hy;rw[e.1];exact⟨h2,h3⟩
  ·exact h.mem.agree c o y hy
 have hd:=yJ h.mem n
 have hdt:∀c,tot F (aC (aX n) (bz s.m n)) c+F n c=tot F s.m c:=fun c=>by rw[aV];exact wo hr c
 have hdb:tot F (aC (aX n) (bz s.m n)) b=0:=by
  have:=hdt b;have:=h.mem.le1 b;have:=h5 b;rw[if_pos rfl]at this;omega
 have hKr:Keeps w γ (aC (aX n) (bz s.m n)) w γ (aC (aX n) (bz s.m n)):=⟨fun q hq=>⟨hq,rfl⟩,fun q hq=>⟨hq,rfl⟩⟩
 have hx:FDx H' (mpD l) (.map (some b)):=by
  obtain⟨e1,m,e2⟩:=M1 hl h4;refine⟨m+1,b,es,ck,rfl,by simp[H'],by rw[WJ,<- e1,esV,WJ],fun i x y hx hy=>?_⟩;obtain⟨a1,a2⟩:=e2 i x (y.key,y.val) hx (by rw[esV,WK,hy];rfl);exact⟨eG hH _ _ _ _ (WN _) a1,eG hH _ _ _ _ (WN _) a2⟩
 refine⟨H',F,⟨⟨hag,fun x hx=>aN hKr hH rfl (fun _ _=>rfl) (hd.roots x hx),hd.keys,hd.le1,hd.lt,fun c hc o=>?_⟩,?_,h.nt,h.df,fun i=>?_⟩⟩
 ·simp only[H'];rw[if_neg (fun e=>hc (by rw[e.1];exact hdb))];exact hd.nofz c hc o
 ·refine⟨h.fr.size,h.fr.os,h.fr.tape,h.fr.output,h.fr.block,fun c o y hy=>hH _ _ _ (h.fr.hold c o y hy),fun c o k1 k2=>?_,fun c hc=>h.fr.tt c ?_,h.fr.nz.1,fun c o x l' q k1 k2=>?_⟩
  ·simp only[H']at k1;split at k1
   ·rename_i e;rw[e.1];exact h.fr.tt b hbt
   ·exact h.fr.hnew c o k1 k2
  ·have:=hdt c
   have hc:tot F (aC (aX n) (bz s.m n)) c≠0:=hc
   omega
  ·simp only[H']at k1;split at k1
   ·cases k1
   ·exact h.fr.nz.2 c o x l' q k1 k2
 ·show AR w H' γ _ (aL (oY _ s.t) i) _
  rw[nD rfl];refine dW (fun t y ht=>?_) (h.t i);have hk:=fun(t:T) (ht:TR w H γ s.m t (fun _=>0) y)=>np (cZ (n:=n)) hH (fun _ hb=>absurd rfl hb) ht
  cases t with
  |rf p=>
   simp only[T.frm];split
   ·rename_i e;split
    ·rename_i q;subst e;obtain⟨_,_,hv⟩:=ht;have hv2:aq w (γ q) 0=some y:=hv
     rw[h1]at hv2;obtain rfl:Value.map (some b)=y:=by simpa[aq]using hv2
     exact⟨fun _=>rfl,hx⟩
    ·exact fun _=>rfl
   ·rename_i e;have:=hk _ ht
    simp only[T.kill]at this;rw[if_neg (by simp[aX,e])]at this;exact this
  |_=>exact hk _ ht
end
theorem wa{P:Program}{w:World}{H:FH}{mt kt et:TypeId}{d:TypeDesc}{k:D}{kv z:Value}(hm:P.underlying mt=some (.map kt et))(hd:P.underlying kt=some d)(hk:gW (eC P d) k=true)(hkv:FDx H k kv)(hz:(zeroValue et).run P w=.ok z w)(ok:Bool) :
  (Instr.lookup mt (.map none) kv ok).run P w=.ok (if ok then .tuple #[z,.bool false]else z) w:=by
 have hkey:IsKey d kv:=(kB (P:=P) hk hk hkv hkv).1
 simp[Instr.lookup,run_underlying hm,run_checkKey hd hkey,Instr.findKey,Instr.findNow,run_underlying hd,hz,Result.andThen]
theorem M2{w:World}{H:FH}{m:Nat}:∀{l:List (D×D)}{es:List MapEntry},(esV es).length=l.length->(∀(i:Nat)(x:D×D)(y:Value×Value),l[i]? = some x->(esV es)[i]? = some y->FD H m x.1 y.1/\FD H m x.2 y.2)->(∀e∈l,e.1.isKey=true)->MpO w H (l.map fun e=>(e.1,Sh.fr,e.2)) es (fun _=>0)
 |[],[],_,_,_=>fun _=>rfl
 |x::l,e::es,hl,h,hk=>by
  have h0:=h 0 x (e.key,e.val) rfl rfl
  refine⟨⟨hk x (by simp),m,h0.1⟩,fun _=>0,fun _=>0,0,fun _=>rfl,dU.2 ⟨fun _=>rfl,m,h0.2⟩,M2 (by simpa[esV]using hl) (fun i a b ha hb=>h (i+1) a b (by simpa using ha) (by simpa[esV]using hb)) (fun a ha=>hk a (by simp[ha]))⟩
 |[],_::_,h,_,_=>by simp[esV]at h
 |_::_,[],h,_,_=>by simp[esV]at h
theorem MI{w:World}{H:FH}{l:List (D×D)}{y:Value}(hag:∀b o y,H b o=some y->RdV w b o y)(hk:∀e∈l,e.1.isKey=true)(h:FDx H (.mp (some l)) y) :
  ∃b es ck,y=.map (some b)/\w.heap[b]? = some (.map es ck)/\Stamped es ck/\MpO w H (l.map fun e=>(e.1,Sh.fr,e.2)) es.toList (fun _=>0):=by
 obtain⟨m,h⟩:=h;cases m with
 |zero=>exact h.elim
 |succ m=>
  obtain⟨b,es,ck,h1,h2,h3,h4⟩:=h;obtain⟨h5,h6⟩:=hag b 0 _ h2;refine⟨b,es,ck,h1,h5,h6,M2 (m:=m) (by rw[esV,WJ];exact h3) (fun i x y hx hy=>?_) hk⟩;rw[esV,WK]at hy;obtain⟨e,he,rfl⟩:=WW.1 hy;exact h4 i x e hx he
end Go.Am
end

section
namespace Go.Am
inductive C where
 |i (k:IntKind) (n:Int)
 |b (x:UInt8)
 |bo (x:Bool)
 |s (l:List UInt8)
 |li (u:U) (l:List (El u))
 |mp (k v:U) (l:Option (List (El k×El v)))
 |nm
 |fn (c:Lt.Clo)
 |v (x:Value)
 |any
 deriving Inhabited
def dflt:(u:U)->El u
 |.i _=>(default:Int)
 |.b8=>(default:UInt8)
 |.bo=>(default:Bool)
 |.s=>(default:List UInt8)
 |.sl _=>[]
 |.mp _ _=>none
 |.fn=>default
 |.st n=>(sd n).df
def n8(u' u:U)(l:List (El u')):Option (List (El u)):=if h:u'=u then some (cast (by rw[h]) l)else none
theorem gG{u' u:U}{l:List (El u')}{x:List (El u)}(h:n8 u' u l=some x):∃e:u'=u,x=e ▸ l:=by
 unfold n8 at h;split at h
 ·rename_i e;subst e;exact⟨rfl,(Option.some.inj h).symm⟩
 ·cases h
def N2(k' v' k v:U)(l:Option (List (El k'×El v'))):Option (Option (List (El k×El v))):=if h:k'=k/\v'=v then some (cast (by rw[h.1,h.2]) l)else none
theorem N3{k' v' k v:U}{l:Option (List (El k'×El v'))}{x:Option (List (El k×El v))}(h:N2 k' v' k v l=some x):∃e:k'=k,∃e2:v'=v,x=e ▸ e2 ▸ l:=by
 unfold N2 at h;split at h
 ·rename_i e;obtain⟨e1,e2⟩:=e;subst e1 e2;exact⟨rfl,rfl,(Option.some.inj h).symm⟩
 ·cases h
def aj:(u:U)->El u->C
 |.i k,n=>.i k n
 |.b8,x=>.b x
 |.bo,x=>.bo x
 |.s,l=>.s l
 |.sl u,l=>.li u l
 |.mp k v,l=>.mp k v l
 |.fn,x=>.fn x
 |.st _,_=>.any
def dY:(u:U)->C->Option (El u)
 |.i k,.i k' n=>if k'=k then some n else none
 |.b8,.b x=>some x
 |.bo,.bo x=>some x
 |.s,.s l=>some l
 |.sl u,.li u' l=>n8 u' u l
 |.mp k v,.mp k' v' l=>N2 k' v' k v l
 |.fn,.fn c=>some c
 |_,_=>none
def leaf:U->Bool
 |.st _=>false
 |_=>true
theorem cp{u:U}{c:C}{x:El u}(h:dY u c=some x):c=aj u x:=by
 unfold dY at h;split at h
 ·split at h
  ·rename_i e;subst e;rw[<- Option.some.inj h];rfl
  ·cases h
 ·rw[<- Option.some.inj h];rfl
 ·rw[<- Option.some.inj h];rfl
 ·rw[<- Option.some.inj h];rfl
 ·obtain⟨e,rfl⟩:=gG h;subst e;rfl
 ·obtain⟨e,e2,rfl⟩:=N3 h;subst e e2;rfl
 ·rw[<- Option.some.inj h];rfl
 ·cases h
def dB:(us:List U)->Fl us->List C
 |[],_=>[]
 |u::r,x=>aj u (Fl.hd u r x)::dB r (Fl.tl u r x)
def jG:(us:List U)->List C->Option (Fl us)
 |[],[]=>some ()
 |u::r,c::cs=>match dY u c,jG r cs with
  |some x,some y=>some (Fl.cons u r x y)
  |_,_=>none
 |_,_=>none
theorem pY(u:U)(us:List U)(x:El u)(y:Fl us):Fl.hd u us (Fl.cons u us x y)=x:=by cases us<;>rfl
theorem qC(u:U)(us:List U)(x:El u)(y:Fl us):Fl.tl u us (Fl.cons u us x y)=y:=by cases us<;>rfl
theorem vz:∀{us:List U}{cs:List C}{x:Fl us},jG us cs=some x->cs=dB us x
 |[],[],_,_=>rfl
 |u::r,c::cs,x,h=>by
  simp only[jG]at h;cases h1:dY u c with
  |none=>rw[h1]at h;cases h
  |some a=>
   cases h2:jG r cs with
   |none=>rw[h1,h2]at h;cases h
   |some b=>
    rw[h1,h2]at h;simp only[WG]at h;subst h;rw[dB,pY,qC,<- cp h1,<- vz h2]
 |[],_::_,_,h=>by simp[jG]at h
 |_::_,[],_,h=>by simp[jG]at h
def flat:(u:U)->El u->List C
 |.st n,x=>dB (sd n).fs ((sd n).un x)
 |.i k,x=>[.i k x]
 |.b8,x=>[.b x]
 |.bo,x=>[.bo x]
 |.s,x=>[.s x]
 |.sl u,x=>[.li u x]
 |.mp k v,x=>[.mp k v x]
 |.fn,x=>[.fn x]
def unflat:(u:U)->List C->Option (El u)
 |.st n,cs=>match jG (sd n).fs cs with
  |some y=>some ((sd n).mkF y)
  |none=>none
 |u,[c]=>dY u c
 |_,_=>none
theorem iA:∀{u:U}(_:leaf u=true)(x:El u),flat u x=[aj u x]
 |.i _,_,_=>rfl
 |.b8,_,_=>rfl
 |.bo,_,_=>rfl
 |.s,_,_=>rfl
 |.sl _,_,_=>rfl
 |.mp _ _,_,_=>rfl
 |.fn,_,_=>rfl
 |.st _,h,_=>by cases h
theorem r9{u:U}{cs:List C}{x:El u}(h:unflat u cs=some x):cs=flat u x:=by
 cases u with
 |st n=>
  simp only[unflat]at h;cases h1:jG (sd n).fs cs with
  |none=>rw[h1]at h;cases h
  |some y=>
   rw[h1]at h;have hx:=Option.some.inj h
   subst hx;show cs=dB (sd n).fs ((sd n).un ((sd n).mkF y))
   rw[(sd n).l2,<- vz h1]
 |_=>
  cases cs with
  |nil=>cases h
  |cons c r=>cases r with
   |nil=>rw[iA rfl,<- cp h]
   |cons _ _=>cases h
def nc:U->Nat
 |.st n=>(sd n).fs.length
 |_=>1
theorem n9:∀(us:List U)(x:Fl us),(dB us x).length=us.length
 |[],_=>rfl
 |u::r,x=>by simp only[dB,WL,n9 r]
theorem mC{u:U}(x:El u):(flat u x).length=nc u:=by
 cases u with
 |st n=>exact n9 _ _
 |_=>rfl
def al:(u:U)->El u->List D
 |.i k,n=>[.int k n]
 |.b8,x=>[.int .u8 (x.toNat:Int)]
 |.bo,x=>[.bool x]
 |.s,l=>[.str l]
 |.sl u,l=>[.li (l.map (al u))]
 |.mp k v,l=>[.mp (l.map fun l=>l.map fun x=>((al k x.1).headD .any,(al v x.2).headD .any))]
 |.fn,x=>[.fn x.fn (x.caps.map Lt.Cap.enc)]
 |.st n,x=>(sd n).enc x
def C.toD:C->D
 |.i k n=>.int k n
 |.b x=>.int .u8 (x.toNat:Int)
 |.bo x=>.bool x
 |.s l=>.str l
 |.li u l=>.li (l.map (al u))
 |.mp ku vu l=>.mp (l.map fun l=>l.map fun x=>((al ku x.1).headD .any,(al vu x.2).headD .any))
 |.nm=>.mp none
 |.fn c=>.fn c.fn (c.caps.map Lt.Cap.enc)
 |.v x=>.v x
 |.any=>.any
theorem UU:∀(n:Sn)(x:JY n),(dB (sd n).fs ((sd n).un x)).map C.toD=(sd n).enc x:=by
 intro n;cases n<;>intro x<;>rfl
theorem bq{u:U}(x:El u):(flat u x).map C.toD=al u x:=by
 cases u with
 |st n=>exact UU n x
 |_=>rfl
theorem gH{u:U}(x:El u):(al u x).length=nc u:=by rw[<- bq,WJ,mC]
inductive Tt where
 |d (c:C)
 |nil
 |ow (sh:List Sh) (u:U) (l:List (El u))
 |mp (ku vu:U) (l:List (El ku×El vu))
 |mo (ku u:U) (l:List (El ku×List (El u))) (h:Option (El ku))
 |it (ku vu:U) (cur:Option (El ku×El vu)) (rest:List (El ku×El vu))
 |el (row:List C) (off:Nat)
 |ga (u:U) (l:List (El u)) (i:Nat)
 |pl (p:Pl)
 |rf (p:Pl)
 |any
 deriving Inhabited
def Oc(ku u:U)(x:El ku×List (El u)):D×Sh×D:=((aj ku x.1).toD,.ow (List.replicate (nc u) .fr),.li (x.2.map (al u)))
def sY(l:List (D×Sh×D))(k:D):List (D×Sh×D):=match lV l k with
 |some x=>gQ l k (x.1,.any)
 |none=>l
def moD(ku u:U)(l:List (El ku×List (El u))):Option (El ku)->List (D×Sh×D)
 |none=>l.map (Oc ku u)
 |some k=>sY (l.map (Oc ku u)) (aj ku k).toD
def nY(ku vu:U)(x:El ku×El vu):D×D:=((aj ku x.1).toD,(aj vu x.2).toD)
def Tt.toT:Tt->T
 |.d c=>.d c.toD
 |.nil=>.nil
 |.ow sh u l=>.ow sh (l.map (al u))
 |.mp ku vu l=>.mp (l.map fun x=>((aj ku x.1).toD,.fr,(aj vu x.2).toD))
 |.mo ku u l h=>.mp (moD ku u l h)
 |.it ku vu cur rest=>.it (cur.map (nY ku vu)) (rest.map (nY ku vu))
 |.el row off=>.el (row.map C.toD) off
 |.ga u l i=>.el (l.map fun x=>(aj u x).toD) i
 |.pl p=>.pl p
 |.rf p=>.rf p
 |.any=>.any
inductive A1 where
 |c (t:Tt)
 |agg (ts:List Tt)
 deriving Inhabited
def A1.toV:A1->AV1
 |.c t=>.c t.toT
 |.agg ts=>.agg (ts.map Tt.toT)
inductive At where
 |one (x:A1)
 |tup (vs:List A1)
 |any
 deriving Inhabited
def At.toV:At->AV
 |.one x=>.one x.toV
 |.tup vs=>.tup (vs.map A1.toV)
 |.any=>.any
structure Rt where
 blk:Bool
 cells:List Tt
 hole:Option (Nat×Step×List Step)
def holed(cells:List T):Option (Nat×Step×List Step)->List T
 |none=>cells
 |some (off,st,q)=>match cells[off]? with
  |some (.ow sub l)=>cells.set off (.ow sub (bF sub l .any (st::q)))
  |_=>cells
def Rt.toR(r:Rt):Root:=⟨r.blk,holed (r.cells.map Tt.toT) r.hole⟩
structure St where
 nx:Nat
 t:List (Nat×Nat×At)
 m:List (Nm×Nat×Rt)
def St.toS(s:St):S:=⟨s.t.map fun x=>(x.1,x.2.2.toV),s.m.map fun x=>(x.1,x.2.2.toR)⟩
def gtA:List (Nat×Nat×At)->Nat->At
 |[],_=>.any
 |(k,_,v)::t,i=>match Nat.beq k i with
  |true=>v
  |false=>gtA t i
def bj:List (Nm×Nat×Rt)->Nm->Option Rt
 |[],_=>none
 |(k,_,r)::m,n=>if k=n then some r else bj m n
def cn:List (Nm×Nat×Rt)->Nm->Nat->Rt->List (Nm×Nat×Rt)
 |[],_,_,_=>[]
 |(k,j,x)::m,n,i,r=>if k=n then(k,i,r)::m else(k,j,x)::cn m n i r
def dC:List (Nm×Nat×Rt)->Nm->List (Nm×Nat×Rt)
 |[],_=>[]
 |(k,j,x)::m,n=>if k=n then dC m n else(k,j,x)::dC m n
theorem cj(i:Nat):∀t:List (Nat×Nat×At),aL (t.map fun x=>(x.1,x.2.2.toV)) i=(gtA t i).toV
 |[]=>rfl
 |(k,j,v)::t=>by
  simp only[List.map_cons,aL,gtA];by_cases h:k=i
  ·subst h;rw[if_pos rfl,Yq]
  ·rw[if_neg h];have:Nat.beq k i=false:=by
    cases hb:Nat.beq k i
    ·rfl
    ·exact absurd (WS hb) h
   rw[this];exact cj i t
abbrev toM(m:List (Nm×Nat×Rt)):Mm:=m.map fun x=>(x.1,x.2.2.toR)
theorem pW(n:Nm):∀m:List (Nm×Nat×Rt),ab (toM m) n=(bj m n).map Rt.toR
 |[]=>rfl
 |(k,j,v)::m=>by
  simp only[toM,List.map_cons,ab,bj];by_cases h:k=n
  ·rw[if_pos h,if_pos h];rfl
  ·rw[if_neg h,if_neg h];exact pW n m
theorem dJ(n:Nm)(i:Nat)(r:Rt):∀m:List (Nm×Nat×Rt),toM (cn m n i r)=bE (toM m) n r.toR
 |[]=>rfl
 |(k,j,v)::m=>by
  simp only[toM,List.map_cons,bE,cn];by_cases h:k=n
  ·rw[if_pos h,if_pos h];rfl
  ·rw[if_neg h,if_neg h,List.map_cons];exact congrArg _ (dJ n i r m)
abbrev ND(m:List (Nm×Nat×Rt)):Prop:=(m.map (·.1)).Nodup
theorem IU(n:Nm):∀m:List (Nm×Nat×Rt),n ∉ m.map (·.1)->dC m n=m
 |[],_=>rfl
 |(k,j,v)::m,h=>by
  simp only[List.map_cons,WR,not_or]at h;simp only[dC];rw[if_neg (fun e=>h.1 e.symm),IU n m h.2]
theorem kz(n:Nm):∀m:List (Nm×Nat×Rt),ND m->toM (dC m n)=bz (toM m) n
 |[],_=>rfl
 |(k,j,v)::m,hn=>by
  have hn':k ∉ m.map (·.1)/\(m.map (·.1)).Nodup:=by simpa[ND]using hn
  simp only[toM,List.map_cons,bz,dC];by_cases h:k=n
  ·subst h;rw[if_pos rfl,if_pos rfl,IU k m hn'.1]
  ·rw[if_neg h,if_neg h,List.map_cons];exact congrArg _ (kz n m hn'.2)
def St.put(s:St):Option Tmp->At->St
 |none,_=>s
 |some d,v=>⟨s.nx+1,(d,s.nx,v)::s.t,s.m⟩
def Tt.kill(bad:Bool->Pl->Bool):Tt->Tt
 |.pl p=>if bad false p then .any else .pl p
 |.rf p=>if bad true p then .any else .rf p
 |t=>t
def A1.kill(bad:Bool->Pl->Bool):A1->A1
 |.c t=>.c (t.kill bad)
 |.agg ts=>.agg (ts.map (·.kill bad))
def At.kill(bad:Bool->Pl->Bool):At->At
 |.one x=>.one (x.kill bad)
 |.tup xs=>.tup (xs.map (·.kill bad))
 |.any=>.any
def Tt.ment(n:Nm):Tt->Bool
 |.pl p=>decide (p.root=n)
 |.rf p=>decide (p.root=n)
 |_=>false
def Tt.hit(bad:Bool->Pl->Bool):Tt->Bool
 |.pl p=>bad false p
 |.rf p=>bad true p
 |_=>false
def A1.hit(bad:Bool->Pl->Bool):A1->Bool
 |.c t=>t.hit bad
 |.agg ts=>ts.any (·.hit bad)
def At.hit(bad:Bool->Pl->Bool):At->Bool
 |.one x=>x.hit bad
 |.tup xs=>xs.any (·.hit bad)
 |.any=>false
def Rt.kill(bad:Bool->Pl->Bool)(r:Rt):Rt:=⟨r.blk,r.cells.map (·.kill bad),r.hole⟩
def stp:Bool->Nat->Nat->Nat
 |true,i,_=>i
 |false,_,j=>j
def kD(bad:Bool->Pl->Bool)(nx:Nat)(t:List (Nat×Nat×At)):List (Nat×Nat×At):=t.map fun x=>(x.1,stp (x.2.2.hit bad) nx x.2.1,x.2.2.kill bad)
def bP(bad:Bool->Pl->Bool)(nx:Nat)(m:List (Nm×Nat×Rt)):List (Nm×Nat×Rt):=m.map fun x=>(x.1,stp (x.2.2.cells.any (·.hit bad)) nx x.2.1,x.2.2.kill bad)
def St.drop(s:St)(n:Nm):St:=⟨s.nx+1,kD (aX n) s.nx s.t,bP (aX n) s.nx (dC s.m n)⟩
def St.fresh(s:St)(n:Nm):St:=match bj s.m n with
 |none=>s
 |some _=>s.drop n
def St.root(s:St)(n:Nm)(r:Rt):St:=⟨s.nx+1,s.t,(n,s.nx,r)::s.m⟩
def Tt.frz(q:Pl)(u:U)(l:List (El u)):Tt->Tt
 |.rf p=>match p with
  |⟨n,o,[]⟩=>if n=q.root/\o=q.off then .d (.li u l)else(Tt.rf ⟨n,o,[]⟩).kill (thr q)
  |p=>(Tt.rf p).kill (thr q)
 |t=>t.kill (thr q)
def A1.map(f:Tt->Tt):A1->A1
 |.c t=>.c (f t)
 |.agg ts=>.agg (ts.map f)
def At.map(f:Tt->Tt):At->At
 |.one x=>.one (x.map f)
 |.tup xs=>.tup (xs.map (·.map f))
 |.any=>.any
def setCell(m:List (Nm×Nat×Rt))(n:Nm)(i:Nat)(off:Nat)(t:Tt):List (Nm×Nat×Rt):=match bj m n with
 |some r=>cn m n i { r with cells:=r.cells.set off t }
 |none=>m
def GI(q:Pl)(rf:Bool)(p:Pl):Bool:=thr q rf p||(rf&&decide (p.root=q.root/\p.off=q.off))
def Tt.frm(n:Nm)(c:C):Tt->Tt
 |.rf p=>if p.root=n then(match p with
  |⟨_,0,[]⟩=>.d c
  |_=>.any)else .rf p
 |t=>t.kill (aX n)
def Oo(s:St)(n:Nm)(c:C):St:=⟨s.nx+1,s.t.map fun x=>(x.1,stp (x.2.2.hit (aX n)) s.nx x.2.1,x.2.2.map (Tt.frm n c)),bP (aX n) s.nx (dC s.m n)⟩
def pV(s:St)(q:Pl):St:=
 match q.path,bj s.m q.root with
 |[],some r=>match r.hole,r.cells[q.off]? with
  |none,some (.ow _ u l)=>⟨s.nx+1,s.t.map fun x=>(x.1,stp (x.2.2.hit (GI q)) s.nx x.2.1,x.2.2.map (Tt.frz q u l)),
    setCell (bP (thr q) s.nx (setCell s.m q.root s.nx q.off .any)) q.root s.nx q.off (.d (.li u l))⟩
  |none,some (.mp ku vu l)=>match r.blk,r.cells,leaf ku&&leaf vu with
   |false,[_],true=>Oo s q.root (.mp ku vu (some l))
   |_,_,_=>s
  |_,_=>s
 |_,_=>s
def I0(s:St):Tt->St
 |.rf p=>pV s p
 |_=>s
def zj:St->List Tt->St
 |s,[]=>s
 |s,t::ts=>zj (I0 s t) ts
def dV(s:St):At->St
 |.one (.c t)=>I0 s t
 |.one (.agg ts)=>zj s ts
 |_=>s
def bw(s:St):List At->St
 |[]=>s
 |v::vs=>bw (dV s v) vs
def mkC(k:IntKind)(n:Int):C:=match k with
 |.u8=>.b (UInt8.ofNat n.toNat)
 |k=>.i k n
def iT:C->Option (IntKind×Int)
 |.i k n=>match k with
  |.u8=>none
  |k=>some (k,n)
 |.b x=>some (.u8,(x.toNat:Int))
 |_=>none
def my:Value->Tt
 |.bool b=>.d (.bo b)
 |.int k n=>match k with
  |.u8=>if 0<=n/\n < 256 then .d (.b (UInt8.ofNat n.toNat))else .any
  |k=>.d (.i k n)
 |.string s=>.d (.s s.data.toList)
 |.slice none 0 0=>.nil
 |.pointer none=>.d (.v (.pointer none))
 |.map none=>.d .nm
 |.nilFunc=>.d (.v .nilFunc)
 |.nilIface=>.d (.v .nilIface)
 |.func f a b=>.d (.v (.func f a b))
 |_=>.any
def Us:Value->At
 |.agg cs=>.one (.agg (cs.toList.map my))
 |v=>.one (.c (my v))
abbrev sct(x:C):At:=.one (.c (.d x))
def Tw(k:Nat):Option (List (List UInt8)):=match og k with
 |none=>none
 |some _=>some gw
def evA(s:St):Operand->At
 |.tmp t=>gtA s.t t
 |.const v=>Us v
 |.func f=>sct (.fn ⟨f,[]⟩)
 |.global g=>match Tw g with
  |some l=>.one (.c (.ga .s l 0))
  |none=>.any
def sM(c x y:At)(k:At->Prop):Prop:=
 match c with
 |.one (.c (.d (.bo b)))=>if b=true then k x else k y
 |_=>False
def FW(op:BinOp)(k:IntKind)(a b:Int)(K:C->Prop):Prop:=
 match op with
 |.add=>K (mkC k (k.wrap (a+b)))
 |.sub=>K (mkC k (k.wrap (a-b)))
 |.mul=>K (mkC k (k.wrap (a*b)))
 |.quo=>b≠0/\K (mkC k (k.wrap (a.tdiv b)))
 |.rem=>b≠0/\K (mkC k (a.tmod b))
 |.and=>K (mkC k (k.wrap (BitVec.ofInt k.bits a &&& BitVec.ofInt k.bits b).toNat))
 |.or=>K (mkC k (k.wrap (BitVec.ofInt k.bits a ||| BitVec.ofInt k.bits b).toNat))
 |.xor=>K (mkC k (k.wrap (BitVec.ofInt k.bits a ^^^ BitVec.ofInt k.bits b).toNat))
 |.andNot=>K (mkC k (k.wrap (BitVec.ofInt k.bits a &&& ~~~BitVec.ofInt k.bits b).toNat))
 |.shl=>0<=b/\K (mkC k (k.wrap (a*2 ^ (min b.toNat k.bits))))
 |.shr=>0<=b/\K (mkC k (a.fdiv (2 ^ (min b.toNat k.bits))))
 |.eql=>K (.bo (decide (a=b)))
 |.neq=>K (.bo (!decide (a=b)))
 |.lss=>K (.bo (decide (a<b)))
 |.leq=>K (.bo (decide (a<=b)))
 |.gtr=>K (.bo (decide (b<a)))
 |.geq=>K (.bo (decide (b<=a)))
def UC:BinOp->Bool
 |.shl=>true
 |.shr=>true
 |_=>false
def wB(op:BinOp)(x y:C)(K:C->Prop):Prop:=
 match x,y with
 |.s a,.s b=>match op with
  |.add=>a.length+b.length<=4611686018427387904/\K (.s (a++b))
  |.eql=>K (.bo (decide (a=b)))
  |.neq=>K (.bo (!decide (a=b)))
  |.lss=>K (.bo (Op.bytesLess a b))
  |.leq=>K (.bo (Op.bytesLess a b||decide (a=b)))
  |.gtr=>K (.bo (!(Op.bytesLess a b||decide (a=b))))
  |.geq=>K (.bo (!Op.bytesLess a b))
  |_=>False
 |x,y=>match iT x,iT y with
  |some (k,a),some (k',b)=>if UC op=true\/k=k' then FW op k a b K else False
  |_,_=>False
def eqC(ck:CK)(x y:C):Option Bool:=
 match ck with
 |.i=>match iT x,iT y with
  |some (k,a),some (k',b)=>if k=k' then some (decide (a=b))else none
  |_,_=>none
 |.s=>match x,y with
  |.s a,.s b=>some (decide (a=b))
  |_,_=>none
 |.b=>match x,y with
  |.bo a,.bo b=>some (a==b)
  |_,_=>none
def K0:List (Nat×CK)->List C->List C->Option Bool
 |[],_,_=>some true
 |(o,ck)::l,xs,ys=>match xs[o]?,ys[o]? with
  |some x,some y=>match eqC ck x y,l with
   |some b,[]=>some b
   |some b,l=>match K0 l xs ys with
    |some r=>some (b&&r)
    |none=>none
   |none,_=>none
  |_,_=>none
def TC:Tt->C
 |.d c=>c
 |_=>.any
def UG:C->Option Bool
 |.mp _ _ z=>some z.isNone
 |.nm=>some true
 |_=>none
def By(P:Program)(op:BinOp)(t:TypeId)(x y:At)(k:At->Prop):Prop:=
 match x,y with
 |.one (.c (.d (.bo a))),.one (.c (.d (.bo b)))=>match(ty P t).k with
  |.bool=>match op with
   |.eql=>k (sct (.bo (a==b)))
   |.neq=>k (sct (.bo (!(a==b))))
   |_=>False
  |_=>False
 |.one (.c (.d a)),.one (.c (.d .nm))=>match(ty P t).k,UG a with
  |.mp _ _,some z=>match op with
   |.eql=>k (sct (.bo z))
   |.neq=>k (sct (.bo (!z)))
   |_=>False
  |_,_=>False
 |.one (.c (.d a)),.one (.c (.d b))=>wB op a b fun d=>k (sct d)
 |.one (.agg xs),.one (.agg ys)=>match BW P t with
  |some l=>match K0 l (xs.map TC) (ys.map TC),op with
   |some b,.eql=>k (sct (.bo b))
   |some b,.neq=>k (sct (.bo (!b)))
   |_,_=>False
  |none=>False
 |_,_=>False
def unT(op:UnOp)(x:At)(k:At->Prop):Prop:=
 match op,x with
 |.not,.one (.c (.d (.bo b)))=>k (sct (.bo (!b)))
 |.neg,.one (.c (.d c))=>match iT c with
  |some (κ,n)=>k (sct (mkC κ (κ.wrap (0-n))))
  |none=>False
 |.xor,.one (.c (.d c))=>match iT c with
  |some (κ,n)=>k (sct (mkC κ (κ.wrap (BitVec.ofInt κ.bits (if κ.signed then -1 else κ.max) ^^^ BitVec.ofInt κ.bits n).toNat)))
  |none=>False
 |_,_=>False
def gL(x:At)(i:Nat)(k:At->Prop):Prop:=
 match x with
 |.tup vs=>match vs[i]? with
  |some v=>k (.one v)
  |none=>False
 |_=>False
def inT(sub:List Sh)(u:U)(l:List (El u))(n:Nat):List Step->Option (List Tt)
 |[]=>none
 |[st]=>match Nat.ble (st.off+n) sub.length with
  |true=>some (List.zipWith (fun s c=>match s,c with
    |Sh.fr,x=>Tt.d x
    |Sh.ow s,C.li u' l'=>Tt.ow s u' l'
    |_,_=>Tt.any) ((sub.drop st.off).take n) (((flat u (l.getD st.idx (dflt u))).drop st.off).take n))
  |false=>none
 |st::st'::r=>match sub[st.off]?,(flat u (l.getD st.idx (dflt u)))[st.off]? with
  |some (.ow s),some (.li u' l')=>inT s u' l' n (st'::r)
  |_,_=>none
def UK:Option (Nat×Step×List Step)->List Step->Bool
 |none,_=>true
 |some (_,_,q'),p=>Nat.blt p.length (q'.length+1)
def atT(m:List (Nm×Nat×Rt))(p:Pl)(n:Nat):Option (List Tt):=
 match bj m p.root with
 |none=>none
 |some r=>match p.path with
  |[]=>match Nat.ble (p.off+n) r.cells.length with
   |true=>some ((r.cells.drop p.off).take n)
   |false=>none
  |st::q=>match UK r.hole (st::q),r.cells[p.off]? with
   |true,some (.ow sub u l)=>inT sub u l n (st::q)
   |_,_=>none
def Ds(q:Pl):Tt->Tt
 |.ow _ _ _=>.rf q
 |.mp _ _ _=>.rf q
 |.mo _ _ _ _=>.rf q
 |.it _ _ _ _=>.rf q
 |t=>t
def vW(p:Pl)(ts:List Tt):List Tt:=ts.zipIdx.map fun x=>Ds (p.add x.2) x.1
def sliceAt(m:List (Nm×Nat×Rt))(p:Pl):Option ((_:List Sh)×(u:U)×List (El u)):=
 match atT m p 1 with
 |some [.ow sh u l]=>some ⟨sh,u,l⟩
 |_=>none
def gift:Option (Nat×Bool)->Nat->Prop->Prop
 |none,n,q=>n<=4611686018427387904->q
 |some _,_,q=>q
def CR(gd:Option (Nat×Bool))(m:List (Nm×Nat×Rt))(x:At)(k:Nat->Prop):Prop:=
 match x with
 |.one (.c (.d (.s l)))=>gift gd l.length (k l.length)
 |.one (.c (.d (.li _ l)))=>gift gd l.length (k l.length)
 |.one (.c .nil)=>k 0
 |.one (.c (.rf p))=>match sliceAt m p with
  |some ⟨_,_,l⟩=>gift gd l.length (k l.length)
  |_=>False
 |_=>False
def m5(x i:At)(k:At->Prop):Prop:=
 match x,i with
 |.one (.c (.d (.s l))),.one (.c (.d (.i _ n)))=>(0<=n/\n.toNat<l.length)/\k (sct (.b (l.getD n.toNat 0)))
 |_,_=>False
def dX(x:Option At)(d:Nat)(k:Nat->Prop):Prop:=
 match x with
 |none=>k d
 |some (.one (.c (.d (.i _ n))))=>0<=n/\k n.toNat
 |_=>False
def mZ(P:Program)(t:TypeId)(x:At)(lo hi:Option At)(k:At->Prop):Prop:=
 match x with
 |.one (.c (.d (.s l)))=>match(ty P t).k with
  |.str=>dX lo 0 fun a=>dX hi l.length fun b=>(a<=b/\b<=l.length)/\k (sct (.s ((l.drop a).take (b-a))))
  |_=>False
 |.one (.c (.d (.li u l)))=>match(ty P t).k with
  |.sl e=>match(ty P e).ok&&Nat.beq (nc u) (ty P e).size with
   |true=>dX lo 0 fun a=>dX hi l.length fun b=>(a<=b/\b<=l.length)/\k (sct (.li u ((l.drop a).take (b-a))))
   |false=>False
  |_=>False
 |.one (.c .nil)=>match(ty P t).k with
  |.sl e=>match(ty P e).ok with
   |true=>dX lo 0 fun a=>dX hi 0 fun b=>a<=b/\b<=0/\k (.one (.c .nil))
   |false=>False
  |_=>False
 |_=>False
def gP(m:List (Nm×Nat×Rt))(p:Pl)(n:Nat):Bool:=
 match bj m p.root with
 |none=>false
 |some r=>match p.path,r.cells[p.off]? with
  |[],_=>Nat.ble (n+1) (r.cells.length-p.off)
  |st::q,some (.ow sub _ _)=>match sQ sub (st::q)with
   |some k=>Nat.ble (n+1) k
   |none=>false
  |_,_=>false
def dD(P:Program)(m:List (Nm×Nat×Rt))(t:TypeId)(x:At)(i:Nat)(k:At->Prop):Prop:=
 match(ty P t).k with
 |.st fs=>match fs[i]? with
  |some (off,size+1,_)=>match x with
   |.one (.c (.pl p))=>match gP m p off with
    |true=>k (.one (.c (.pl (p.add off))))
    |false=>False
   |.one (.c (.el row o))=>k (.one (.c (.el row (o+off))))
   |_=>False
  |_=>False
 |_=>False
def db(P:Program)(m:List (Nm×Nat×Rt))(t:TypeId)(x i:At)(k:At->Prop):Prop:=
 match i with
 |.one (.c (.d (.i _ n)))=>match(ty P t).k with
  |.sl e=>match x with
   |.one (.c (.d (.li u l)))=>match(ty P e).ok&&Nat.beq (nc u) (ty P e).size with
    |true=>(0<=n/\n.toNat<l.length)/\k (.one (.c (.el (flat u (l.getD n.toNat (dflt u))) 0)))
    |false=>False
   |.one (.c (.rf p))=>match(ty P e).ok&&Nat.ble 1 (ty P e).size with
    |true=>match sliceAt m p with
     |some ⟨sh,_,l⟩=>match Nat.beq sh.length (ty P e).size with
      |true=>(0<=n/\n < (l.length:Int))/\k (.one (.c (.pl (p.at n.toNat (ty P e).size))))
      |false=>False
     |_=>False
    |false=>False
   |_=>False
  |.ar N e=>match x with
   |.one (.c (.ga u l i))=>match(ty P e).ok&&Nat.beq (ty P e).size 1&&leaf u with
    |true=>(0<=n/\n < (N:Int))/\k (.one (.c (.ga u l (n.toNat+i))))
    |false=>False
   |.one (.c (.pl p))=>match(ty P e).ok&&gP m p (n.toNat*(ty P e).size)with
    |true=>(0<=n/\n < (N:Int))/\k (.one (.c (.pl (p.add (n.toNat*(ty P e).size)))))
    |false=>False
   |_=>False
  |_=>False
 |_=>False
def iU(P:Program)(m:List (Nm×Nat×Rt))(t:TypeId)(x:At)(k:At->Prop):Prop:=
 match(ty P t).ok with
 |true=>match x with
  |.one (.c (.el row o))=>match(ty P t).agg with
   |true=>match Nat.ble (o+(ty P t).size) row.length with
    |true=>k (.one (.agg (((row.drop o).take (ty P t).size).map Tt.d)))
    |false=>False
   |false=>match row[o]? with
    |some c=>k (sct c)
    |none=>False
  |.one (.c (.ga u l i))=>match(ty P t).agg,leaf u with
   |false,true=>i<l.length/\k (sct (aj u (l.getD i (dflt u))))
   |_,_=>False
  |.one (.c (.pl p))=>match(ty P t).agg with
   |true=>match atT m p (ty P t).size with
    |some ts=>k (.one (.agg (vW p ts)))
    |none=>False
   |false=>match atT m p 1 with
    |some [t']=>k (.one (.c (Ds p t')))
    |_=>False
  |_=>False
 |false=>False
def mA(P:Program)(t:TypeId)(x:At)(i:Nat)(k:At->Prop):Prop:=
 match(ty P t).k,x with
 |.st fs,.one (.agg ts)=>match fs[i]? with
  |some (off,_,some false)=>match ts[off]? with
   |some t'=>k (.one (.c t'))
   |none=>False
  |some (off,size,some true)=>match Nat.ble (off+size) ts.length with
   |true=>k (.one (.agg ((ts.drop off).take size)))
   |false=>False
  |_=>False
 |_,_=>False
def fg(x:At)(k:At->Prop):Prop:=
 match x with
 |.one (.c (.pl _))=>k x
 |.one (.c (.el _ _))=>k x
 |.one (.c (.ga _ _ _))=>k x
 |_=>False
def Tt.sure:Tt->Bool
 |.any=>false
 |.d .any=>false
 |_=>true
def jr:At->Option (List Tt)
 |.one (.c t)=>some [t]
 |.one (.agg ts)=>some ts
 |_=>none
def jY(pl:Nat->Option (Nat×Nat)):List Tt->List (Nat×At)->Option (List Tt)
 |ts,[]=>some ts
 |ts,(i,x)::r=>match pl i,jr x with
  |some (off,size),some cs=>match Nat.beq cs.length size&&Nat.ble (off+cs.length) ts.length&&cs.all Tt.sure with
   |true=>jY pl (overw ts off cs) r
   |false=>none
  |_,_=>none
def dI(s:St)(ps:Array (Nat×Operand)):List (Nat×At):=ps.toList.map fun x=>(x.1,evA s x.2)
def mr(P:Program)(t:TypeId)(parts:List (Nat×At))(k:At->Prop):Prop:=
 match zst P t with
 |some (zs,places)=>match jY (places[·]?) (zs.map my) parts with
  |some ts=>k (.one (.agg ts))
  |none=>False
 |none=>False
def sD(P:Program)(su du:TypeId)(x:At)(k:At->Prop):Prop:=
 match(ty P su).k,(ty P du).k with
 |.int _,.int κ=>match x with
  |.one (.c (.d c))=>match iT c with
   |some (_,n)=>k (sct (mkC κ (κ.wrap n)))
   |none=>False
  |_=>False
 |.sl e,.str=>match(ty P e).k with
  |.int .u8=>match x with
   |.one (.c (.d (.li .b8 l)))=>k (sct (.s l))
   |.one (.c .nil)=>k (sct (.s []))
   |_=>False
  |_=>False
 |_,_=>False
def ml(P:Program)(s:St)(t:TypeId)(d:Tmp)(k:St->Prop):Prop:=
 match zcells P t with
 |some (z::zs)=>match Nat.blt d 1000000 with
  |true=>k (((s.fresh (jf t d)).root (jf t d) ⟨true,(z::zs).map my,none⟩).put (some d) (.one (.c (.pl ⟨jf t d,0,[]⟩))))
  |false=>False
 |_=>False
def BB(s:St)(x:Operand)(d:Tmp)(k:St->Prop):Prop:=
 match jr (evA (s.fresh (.loc d)) x)with
 |some (t::ts)=>match(t::ts).all Tt.sure&&Nat.blt d 1000000 with
  |true=>k (((s.fresh (.loc d)).root (.loc d) ⟨true,t::ts,none⟩).put (some d) (.one (.c (.pl ⟨.loc d,0,[]⟩))))
  |false=>False
 |_=>False
def Ut:=List (TypeId×U)
def Ut.get:Ut->TypeId->Option U
 |[],_=>none
 |(t,u)::r,i=>match Nat.beq t i with
  |true=>some u
  |false=>Ut.get r i
def wC(u:U)(c:Tt):Option (El u):=
 match c with
 |.d .nm=>match u with
  |.mp _ _=>some none
  |_=>none
 |.d c=>dY u c
 |.nil=>match u with
  |.sl _=>some []
  |_=>none
 |_=>none
def jq:(us:List U)->List Tt->Option (Fl us)
 |[],[]=>some ()
 |u::r,c::cs=>match wC u c,jq r cs with
  |some x,some y=>some (Fl.cons u r x y)
  |_,_=>none
 |_,_=>none
def jW(u:U)(ts:List Tt):Option (El u):=
 match u with
 |.st n=>match jq (sd n).fs ts with
  |some y=>some ((sd n).mkF y)
  |none=>none
 |u=>match ts with
  |[t]=>wC u t
  |_=>none
def fu(u:U):List (List Tt)->Option (List (El u))
 |[]=>some []
 |r::rs=>match jW u r,fu u rs with
  |some x,some xs=>some (x::xs)
  |_,_=>none
def Tt.noRf:Tt->Bool
 |.rf _=>false
 |_=>true
def At.noRf:At->Bool
 |.one (.c t)=>t.noRf
 |.one (.agg ts)=>ts.all Tt.noRf
 |_=>true
def cW(P:Program)(E:Ut)(s0:St)(t:TypeId)(len:Nat)(ps:Array (Nat×Operand))(d:Tmp)(k:St->Prop):Prop:=
 match(ty P t).k with
 |.sl e=>match E.get e,zcells P e with
  |some u,some _=>match(ty P e).ok&&Nat.beq (nc u) (ty P e).size&&Nat.ble (len*nc u) 16777216&&Nat.ble len 16777216 with
   |true=>
    let s1:=bw s0 (ps.toList.map fun x=>evA s0 x.2)
    let s:=s1.fresh (.gh d)
    match jY (fun i=>some (i*nc u,nc u)) (List.replicate (len*nc u) .any) (dI s ps),(dI s1 ps).all (fun x=>x.2.noRf)with
    |some ts,true=>match fu u (chunk (nc u) len ts)with
     |some l=>k ((s.root (.gh d) ⟨false,[.ow (List.replicate (nc u) .fr) u l],none⟩).put (some d) (.one (.c (.rf ⟨.gh d,0,[]⟩))))
     |none=>False
    |_,_=>False
   |false=>False
  |_,_=>False
 |_=>False
def Tt.owned:Tt->Bool
 |.ow _ _ _=>true
 |.mp _ _ _=>true
 |.mo _ _ _ _=>true
 |.it _ _ _ _=>true
 |_=>false
def Dz(u:U)(x:El u)(off:Nat)(c:C):Option (El u):=match(flat u x)[off]? with
 |some _=>unflat u ((flat u x).set off c)
 |none=>none
def yv(sub:List Sh)(u:U)(l:List (El u))(t:Tt):List Step->Option (List (El u))
 |[]=>none
 |[st]=>match sub[st.off]?,t with
  |some .fr,.d c=>match Dz u (l.getD st.idx (dflt u)) st.off c with
   |some x=>some (l.set st.idx x)
   |none=>none
  |some .fr,.nil=>match(flat u (l.getD st.idx (dflt u)))[st.off]? with
   |some (.li u' _)=>match Dz u (l.getD st.idx (dflt u)) st.off (.li u' [])with
    |some x=>some (l.set st.idx x)
    |none=>none
   |_=>none
  |_,_=>none
 |st::st'::r=>match sub[st.off]?,(flat u (l.getD st.idx (dflt u)))[st.off]? with
  |some (.ow s),some (.li u' l')=>match yv s u' l' t (st'::r)with
   |some l''=>match Dz u (l.getD st.idx (dflt u)) st.off (.li u' l'')with
    |some x=>some (l.set st.idx x)
    |none=>none
   |none=>none
  |_,_=>none
mutual
def DH:Sh->Sh->Bool
 |.fr,.fr=>true
 |.ow a,.ow b=>ia a b
 |_,_=>false
def ia:List Sh->List Sh->Bool
 |[],[]=>true
 |a::r,b::q=>DH a b&&ia r q
 |_,_=>false
end
def xR(sub:List Sh)(u:U)(l:List (El u))(sh:List Sh)(v:U)(lv:List (El v)):List Step->Option (List (El u))
 |[]=>none
 |[st]=>match sub[st.off]?,(flat u (l.getD st.idx (dflt u)))[st.off]? with
  |some (.ow s),some _=>match ia s sh,Dz u (l.getD st.idx (dflt u)) st.off (.li v lv)with
   |true,some x=>some (l.set st.idx x)
   |_,_=>none
  |_,_=>none
 |st::st'::r=>match sub[st.off]?,(flat u (l.getD st.idx (dflt u)))[st.off]? with
  |some (.ow s),some (.li u' l')=>match xR s u' l' sh v lv (st'::r)with
   |some l''=>match Dz u (l.getD st.idx (dflt u)) st.off (.li u' l'')with
    |some x=>some (l.set st.idx x)
    |none=>none
   |none=>none
  |_,_=>none
def frs(sub:List Sh)(off:Nat):Nat->Bool
 |0=>true
 |n+1=>match sub[off]? with
  |some .fr=>frs sub (off+1) n
  |_=>false
def iW(cs:List C)(off:Nat):List Tt->Option (List C)
 |[]=>some cs
 |.d c::r=>match c,cs[off]? with
  |.any,_=>none
  |c,some _=>iW (cs.set off c) (off+1) r
  |_,none=>none
 |.nil::r=>match cs[off]? with
  |some (.li u' _)=>iW (cs.set off (.li u' [])) (off+1) r
  |_=>none
 |_=>none
def oy(sub:List Sh)(u:U)(l:List (El u))(ts:List Tt):List Step->Option (List (El u))
 |[]=>none
 |[st]=>match frs sub st.off ts.length,iW (flat u (l.getD st.idx (dflt u))) st.off ts with
  |true,some cs=>match unflat u cs with
   |some x=>some (l.set st.idx x)
   |none=>none
  |_,_=>none
 |st::st'::r=>match sub[st.off]?,(flat u (l.getD st.idx (dflt u)))[st.off]? with
  |some (.ow s),some (.li u' l')=>match oy s u' l' ts (st'::r)with
   |some l''=>match Dz u (l.getD st.idx (dflt u)) st.off (.li u' l'')with
    |some x=>some (l.set st.idx x)
    |none=>none
   |none=>none
  |_,_=>none
def mL(sub:List Sh)(u:U)(l:List (El u)):List Step->Prop->Prop
 |[],_=>False
 |[st],k=>st.idx<l.length/\k
 |st::st'::r,k=>match sub[st.off]?,(flat u (l.getD st.idx (dflt u)))[st.off]? with
  |some (.ow s),some (.li u' l')=>st.idx<l.length/\mL s u' l' (st'::r) k
  |_,_=>False
def ly:List Step->List Step->Prop->Prop
 |[],[],p=>p
 |a::r,b::q,p=>match Nat.beq a.esz b.esz&&Nat.beq a.off b.off with
  |true=>a.idx=b.idx/\ly r q p
  |false=>False
 |_,_,_=>False
def wZ(s:St)(p:Pl)(t:Tt)(k:St->Prop):Prop:=
 match bj s.m p.root with
 |none=>False
 |some r=>match p.path,r.hole,r.cells[p.off]? with
  |[],none,some t0=>match t0.owned with
   |false=>k ⟨s.nx+1,s.t,cn s.m p.root s.nx { r with cells:=r.cells.set p.off t }⟩
   |true=>False
  |st::q,none,some (.ow sub u l)=>match yv sub u l t (st::q)with
   |some l'=>mL sub u l (st::q) (k ⟨s.nx+1,s.t,cn s.m p.root s.nx { r with cells:=r.cells.set p.off (.ow sub u l') }⟩)
   |none=>False
  |st::q,some (off,st',q'),some (.ow sub u l)=>match Nat.beq off p.off,t with
   |true,.ow sh v lv=>match xR sub u l sh v lv (st::q)with
    |some l'=>mL sub u l (st::q) (ly (st'::q') (st::q) (k ⟨s.nx+1,s.t,cn s.m p.root s.nx ⟨r.blk,r.cells.set p.off (.ow sub u l'),none⟩⟩))
    |none=>False
   |_,_=>False
  |_,_,_=>False
def V9:Tt->Bool
 |.d _=>true
 |.nil=>true
 |_=>false
def PK(p:Pl)(ts:List Tt):Bool:=!p.path.isEmpty&&Nat.blt 1 ts.length&&ts.all V9
def jI(s:St)(p:Pl)(ts:List Tt)(k:St->Prop):Prop:=
 match bj s.m p.root with
 |none=>False
 |some r=>match p.path,r.hole,r.cells[p.off]? with
  |st::q,none,some (.ow sub u l)=>match oy sub u l ts (st::q)with
   |some l'=>mL sub u l (st::q) (k ⟨s.nx+1,s.t,cn s.m p.root s.nx { r with cells:=r.cells.set p.off (.ow sub u l') }⟩)
   |none=>False
  |_,_,_=>False
def fH(s:St)(p:Pl):List Tt->(St->Prop)->Prop
 |[],k=>k s
 |.rf q::ts,k=>match bj s.m q.root with
  |some ⟨false,[.ow sub u l],none⟩=>match q.path,decide (q.root=p.root),ts.all fun t=>!t.ment q.root with
   |[],false,true=>wZ (s.drop q.root) p (.ow sub u l) fun s'=>fH s' (p.add 1) ts k
   |_,_,_=>False
  |_=>False
 |.any::_,_=>False
 |.d .any::_,_=>False
 |t::ts,k=>wZ s p t fun s'=>fH s' (p.add 1) ts k
def m0(P:Program)(s:St)(t:TypeId)(x v:At)(k:St->Prop):Prop:=
 match x,jr v with
 |.one (.c (.pl p)),some ts=>match(ty P t).ok&&Nat.beq ts.length (ty P t).size&&gP s.m p (ts.length - 1)with
  |true=>match PK p ts with
   |true=>jI s p ts k
   |false=>fH s p ts k
  |false=>False
 |_,_=>False
def PT(s:St)(q:Pl):Option St:=
 match bj s.m q.root with
 |none=>none
 |some r=>match q.path,r.hole with
  |[],none=>some ⟨s.nx+1,kD (thr q) s.nx s.t,bP (thr q) s.nx (cn s.m q.root s.nx { r with cells:=r.cells.set q.off .any })⟩
  |st::p,none=>some ⟨s.nx+1,kD (thr q) s.nx s.t,bP (thr q) s.nx (cn s.m q.root s.nx { r with hole:=some (q.off,st,p) })⟩
  |_,_=>none
def SL(u:U):At->Option (List (El u))
 |.one (.c .nil)=>some []
 |.one (.c (.d (.li u' l)))=>n8 u' u l
 |.one (.c (.d (.s b)))=>match u with
  |.b8=>some b
  |_=>none
 |_=>none
def iK(s:St)(u:U):At->Option (St×List Sh×List (El u))
 |.one (.c .nil)=>some (s,List.replicate (nc u) .fr,[])
 |.one (.c (.rf q))=>match sliceAt s.m q with
  |some ⟨sub,u',l⟩=>match n8 u' u l,Nat.beq sub.length (nc u),PT s q with
   |some l',true,some s'=>some (s',sub,l')
   |_,_,_=>none
  |none=>none
 |_=>none
def jl(P:Program)(E:Ut)(s00:St)(t u0:TypeId)(x y:Operand)(d:Tmp)(k:St->Prop):Prop:=
 let s:=dV s00 (evA s00 y)
 match(ty P t).k with
 |.sl e=>match E.get e,zcells P e with
  |some u,some z=>match(ty P e).ok&&(ty P u0).k.isSS&&Nat.beq z.length (ty P e).size&&Nat.beq (nc u) (ty P e).size with
   |true=>match SL u (evA s y),iK s u (evA s x)with
    |some ys,some (s1,sub,l)=>match sub.all Sh.isFr with
     |true=>(l.length+ys.length<=4611686018427387904/\(l.length+ys.length)*(ty P e).bytes<=140737488355328) /\
      k (((s1.fresh (.gh d)).root (.gh d) ⟨false,[.ow sub u (l++ys)],none⟩).put (some d) (.one (.c (.rf ⟨.gh d,0,[]⟩))))
     |false=>False
    |_,_=>False
   |false=>False
  |_,_=>False
 |_=>False
def la:List Sh->List Tt->Bool
 |[],[]=>true
 |.fr::r,_::ts=>la r ts
 |.ow _::r,.nil::ts=>la r ts
 |_,_=>false
def cu(P:Program)(E:Ut)(sub:List Sh)(s0:St)(t:TypeId)(len:Nat)(ps:Array (Nat×Operand))(d:Tmp)(k:St->Prop):Prop:=
 match(ty P t).k with
 |.sl e=>match E.get e,zcells P e with
  |some u,some _=>match(ty P e).ok&&Nat.beq (nc u) (ty P e).size&&Nat.ble (len*nc u) 16777216&&Nat.ble len 16777216&&Nat.beq sub.length (nc u)with
   |true=>
    let s1:=bw s0 (ps.toList.map fun x=>evA s0 x.2)
    let s:=s1.fresh (.gh d)
    match jY (fun i=>some (i*nc u,nc u)) (List.replicate (len*nc u) .any) (dI s ps),(dI s1 ps).all (fun x=>x.2.noRf)with
    |some ts,true=>match fu u (chunk (nc u) len ts),la (List.replicate len sub).flatten ts with
     |some l,true=>k ((s.root (.gh d) ⟨false,[.ow sub u l],none⟩).put (some d) (.one (.c (.rf ⟨.gh d,0,[]⟩))))
     |_,_=>False
    |_,_=>False
   |false=>False
  |_,_=>False
 |_=>False
def vY:List Tt->Nat->Option (Nat×Pl)
 |[],_=>none
 |.rf q::_,j=>some (j,q)
 |_::r,j=>vY r (j+1)
def PG(sub:List Sh)(s:St)(ps:Array (Nat×Operand)):Bool:=match dI s ps with
 |[(0,.one (.agg ts))]=>match vY ts 0 with
  |some (j,_)=>match sub[j]? with
   |some (.ow _)=>true
   |_=>false
  |none=>false
 |_=>false
def cv(P:Program)(E:Ut)(sub:List Sh)(s:St)(t:TypeId)(len:Nat)(ps:Array (Nat×Operand))(d:Tmp)(k:St->Prop):Prop:=
 match(ty P t).k with
 |.sl e=>match E.get e,zcells P e,dI s ps with
  |some u,some _,[(0,.one (.agg ts))]=>match vY ts 0 with
   |some (j,q)=>match sub[j]?,sliceAt s.m q with
    |some (.ow sub'),some ⟨_,u',_⟩=>match iK s u' (.one (.c (.rf q)))with
     |some (s1,sub3,l')=>match(ty P e).ok&&Nat.beq (nc u) (ty P e).size&&Nat.ble (nc u) 16777216&&Nat.beq len 1&&Nat.beq sub.length (nc u)&&Nat.beq ts.length (nc u)&&(ia sub3 sub'&&((ts.set j .nil).all Tt.noRf&&la sub (ts.set j .nil))),fu u [ts.set j (.d (.li u' l'))]with
      |true,some l=>k (((s1.fresh (.gh d)).root (.gh d) ⟨false,[.ow sub u l],none⟩).put (some d) (.one (.c (.rf ⟨.gh d,0,[]⟩))))
      |_,_=>False
     |none=>False
    |_,_=>False
   |none=>False
  |_,_,_=>False
 |_=>False
def gA(P:Program)(E:Ut)(s:St)(t u0:TypeId)(x y:Operand)(d:Tmp)(k:St->Prop):Prop:=
 match(ty P t).k with
 |.sl e=>match E.get e,zcells P e with
  |some u,some z=>match(ty P e).ok&&(ty P u0).k.isSS&&Nat.beq z.length (ty P e).size&&Nat.beq (nc u) (ty P e).size with
   |true=>match iK s u (evA s y)with
    |some (s1,sub1,ys)=>match iK s1 u (evA s1 x)with
     |some (s2,sub,l)=>match ia sub1 sub with
      |true=>(l.length+ys.length<=4611686018427387904/\(l.length+ys.length)*(ty P e).bytes<=140737488355328) /\
       k (((s2.fresh (.gh d)).root (.gh d) ⟨false,[.ow sub u (l++ys)],none⟩).put (some d) (.one (.c (.rf ⟨.gh d,0,[]⟩))))
      |false=>False
     |none=>False
    |none=>False
   |false=>False
  |_,_=>False
 |_=>False
def Pb(s:St):At->Bool
 |.one (.c (.rf q))=>match sliceAt s.m q with
  |some ⟨sub,_,_⟩=>!(sub.all Sh.isFr)
  |none=>false
 |_=>false
def Ol(sub:List Sh):List Step->Bool
 |[]=>false
 |[st]=>match sub[st.off]? with
  |some .fr=>true
  |_=>false
 |st::st'::r=>match sub[st.off]? with
  |some (.ow s)=>Ol s (st'::r)
  |_=>false
def Uw(m:List (Nm×Nat×Rt))(p:Pl):Bool:=
 match bj m p.root with
 |none=>false
 |some r=>match p.path,r.hole,r.cells[p.off]? with
  |st::q,none,some (.ow sub _ _)=>Ol sub (st::q)
  |_,_,_=>false
def Tj(m:List (Nm×Nat×Rt))(n:Nm):Bool:=
 match bj m n with
 |some r=>r.blk
 |none=>false
def sH(s:St)(p:Pl):List Tt->St
 |[]=>s
 |.rf q::ts=>match Uw s.m p||Tj s.m q.root with
  |true=>sH (pV s q) (p.add 1) ts
  |false=>sH s (p.add 1) ts
 |_::ts=>sH s (p.add 1) ts
def xY(s:St)(x v:At):St:=
 match x,jr v with
 |.one (.c (.pl p)),some ts=>sH s p ts
 |_,_=>s
abbrev PKt:=Value->St->Prop
abbrev CKt:=PKt->St->List Operand->(St->At->Prop)->Prop
abbrev CTt:=List (Nat×CKt)
def CTt.get:CTt->Nat->Option CKt
 |[],_=>none
 |(f,c)::r,i=>match Nat.beq f i with
  |true=>some c
  |false=>CTt.get r i
def Fb:At->Bool
 |.one (.c (.d (.s _)))=>true
 |_=>false
structure En where
 P:Program
 E:Ut
 cs:CTt
 sh:List (TypeId×List Sh)
 pk:PKt
def dK:List (TypeId×List Sh)->TypeId->Option (List Sh)
 |[],_=>none
 |(t,u)::r,i=>match Nat.beq t i with
  |true=>some u
  |false=>dK r i
def SI(e:En)(t:TypeId):Option (List Sh):=match(ty e.P t).k with
 |.sl el=>dK e.sh el
 |_=>none
def vo(tm:Nat):List Sh->Nat->St->St
 |[],_,s=>s
 |.fr::r,j,s=>vo tm r (j+1) s
 |.ow _::r,j,s=>match gtA s.t tm with
  |.one (.agg ts)=>match ts[j]? with
   |some (.rf q)=>match q.path,Tj s.m q.root,sliceAt s.m q with
    |[],true,some ⟨_,u,_⟩=>match iK s u (.one (.c (.rf q)))with
     |some (s1,sub,l)=>
      let s2:=(s1.fresh (.gh (700000+j))).root (.gh (700000+j)) ⟨false,[.ow sub u l],none⟩
      match gtA s2.t tm with
      |.one (.agg ts2)=>vo tm r (j+1) (s2.put (some tm) (.one (.agg (ts2.set j (.rf ⟨.gh (700000+j),0,[]⟩)))))
      |_=>vo tm r (j+1) s2
     |none=>vo tm r (j+1) s
    |_,_,_=>vo tm r (j+1) s
   |_=>vo tm r (j+1) s
  |_=>s
def Da(sh:List (TypeId×List Sh))(s:St)(t:TypeId)(v:Operand):St:=match dK sh (t+1000000),v with
 |some l,.tmp tm=>vo tm l 0 s
 |_,_=>s
def Ro:At->Option Nat
 |.one (.c (.d (.v (.func (.func f) a b))))=>match a.size,b.size with
  |0,0=>some f
  |_,_=>none
 |.one (.c (.d (.fn c)))=>match c.caps with
  |[]=>some c.fn
  |_=>none
 |_=>none
def xN:At->Option Nat
 |.one (.c (.d (.fn c)))=>some (c.fn+1000000)
 |_=>none
def tdC:List Tt->Option (List C)
 |[]=>some []
 |.d c::r=>match c with
  |.any=>none
  |c=>(tdC r).map (c::·)
 |_=>none
def Tt.frB(n:Nm)(row:List C):Tt->Tt
 |.pl p=>match p.path with
  |[]=>if p.root=n then .el row p.off else .pl p
  |_=>(Tt.pl p).kill (aX n)
 |t=>t.kill (aX n)
def Ca(s:St)(n:Nm):St:=match bj s.m n with
 |some ⟨true,cells,none⟩=>match tdC cells with
  |some row=>⟨s.nx+1,s.t.map fun x=>(x.1,stp (x.2.2.hit (aX n)) s.nx x.2.1,x.2.2.map (Tt.frB n row)),bP (aX n) s.nx (dC s.m n)⟩
  |none=>s
 |_=>s
def oe:St->List At->St
 |s,[]=>s
 |s,.one (.c (.pl ⟨n,_,[]⟩))::r=>oe (Ca s n) r
 |s,_::r=>oe s r
def BN(row:List C):List Sn->Option Lt.Cap
 |[]=>none
 |n::r=>match unflat (.st n) row with
  |some x=>match Vx n x with
   |some c=>some c
   |none=>BN row r
  |none=>BN row r
def y9(s:St):List Operand->Option (List Lt.Cap)
 |[]=>some []
 |x::r=>match evA s x with
  |.one (.c (.el row 0))=>match BN row V6,y9 s r with
   |some c,some cs=>some (c::cs)
   |_,_=>none
  |_=>none
def iD(s0:St)(f:Nat)(caps:List Operand)(d:Option Tmp)(k:St->Prop):Prop:=
 let s:=oe s0 (caps.map (evA s0))
 match y9 s caps with
 |some cs=>k (s.put d (sct (.fn ⟨f,cs⟩)))
 |none=>False
def uO1(P:Program)(t:TypeId):Option U:=match(ty P t).k with
 |.str=>some .s
 |.bool=>some .bo
 |.int .u8=>some .b8
 |.int k=>some (.i k)
 |_=>none
def uOf(P:Program)(E:Ut)(t:TypeId):Option U:=match(ty P t).k with
 |.sl e=>match E.get e with
  |some u=>some (.sl u)
  |none=>none
 |.mp k v=>match uO1 P k,uO1 P v with
  |some a,some b=>some (.mp a b)
  |_,_=>none
 |_=>uO1 P t
def eA(P:Program)(t:TypeId):U->Bool
 |.s=>decide ((ty P t).k=.str)
 |.bo=>decide ((ty P t).k=.bool)
 |.i k=>decide ((ty P t).k=.int k)
 |_=>false
def gX:(u:U)->El u->El u->Bool
 |.i _,a,b=>decide ((a:Int)=b)
 |.bo,a,b=>(a:Bool)==b
 |.s,a,b=>decide ((a:List UInt8)=b)
 |_,_,_=>false
def am{β:Type}(ku:U):List (El ku×β)->El ku->Option β
 |[],_=>none
 |x::l,k=>match gX ku x.1 k with
  |true=>some x.2
  |false=>am ku l k
def br{β:Type}(ku:U):List (El ku×β)->El ku->β->List (El ku×β)
 |[],k,v=>[(k,v)]
 |x::l,k,v=>match gX ku x.1 k with
  |true=>(k,v)::l
  |false=>x::br ku l k v
def zOK(P:Program)(t:TypeId)(u:U):Bool:=match(P.info? t).bind (·.zero),u with
 |some (.int k n),.i k'=>decide (k=k')&&decide (n=0)&&decide (k≠.u8)
 |some (.bool b),.bo=>!b
 |some (.string s),.s=>s.data.toList.isEmpty
 |some (.slice none 0 0),.sl _=>true
 |some (.map none),.mp _ _=>true
 |_,_=>false
def lK(m:List (Nm×Nat×Rt))(p:Pl):Option ((ku:U)×(vu:U)×List (El ku×El vu)):=match p with
 |⟨n,0,[]⟩=>match bj m n with
  |some ⟨false,[.mp ku vu l],none⟩=>some ⟨ku,vu,l⟩
  |_=>none
 |_=>none
def rL(m:List (Nm×Nat×Rt))(n:Nm):Option ((ku:U)×(u:U)×List (El ku×List (El u))×Option (El ku)):=match bj m n with
 |some ⟨false,[.mo ku u l h],none⟩=>some ⟨ku,u,l,h⟩
 |_=>none
def RD(s:St):At->Bool
 |.one (.c (.rf ⟨n,0,[]⟩))=>(rL s.m n).isSome
 |_=>false
def Gs(vu:U)(ok:Bool)(r:Option (El vu)):At:=match ok with
 |true=>.tup [.c (.d (aj vu (r.getD (dflt vu)))),.c (.d (.bo r.isSome))]
 |false=>.one (.c (.d (aj vu (r.getD (dflt vu)))))
def eh(P:Program)(E:Ut)(own:Bool)(s:St)(t:TypeId)(d:Tmp)(k:St->Prop):Prop:=match(ty P t).k with
 |.mp kt et=>match uOf P E kt,uOf P E et,own with
  |some ku,some vu,false=>k (((s.fresh (.gh d)).root (.gh d) ⟨false,[.mp ku vu []],none⟩).put (some d) (.one (.c (.rf ⟨.gh d,0,[]⟩))))
  |some ku,some (.sl u),true=>k (((s.fresh (.gh d)).root (.gh d) ⟨false,[.mo ku u [] none],none⟩).put (some d) (.one (.c (.rf ⟨.gh d,0,[]⟩))))
  |_,_,_=>False
 |_=>False
def jC(P:Program)(m:List (Nm×Nat×Rt))(t:TypeId)(x key:At)(ok:Bool)(k:At->Prop):Prop:=match(ty P t).k with
 |.mp kt et=>match x,key with
  |.one (.c (.rf p)),.one (.c (.d c))=>match lK m p with
   |some ⟨ku,vu,l⟩=>match eA P kt ku&&zOK P et vu,dY ku c with
    |true,some kx=>k (Gs vu ok (am ku l kx))
    |_,_=>False
   |none=>False
  |.one (.c (.d (.mp ku vu z))),.one (.c (.d c))=>match eA P kt ku&&(zOK P et vu&&leaf vu),dY ku c with
   |true,some kx=>k (Gs vu ok (am ku (z.getD []) kx))
   |_,_=>False
  |_,_=>False
 |_=>False
def jD(P:Program)(s:St)(t:TypeId)(x key v:At)(k:St->Prop):Prop:=match(ty P t).k with
 |.mp kt _=>match x,key,v with
  |.one (.c (.rf p)),.one (.c (.d c)),.one (.c tv)=>match lK s.m p with
   |some ⟨ku,vu,l⟩=>match eA P kt ku&&leaf vu,dY ku c,jW vu [tv]with
    |true,some kx,some vx=>k ⟨s.nx+1,s.t,cn s.m p.root s.nx ⟨false,[.mp ku vu (br ku l kx vx)],none⟩⟩
    |_,_,_=>False
   |none=>False
  |_,_,_=>False
 |_=>False
def nX{β:Type}(ku:U):List (El ku×β)->El ku->List (El ku×β)
 |[],_=>[]
 |x::l,k=>match gX ku x.1 k with
  |true=>l
  |false=>x::nX ku l k
def jB(P:Program)(s:St)(t:TypeId)(x key:At)(k:St->Prop):Prop:=match(ty P t).k with
 |.mp kt _=>match x,key with
  |.one (.c (.rf p)),.one (.c (.d c))=>match lK s.m p with
   |some ⟨ku,vu,l⟩=>match eA P kt ku,dY ku c with
    |true,some kx=>k ⟨s.nx+1,s.t,cn s.m p.root s.nx ⟨false,[.mp ku vu (nX ku l kx)],none⟩⟩
    |_,_=>False
   |none=>False
  |_,_=>False
 |_=>False
def kK(P:Program)(s:St)(t:TypeId)(x key:Operand)(d:Tmp)(k:St->Prop):Prop:=match(ty P t).k with
 |.mp kt et=>
  let s1:=s.fresh (.gh d)
  match evA s1 x,evA s1 key with
  |.one (.c (.rf ⟨n,0,[]⟩)),.one (.c (.d c))=>match rL s1.m n with
   |some ⟨ku,u,l,none⟩=>match eA P kt ku&&zOK P et (.sl u),dY ku c with
    |true,some kx=>k (((⟨s1.nx+1,s1.t,cn s1.m n s1.nx ⟨false,[.mo ku u l (some kx)],none⟩⟩:St).root (.gh d) ⟨false,[.ow (List.replicate (nc u) .fr) u ((am ku l kx).getD [])],none⟩).put (some d) (.one (.c (.rf ⟨.gh d,0,[]⟩))))
    |_,_=>False
   |_=>False
  |_,_=>False
 |_=>False
def nJ(P:Program)(s:St)(t:TypeId)(x key v:At)(k:St->Prop):Prop:=match(ty P t).k with
 |.mp kt _=>match x,key,v with
  |.one (.c (.rf ⟨n,0,[]⟩)),.one (.c (.d c)),.one (.c (.rf ⟨q,0,[]⟩))=>match rL s.m n,bj s.m q with
   |some ⟨ku,u,l,h⟩,some ⟨false,[.ow sub u' rows],none⟩=>match eA P kt ku&&(ia sub (List.replicate (nc u) .fr)&&!(decide (q=n))),dY ku c,n8 u' u rows with
    |true,some kx,some rows'=>(match h with
     |some k0=>kx=k0
     |none=>True)/\(let s1:=s.drop q;k ⟨s1.nx+1,s1.t,cn s1.m n s1.nx ⟨false,[.mo ku u (br ku l kx rows') none],none⟩⟩)
    |_,_,_=>False
   |_,_=>False
  |_,_,_=>False
 |_=>False
def rY(P:Program)(s0:St)(t:TypeId)(x:Operand)(d:Tmp)(k:St->Prop):Prop:=
 let s:=dV s0 (evA s0 x)
 match(ty P t).k with
 |.mp kt _=>match evA (s.fresh (.gh d)) x with
  |.one (.c (.d (.mp ku vu z)))=>match eA P kt ku&&leaf vu with
   |true=>k (((s.fresh (.gh d)).root (.gh d) ⟨false,[.it ku vu none (z.getD [])],none⟩).put (some d) (.one (.c (.rf ⟨.gh d,0,[]⟩))))
   |false=>False
  |_=>False
 |_=>False
def RE(m:List (Nm×Nat×Rt)):At->Option (Nm×((ku:U)×(vu:U)×Option (El ku×El vu)×List (El ku×El vu)))
 |.one (.c (.rf ⟨n,0,[]⟩))=>match bj m n with
  |some ⟨false,[.it ku vu cur rest],none⟩=>some (n,⟨ku,vu,cur,rest⟩)
  |_=>none
 |_=>none
def yh(s:St)(x:At)(d:Option Tmp)(k:St->Prop):Prop:=match RE s.m x with
 |some (n,⟨ku,vu,_,rest⟩)=>(rest=[]->k (s.put d (.tup [.c (.d (.bo false))])))/\∀i,i<rest.length ->
   k ((⟨s.nx+1,s.t,cn s.m n s.nx ⟨false,[.it ku vu (some (rest.getD i (dflt ku,dflt vu))) (rest.eraseIdx i)],none⟩⟩:St).put d
    (.tup [.c (.d (.bo true)),.c (.d (aj ku (rest.getD i (dflt ku,dflt vu)).1)),.c (.d (aj vu (rest.getD i (dflt ku,dflt vu)).2))]))
 |none=>False
def nA(s:St)(x:At)(d:Option Tmp)(k:St->Prop):Prop:=match RE s.m x with
 |some (_,⟨ku,vu,some y,_⟩)=>k (s.put d (.tup [.c (.d (aj ku y.1)),.c (.d (aj vu y.2))]))
 |_=>False
def nI(s:St)(x:At)(d:Tmp)(k:St->Prop):Prop:=match x with
 |.one (.c (.d (.mp _ _ z)))=>(z.getD []).length<=4611686018427387904/\k (s.put (some d) (sct (.i .i64 ((z.getD []).length:Int))))
 |.one (.c (.rf p))=>match lK s.m p with
  |some ⟨_,_,l⟩=>l.length<=4611686018427387904/\k (s.put (some d) (sct (.i .i64 (l.length:Int))))
  |none=>False
 |_=>False
def Ga(e:En)(o:Oper):Bool:=match o.op,o.dst with
 |.slice _ _ none (some _) none,some d=>(dK e.sh (3000000+d)).isSome
 |.assign _,some d=>(dK e.sh (5000000+d)).isSome
 |.call c,some _=>match c.callee,c.argTypes.toList with
  |.builtin .len,[t]=>match(ty e.P t).k with
   |.mp _ _=>true
   |_=>false
  |_,_=>false
 |.indexAddr _ _ _,some d=>(dK e.sh (8000000+d)).isSome
 |_,_=>false
def kS(e:En)(s:St)(t:TypeId)(x hi:Operand)(d:Tmp)(k:St->Prop):Prop:=match(ty e.P t).k with
 |.sl el=>match evA s x,evA s hi with
  |.one (.c (.rf q)),.one (.c (.d (.i .i64 n)))=>match sliceAt s.m q with
   |some ⟨_,u,_⟩=>match(ty e.P el).ok,iK s u (.one (.c (.rf q)))with
    |true,some (s1,sub,l)=>(0<=n/\n.toNat<=l.length)/\k (((s1.fresh (.gh d)).root (.gh d) ⟨false,[.ow sub u (l.take n.toNat)],none⟩).put (some d) (.one (.c (.rf ⟨.gh d,0,[]⟩))))
    |_,_=>False
   |none=>False
  |_,_=>False
 |_=>False
def nH(s:St)(x:Operand)(d:Tmp)(k:St->Prop):Prop:=match evA s x with
 |.one (.c (.rf ⟨n,0,[]⟩))=>match rL s.m n with
  |some ⟨ku,u,l,none⟩=>k ((⟨s.nx+1,s.t,cn s.m n s.nx ⟨false,[.mp ku (.sl u) l],none⟩⟩:St).put (some d) (.one (.c (.rf ⟨n,0,[]⟩))))
  |_=>False
 |_=>False
def wk:List C->Option (List (List UInt8))
 |[]=>some []
 |.s x::r=>match wk r with
  |some l=>some (x::l)
  |none=>none
 |_=>none
def DK(e:En)(o:Oper)(s:St)(k:St->Prop):Prop:=match o.op,o.dst with
 |.slice t x none (some hi) none,some d=>kS e s t x hi d k
 |.assign x,some d=>nH s x d k
 |.call c,some d=>match c.args.toList with
  |[x]=>nI s (evA s x) d k
  |_=>False
 |.indexAddr t x i,some d=>
  let s1:=oe s [evA s x]
  match evA s1 x with
  |.one (.c (.el row 0))=>match wk row with
   |some l=>db e.P s1.m t (.one (.c (.ga .s l 0))) (evA s1 i) fun v=>k (s1.put (some d) v)
   |none=>False
  |_=>False
 |_,_=>False
def Js:List Sh->U->Bool
 |[.fr],_=>true
 |[.ow _],.sl _=>true
 |_,_=>false
def wh:Operand->Operand->Bool
 |.tmp a,.tmp b=>Nat.beq a b
 |_,_=>false
def dG(e:En)(s:St)(t:TypeId)(n c:At)(same:Bool)(d:Tmp)(k:St->Prop):Prop:=match(ty e.P t).k,same with
 |.sl el,true=>match n with
  |.one (.c (.d (.i .i64 n)))=>match e.E.get el with
   |some u=>match zOK e.P el u&&Nat.beq (ty e.P el).size 1&&Js ((dK e.sh el).getD [.fr]) u with
    |true=>(0<=n/\n<=4611686018427387904/\(ty e.P el).bytes*n.toNat<=281474976710656) /\
     k (((s.fresh (.gh d)).root (.gh d) ⟨false,[.ow ((dK e.sh el).getD [.fr]) u (List.replicate n.toNat (dflt u))],none⟩).put (some d) (.one (.c (.rf ⟨.gh d,0,[]⟩))))
    |false=>False
   |none=>False
  |_=>False
 |_,_=>False
def wY(s:St)(o:Oper):St:=
 match o.op with
 |.convert _ _ x=>dV s (evA s x)
 |.slice _ x _ _ _=>dV s (evA s x)
 |_=>s
def qT(e:En)(o:Oper)(s:St)(k:At->Prop):Prop:=
 match o.op with
 |.move x=>k (evA s x)
 |.assign x=>k (evA s x)
 |.pick c x y=>sM (evA s c) (evA s x) (evA s y) k
 |.binOp op t x y _=>By e.P op t (evA s x) (evA s y) k
 |.unOp op _ x=>unT op (evA s x) k
 |.load t x=>iU e.P s.m t (evA s x) k
 |.field t x i=>mA e.P t (evA s x) i k
 |.fieldAddr t x i=>dD e.P s.m t (evA s x) i k
 |.indexAddr t x i=>db e.P s.m t (evA s x) (evA s i) k
 |.index t x i=>match(ty e.P t).k with
  |.str=>m5 (evA s x) (evA s i) k
  |_=>False
 |.extract x i=>gL (evA s x) i k
 |.convert su du x=>sD e.P su du (evA s x) k
 |.slice t x lo hi none=>mZ e.P t (evA s x) (lo.map (evA s)) (hi.map (evA s)) k
 |.nilCheck x=>fg (evA s x) k
 |.build t ps=>mr e.P t (dI s ps) k
 |.call c=>match c.callee,c.args.toList,c.argTypes.toList with
  |.builtin .len,[x],[t]=>match sI (ty e.P t).k (Fb (evA s x))with
   |true=>CR o.guard s.m (evA s x) fun n=>k (sct (.i .i64 (n:Int)))
   |false=>False
  |_,_,_=>False
 |_=>False
def lT(e:En)(o:Oper)(s:St)(k:St->Prop):Prop:=
 match o.op with
 |.store t x v=>let s0:=Da e.sh s t v;let s1:=xY s0 (evA s0 x) (evA s0 v);m0 e.P s1 t (evA s1 x) (evA s1 v) fun s'=>k (s'.put o.dst .any)
 |.alloc t=>match o.dst with
  |some d=>ml e.P s t d k
  |none=>False
 |.box _ x=>match o.dst with
  |some d=>BB s x d k
  |none=>False
 |.buildSlice t n ps=>match o.dst with
  |some d=>match SI e t with
   |none=>cW e.P e.E s t n ps d k
   |some sub=>match PG sub s ps with
    |true=>cv e.P e.E sub s t n ps d k
    |false=>cu e.P e.E sub s t n ps d k
  |none=>False
 |.call c=>match c.callee,c.args.toList,c.argTypes.toList with
  |.builtin .append,[x,y],[t,u]=>match o.dst with
   |some d=>match Pb s (evA s x)with
    |false=>jl e.P e.E s t u x y d k
    |true=>gA e.P e.E s t u x y d k
   |none=>False
  |.builtin .delete,[x,i],t::_=>jB e.P s t (evA s x) (evA s i) fun s'=>k (s'.put o.dst (.tup []))
  |.value (.func f),args,_=>match e.cs.get f,Nat.blt f 1000000 with
   |some C,true=>C e.pk s args fun s' av=>k (s'.put o.dst av)
   |_,_=>False
  |.value (.tmp t),args,_=>match Nat.blt t 100000,Ro (gtA s.t t)with
   |true,some f=>match e.cs.get f,Nat.blt f 1000000 with
    |some C,true=>C e.pk s args fun s' av=>k (s'.put o.dst av)
    |_,_=>False
   |true,none=>match xN (gtA s.t t)with
    |some f=>match e.cs.get f with
     |some C=>C e.pk s (.tmp t::args) fun s' av=>k (s'.put o.dst av)
     |none=>False
    |none=>False
   |_,_=>False
  |_,_,_=>False
 |.makeMap t r=>match o.dst,r with
  |some d,none=>eh e.P e.E (dK e.sh (4000000+t)).isSome s t d k
  |some d,some x=>match evA s x with
   |.one (.c (.d (.i _ _)))=>eh e.P e.E (dK e.sh (4000000+t)).isSome s t d k
   |_=>False
  |none,_=>False
 |.lookup t x i ok=>match RD s (evA s x),ok,o.dst with
  |true,false,some d=>kK e.P s t x i d k
  |_,_,_=>jC e.P s.m t (evA s x) (evA s i) ok fun v=>k (s.put o.dst v)
 |.mapUpdate t m i v=>match RD s (evA s m)with
  |true=>nJ e.P s t (evA s m) (evA s i) (evA s v) fun s'=>k (s'.put o.dst .any)
  |false=>let s1:=dV s (evA s v);jD e.P s1 t (evA s1 m) (evA s1 i) (evA s1 v) fun s'=>k (s'.put o.dst .any)
 |.makeSlice t n c=>match o.dst with
  |some d=>dG e s t (evA s n) (evA s c) (wh n c) d k
  |none=>False
 |.makeFunc fn first caps=>match fn,first.toList with
  |.func f,[]=>iD s f caps.toList o.dst k
  |_,_=>False
 |.range t x=>match o.dst with
  |some d=>rY e.P s t x d k
  |none=>False
 |.next x false=>yh s (evA s x) o.dst k
 |.entry x=>nA s (evA s x) o.dst k
 |_=>False
def vE(e:En)(o:Oper)(s:St)(k:St->Prop):Prop:=
 match isQ o with
 |true=>let s1:=wY s o;qT e o s1 fun v=>k (s1.put o.dst v)
 |false=>lT e o s k
def opT(e:En)(o:Oper)(s:St)(k:St->Prop):Prop:=
 match Ga e o with
 |true=>DK e o s k
 |false=>vE e o s k
def dand(p:Prop)[d:Decidable p](b:Bool):Bool:=match d with
 |.isTrue _=>b
 |.isFalse _=>false
abbrev CKb:=St->List Operand->(St->At->Bool)->Bool
abbrev CBt:=List (Nat×CKb)
def CBt.get:CBt->Nat->Option CKb
 |[],_=>none
 |(f,c)::r,i=>match Nat.beq f i with
  |true=>some c
  |false=>CBt.get r i
structure EnB where
 e:En
 cs:CBt
def Pi(c x y:At)(k:At->Bool):Bool:=
 match c with
 |.one (.c (.d (.bo b)))=>if b=true then k x else k y
 |_=>false
def UJ(op:BinOp)(k:IntKind)(a b:Int)(K:C->Bool):Bool:=
 match op with
 |.add=>K (mkC k (k.wrap (a+b)))
 |.sub=>K (mkC k (k.wrap (a-b)))
 |.mul=>K (mkC k (k.wrap (a*b)))
 |.quo=>dand (b≠0) (K (mkC k (k.wrap (a.tdiv b))))
 |.rem=>dand (b≠0) (K (mkC k (a.tmod b)))
 |.and=>K (mkC k (k.wrap (BitVec.ofInt k.bits a &&& BitVec.ofInt k.bits b).toNat))
 |.or=>K (mkC k (k.wrap (BitVec.ofInt k.bits a ||| BitVec.ofInt k.bits b).toNat))
 |.xor=>K (mkC k (k.wrap (BitVec.ofInt k.bits a ^^^ BitVec.ofInt k.bits b).toNat))
 |.andNot=>K (mkC k (k.wrap (BitVec.ofInt k.bits a &&& ~~~BitVec.ofInt k.bits b).toNat))
 |.shl=>dand (0<=b) (K (mkC k (k.wrap (a*2 ^ (min b.toNat k.bits)))))
 |.shr=>dand (0<=b) (K (mkC k (a.fdiv (2 ^ (min b.toNat k.bits)))))
 |.eql=>K (.bo (decide (a=b)))
 |.neq=>K (.bo (!decide (a=b)))
 |.lss=>K (.bo (decide (a<b)))
 |.leq=>K (.bo (decide (a<=b)))
 |.gtr=>K (.bo (decide (b<a)))
 |.geq=>K (.bo (decide (b<=a)))
def Nz(op:BinOp)(x y:C)(K:C->Bool):Bool:=
 match x,y with
 |.s a,.s b=>match op with
  |.add=>dand (a.length+b.length<=4611686018427387904) (K (.s (a++b)))
  |.eql=>K (.bo (decide (a=b)))
  |.neq=>K (.bo (!decide (a=b)))
  |.lss=>K (.bo (Op.bytesLess a b))
  |.leq=>K (.bo (Op.bytesLess a b||decide (a=b)))
  |.gtr=>K (.bo (!(Op.bytesLess a b||decide (a=b))))
  |.geq=>K (.bo (!Op.bytesLess a b))
  |_=>false
 |x,y=>match iT x,iT y with
  |some (k,a),some (k',b)=>if UC op=true\/k=k' then UJ op k a b K else false
  |_,_=>false
def T5(P:Program)(op:BinOp)(t:TypeId)(x y:At)(k:At->Bool):Bool:=
 match x,y with
 |.one (.c (.d (.bo a))),.one (.c (.d (.bo b)))=>match(ty P t).k with
  |.bool=>match op with
   |.eql=>k (sct (.bo (a==b)))
   |.neq=>k (sct (.bo (!(a==b))))
   |_=>false
  |_=>false
 |.one (.c (.d a)),.one (.c (.d .nm))=>match(ty P t).k,UG a with
  |.mp _ _,some z=>match op with
   |.eql=>k (sct (.bo z))
   |.neq=>k (sct (.bo (!z)))
   |_=>false
  |_,_=>false
 |.one (.c (.d a)),.one (.c (.d b))=>Nz op a b fun d=>k (sct d)
 |.one (.agg xs),.one (.agg ys)=>match BW P t with
  |some l=>match K0 l (xs.map TC) (ys.map TC),op with
   |some b,.eql=>k (sct (.bo b))
   |some b,.neq=>k (sct (.bo (!b)))
   |_,_=>false
  |none=>false
 |_,_=>false
def unB(op:UnOp)(x:At)(k:At->Bool):Bool:=
 match op,x with
 |.not,.one (.c (.d (.bo b)))=>k (sct (.bo (!b)))
 |.neg,.one (.c (.d c))=>match iT c with
  |some (κ,n)=>k (sct (mkC κ (κ.wrap (0-n))))
  |none=>false
 |.xor,.one (.c (.d c))=>match iT c with
  |some (κ,n)=>k (sct (mkC κ (κ.wrap (BitVec.ofInt κ.bits (if κ.signed then -1 else κ.max) ^^^ BitVec.ofInt κ.bits n).toNat)))
  |none=>false
 |_,_=>false
def uQ(x:At)(i:Nat)(k:At->Bool):Bool:=
 match x with
 |.tup vs=>match vs[i]? with
  |some v=>k (.one v)
  |none=>false
 |_=>false
def UF(gd:Option (Nat×Bool))(m:List (Nm×Nat×Rt))(x:At)(k:Nat->Bool):Bool:=
 match x with
 |.one (.c (.d (.s l)))=>k l.length
 |.one (.c (.d (.li _ l)))=>k l.length
 |.one (.c .nil)=>k 0
 |.one (.c (.rf p))=>match sliceAt m p with
  |some ⟨_,_,l⟩=>k l.length
  |_=>false
 |_=>false
def GD(x i:At)(k:At->Bool):Bool:=
 match x,i with
 |.one (.c (.d (.s l))),.one (.c (.d (.i _ n)))=>dand ((0<=n/\n.toNat<l.length)) (k (sct (.b (l.getD n.toNat 0))))
 |_,_=>false
def mn(x:Option At)(d:Nat)(k:Nat->Bool):Bool:=
 match x with
 |none=>k d
 |some (.one (.c (.d (.i _ n))))=>dand (0<=n) (k n.toNat)
 |_=>false
def Gz(P:Program)(t:TypeId)(x:At)(lo hi:Option At)(k:At->Bool):Bool:=
 match x with
 |.one (.c (.d (.s l)))=>match(ty P t).k with
  |.str=>mn lo 0 fun a=>mn hi l.length fun b=>dand ((a<=b/\b<=l.length)) (k (sct (.s ((l.drop a).take (b-a)))))
  |_=>false
 |.one (.c (.d (.li u l)))=>match(ty P t).k with
  |.sl e=>match(ty P e).ok&&Nat.beq (nc u) (ty P e).size with
   |true=>mn lo 0 fun a=>mn hi l.length fun b=>dand ((a<=b/\b<=l.length)) (k (sct (.li u ((l.drop a).take (b-a)))))
   |false=>false
  |_=>false
 |.one (.c .nil)=>match(ty P t).k with
  |.sl e=>match(ty P e).ok with
   |true=>mn lo 0 fun a=>mn hi 0 fun b=>dand (a<=b/\b<=0) (k (.one (.c .nil)))
   |false=>false
  |_=>false
 |_=>false
def oR(P:Program)(m:List (Nm×Nat×Rt))(t:TypeId)(x:At)(i:Nat)(k:At->Bool):Bool:=
 match(ty P t).k with
 |.st fs=>match fs[i]? with
  |some (off,size+1,_)=>match x with
   |.one (.c (.pl p))=>match gP m p off with
    |true=>k (.one (.c (.pl (p.add off))))
    |false=>false
   |.one (.c (.el row o))=>k (.one (.c (.el row (o+off))))
   |_=>false
  |_=>false
 |_=>false
def oU(P:Program)(m:List (Nm×Nat×Rt))(t:TypeId)(x i:At)(k:At->Bool):Bool:=
 match i with
 |.one (.c (.d (.i _ n)))=>match(ty P t).k with
  |.sl e=>match x with
   |.one (.c (.d (.li u l)))=>match(ty P e).ok&&Nat.beq (nc u) (ty P e).size with
    |true=>dand ((0<=n/\n.toNat<l.length)) (k (.one (.c (.el (flat u (l.getD n.toNat (dflt u))) 0))))
    |false=>false
   |.one (.c (.rf p))=>match(ty P e).ok&&Nat.ble 1 (ty P e).size with
    |true=>match sliceAt m p with
     |some ⟨sh,_,l⟩=>match Nat.beq sh.length (ty P e).size with
      |true=>dand ((0<=n/\n < (l.length:Int))) (k (.one (.c (.pl (p.at n.toNat (ty P e).size)))))
      |false=>false
     |_=>false
    |false=>false
   |_=>false
  |.ar N e=>match x with
   |.one (.c (.ga u l i))=>match(ty P e).ok&&Nat.beq (ty P e).size 1&&leaf u with
    |true=>dand ((0<=n/\n < (N:Int))) (k (.one (.c (.ga u l (n.toNat+i)))))
    |false=>false
   |.one (.c (.pl p))=>match(ty P e).ok&&gP m p (n.toNat*(ty P e).size)with
    |true=>dand ((0<=n/\n < (N:Int))) (k (.one (.c (.pl (p.add (n.toNat*(ty P e).size))))))
    |false=>false
   |_=>false
  |_=>false
 |_=>false
def Jb(P:Program)(m:List (Nm×Nat×Rt))(t:TypeId)(x:At)(k:At->Bool):Bool:=
 match(ty P t).ok with
 |true=>match x with
  |.one (.c (.el row o))=>match(ty P t).agg with
   |true=>match Nat.ble (o+(ty P t).size) row.length with
    |true=>k (.one (.agg (((row.drop o).take (ty P t).size).map Tt.d)))
    |false=>false
   |false=>match row[o]? with
    |some c=>k (sct c)
    |none=>false
  |.one (.c (.ga u l i))=>match(ty P t).agg,leaf u with
   |false,true=>dand (i<l.length) (k (sct (aj u (l.getD i (dflt u)))))
   |_,_=>false
  |.one (.c (.pl p))=>match(ty P t).agg with
   |true=>match atT m p (ty P t).size with
    |some ts=>k (.one (.agg (vW p ts)))
    |none=>false
   |false=>match atT m p 1 with
    |some [t']=>k (.one (.c (Ds p t')))
    |_=>false
  |_=>false
 |false=>false
def E2(P:Program)(t:TypeId)(x:At)(i:Nat)(k:At->Bool):Bool:=
 match(ty P t).k,x with
 |.st fs,.one (.agg ts)=>match fs[i]? with
  |some (off,_,some false)=>match ts[off]? with
   |some t'=>k (.one (.c t'))
   |none=>false
  |some (off,size,some true)=>match Nat.ble (off+size) ts.length with
   |true=>k (.one (.agg ((ts.drop off).take size)))
   |false=>false
  |_=>false
 |_,_=>false
def rO(x:At)(k:At->Bool):Bool:=
 match x with
 |.one (.c (.pl _))=>k x
 |.one (.c (.el _ _))=>k x
 |.one (.c (.ga _ _ _))=>k x
 |_=>false
def EP(P:Program)(t:TypeId)(parts:List (Nat×At))(k:At->Bool):Bool:=
 match zst P t with
 |some (zs,places)=>match jY (places[·]?) (zs.map my) parts with
  |some ts=>k (.one (.agg ts))
  |none=>false
 |none=>false
def N8(P:Program)(su du:TypeId)(x:At)(k:At->Bool):Bool:=
 match(ty P su).k,(ty P du).k with
 |.int _,.int κ=>match x with
  |.one (.c (.d c))=>match iT c with
   |some (_,n)=>k (sct (mkC κ (κ.wrap n)))
   |none=>false
  |_=>false
 |.sl e,.str=>match(ty P e).k with
  |.int .u8=>match x with
   |.one (.c (.d (.li .b8 l)))=>k (sct (.s l))
   |.one (.c .nil)=>k (sct (.s []))
   |_=>false
  |_=>false
 |_,_=>false
def EC(P:Program)(s:St)(t:TypeId)(d:Tmp)(k:St->Bool):Bool:=
 match zcells P t with
 |some (z::zs)=>match Nat.blt d 1000000 with
  |true=>k (((s.fresh (jf t d)).root (jf t d) ⟨true,(z::zs).map my,none⟩).put (some d) (.one (.c (.pl ⟨jf t d,0,[]⟩))))
  |false=>false
 |_=>false
def T7(s:St)(x:Operand)(d:Tmp)(k:St->Bool):Bool:=
 match jr (evA (s.fresh (.loc d)) x)with
 |some (t::ts)=>match(t::ts).all Tt.sure&&Nat.blt d 1000000 with
  |true=>k (((s.fresh (.loc d)).root (.loc d) ⟨true,t::ts,none⟩).put (some d) (.one (.c (.pl ⟨.loc d,0,[]⟩))))
  |false=>false
 |_=>false
def mq(P:Program)(E:Ut)(s0:St)(t:TypeId)(len:Nat)(ps:Array (Nat×Operand))(d:Tmp)(k:St->Bool):Bool:=
 match(ty P t).k with
 |.sl e=>match E.get e,zcells P e with
  |some u,some _=>match(ty P e).ok&&Nat.beq (nc u) (ty P e).size&&Nat.ble (len*nc u) 16777216&&Nat.ble len 16777216 with
   |true=>
    let s1:=bw s0 (ps.toList.map fun x=>evA s0 x.2)
    let s:=s1.fresh (.gh d)
    match jY (fun i=>some (i*nc u,nc u)) (List.replicate (len*nc u) .any) (dI s ps),(dI s1 ps).all (fun x=>x.2.noRf)with
    |some ts,true=>match fu u (chunk (nc u) len ts)with
     |some l=>k ((s.root (.gh d) ⟨false,[.ow (List.replicate (nc u) .fr) u l],none⟩).put (some d) (.one (.c (.rf ⟨.gh d,0,[]⟩))))
     |none=>false
    |_,_=>false
   |false=>false
  |_,_=>false
 |_=>false
def yj(sub:List Sh)(u:U)(l:List (El u)):List Step->Bool->Bool
 |[],_=>false
 |[st],k=>dand (st.idx<l.length) (k)
 |st::st'::r,k=>match sub[st.off]?,(flat u (l.getD st.idx (dflt u)))[st.off]? with
  |some (.ow s),some (.li u' l')=>dand (st.idx<l.length) (yj s u' l' (st'::r) k)
  |_,_=>false
def tw:List Step->List Step->Bool->Bool
 |[],[],p=>p
 |a::r,b::q,p=>match Nat.beq a.esz b.esz&&Nat.beq a.off b.off with
  |true=>dand (a.idx=b.idx) (tw r q p)
  |false=>false
 |_,_,_=>false
def Ss(s:St)(p:Pl)(t:Tt)(k:St->Bool):Bool:=
 match bj s.m p.root with
 |none=>false
 |some r=>match p.path,r.hole,r.cells[p.off]? with
  |[],none,some t0=>match t0.owned with
   |false=>k ⟨s.nx+1,s.t,cn s.m p.root s.nx { r with cells:=r.cells.set p.off t }⟩
   |true=>false
  |st::q,none,some (.ow sub u l)=>match yv sub u l t (st::q)with
   |some l'=>yj sub u l (st::q) (k ⟨s.nx+1,s.t,cn s.m p.root s.nx { r with cells:=r.cells.set p.off (.ow sub u l') }⟩)
   |none=>false
  |st::q,some (off,st',q'),some (.ow sub u l)=>match Nat.beq off p.off,t with
   |true,.ow sh v lv=>match xR sub u l sh v lv (st::q)with
    |some l'=>yj sub u l (st::q) (tw (st'::q') (st::q) (k ⟨s.nx+1,s.t,cn s.m p.root s.nx ⟨r.blk,r.cells.set p.off (.ow sub u l'),none⟩⟩))
    |none=>false
   |_,_=>false
  |_,_,_=>false
def zY(s:St)(p:Pl)(ts:List Tt)(k:St->Bool):Bool:=
 match bj s.m p.root with
 |none=>false
 |some r=>match p.path,r.hole,r.cells[p.off]? with
  |st::q,none,some (.ow sub u l)=>match oy sub u l ts (st::q)with
   |some l'=>yj sub u l (st::q) (k ⟨s.nx+1,s.t,cn s.m p.root s.nx { r with cells:=r.cells.set p.off (.ow sub u l') }⟩)
   |none=>false
  |_,_,_=>false
def qx(s:St)(p:Pl):List Tt->(St->Bool)->Bool
 |[],k=>k s
 |.rf q::ts,k=>match bj s.m q.root with
  |some ⟨false,[.ow sub u l],none⟩=>match q.path,decide (q.root=p.root),ts.all fun t=>!t.ment q.root with
   |[],false,true=>Ss (s.drop q.root) p (.ow sub u l) fun s'=>qx s' (p.add 1) ts k
   |_,_,_=>false
  |_=>false
 |.any::_,_=>false
 |.d .any::_,_=>false
 |t::ts,k=>Ss s p t fun s'=>qx s' (p.add 1) ts k
def GA(P:Program)(s:St)(t:TypeId)(x v:At)(k:St->Bool):Bool:=
 match x,jr v with
 |.one (.c (.pl p)),some ts=>match(ty P t).ok&&Nat.beq ts.length (ty P t).size&&gP s.m p (ts.length - 1)with
  |true=>match PK p ts with
   |true=>zY s p ts k
   |false=>qx s p ts k
  |false=>false
 |_,_=>false
def yU(P:Program)(E:Ut)(s00:St)(t u0:TypeId)(x y:Operand)(d:Tmp)(k:St->Bool):Bool:=
 let s:=dV s00 (evA s00 y)
 match(ty P t).k with
 |.sl e=>match E.get e,zcells P e with
  |some u,some z=>match(ty P e).ok&&(ty P u0).k.isSS&&Nat.beq z.length (ty P e).size&&Nat.beq (nc u) (ty P e).size with
   |true=>match SL u (evA s y),iK s u (evA s x)with
    |some ys,some (s1,sub,l)=>match sub.all Sh.isFr with
     |true=>dand ((l.length+ys.length<=4611686018427387904/\(l.length+ys.length)*(ty P e).bytes<=140737488355328)) (k (((s1.fresh (.gh d)).root (.gh d) ⟨false,[.ow sub u (l++ys)],none⟩).put (some d) (.one (.c (.rf ⟨.gh d,0,[]⟩)))))
     |false=>false
    |_,_=>false
   |false=>false
  |_,_=>false
 |_=>false
def jS(P:Program)(E:Ut)(sub:List Sh)(s0:St)(t:TypeId)(len:Nat)(ps:Array (Nat×Operand))(d:Tmp)(k:St->Bool):Bool:=
 match(ty P t).k with
 |.sl e=>match E.get e,zcells P e with
  |some u,some _=>match(ty P e).ok&&Nat.beq (nc u) (ty P e).size&&Nat.ble (len*nc u) 16777216&&Nat.ble len 16777216&&Nat.beq sub.length (nc u)with
   |true=>
    let s1:=bw s0 (ps.toList.map fun x=>evA s0 x.2)
    let s:=s1.fresh (.gh d)
    match jY (fun i=>some (i*nc u,nc u)) (List.replicate (len*nc u) .any) (dI s ps),(dI s1 ps).all (fun x=>x.2.noRf)with
    |some ts,true=>match fu u (chunk (nc u) len ts),la (List.replicate len sub).flatten ts with
     |some l,true=>k ((s.root (.gh d) ⟨false,[.ow sub u l],none⟩).put (some d) (.one (.c (.rf ⟨.gh d,0,[]⟩))))
     |_,_=>false
    |_,_=>false
   |false=>false
  |_,_=>false
 |_=>false
def jU(P:Program)(E:Ut)(sub:List Sh)(s:St)(t:TypeId)(len:Nat)(ps:Array (Nat×Operand))(d:Tmp)(k:St->Bool):Bool:=
 match(ty P t).k with
 |.sl e=>match E.get e,zcells P e,dI s ps with
  |some u,some _,[(0,.one (.agg ts))]=>match vY ts 0 with
   |some (j,q)=>match sub[j]?,sliceAt s.m q with
    |some (.ow sub'),some ⟨_,u',_⟩=>match iK s u' (.one (.c (.rf q)))with
     |some (s1,sub3,l')=>match(ty P e).ok&&Nat.beq (nc u) (ty P e).size&&Nat.ble (nc u) 16777216&&Nat.beq len 1&&Nat.beq sub.length (nc u)&&Nat.beq ts.length (nc u)&&(ia sub3 sub'&&((ts.set j .nil).all Tt.noRf&&la sub (ts.set j .nil))),fu u [ts.set j (.d (.li u' l'))]with
      |true,some l=>k (((s1.fresh (.gh d)).root (.gh d) ⟨false,[.ow sub u l],none⟩).put (some d) (.one (.c (.rf ⟨.gh d,0,[]⟩))))
      |_,_=>false
     |none=>false
    |_,_=>false
   |none=>false
  |_,_,_=>false
 |_=>false
def qZ(P:Program)(E:Ut)(s:St)(t u0:TypeId)(x y:Operand)(d:Tmp)(k:St->Bool):Bool:=
 match(ty P t).k with
 |.sl e=>match E.get e,zcells P e with
  |some u,some z=>match(ty P e).ok&&(ty P u0).k.isSS&&Nat.beq z.length (ty P e).size&&Nat.beq (nc u) (ty P e).size with
   |true=>match iK s u (evA s y)with
    |some (s1,sub1,ys)=>match iK s1 u (evA s1 x)with
     |some (s2,sub,l)=>match ia sub1 sub with
      |true=>dand ((l.length+ys.length<=4611686018427387904/\(l.length+ys.length)*(ty P e).bytes<=140737488355328)) (k (((s2.fresh (.gh d)).root (.gh d) ⟨false,[.ow sub u (l++ys)],none⟩).put (some d) (.one (.c (.rf ⟨.gh d,0,[]⟩)))))
      |false=>false
     |none=>false
    |none=>false
   |false=>false
  |_,_=>false
 |_=>false
def p7(P:Program)(E:Ut)(own:Bool)(s:St)(t:TypeId)(d:Tmp)(k:St->Bool):Bool:=match(ty P t).k with
 |.mp kt et=>match uOf P E kt,uOf P E et,own with
  |some ku,some vu,false=>k (((s.fresh (.gh d)).root (.gh d) ⟨false,[.mp ku vu []],none⟩).put (some d) (.one (.c (.rf ⟨.gh d,0,[]⟩))))
  |some ku,some (.sl u),true=>k (((s.fresh (.gh d)).root (.gh d) ⟨false,[.mo ku u [] none],none⟩).put (some d) (.one (.c (.rf ⟨.gh d,0,[]⟩))))
  |_,_,_=>false
 |_=>false
def zE(P:Program)(m:List (Nm×Nat×Rt))(t:TypeId)(x key:At)(ok:Bool)(k:At->Bool):Bool:=match(ty P t).k with
 |.mp kt et=>match x,key with
  |.one (.c (.rf p)),.one (.c (.d c))=>match lK m p with
   |some ⟨ku,vu,l⟩=>match eA P kt ku&&zOK P et vu,dY ku c with
    |true,some kx=>k (Gs vu ok (am ku l kx))
    |_,_=>false
   |none=>false
  |.one (.c (.d (.mp ku vu z))),.one (.c (.d c))=>match eA P kt ku&&(zOK P et vu&&leaf vu),dY ku c with
   |true,some kx=>k (Gs vu ok (am ku (z.getD []) kx))
   |_,_=>false
  |_,_=>false
 |_=>false
def zG(P:Program)(s:St)(t:TypeId)(x key v:At)(k:St->Bool):Bool:=match(ty P t).k with
 |.mp kt _=>match x,key,v with
  |.one (.c (.rf p)),.one (.c (.d c)),.one (.c tv)=>match lK s.m p with
   |some ⟨ku,vu,l⟩=>match eA P kt ku&&leaf vu,dY ku c,jW vu [tv]with
    |true,some kx,some vx=>k ⟨s.nx+1,s.t,cn s.m p.root s.nx ⟨false,[.mp ku vu (br ku l kx vx)],none⟩⟩
    |_,_,_=>false
   |none=>false
  |_,_,_=>false
 |_=>false
def zD(P:Program)(s:St)(t:TypeId)(x key:At)(k:St->Bool):Bool:=match(ty P t).k with
 |.mp kt _=>match x,key with
  |.one (.c (.rf p)),.one (.c (.d c))=>match lK s.m p with
   |some ⟨ku,vu,l⟩=>match eA P kt ku,dY ku c with
    |true,some kx=>k ⟨s.nx+1,s.t,cn s.m p.root s.nx ⟨false,[.mp ku vu (nX ku l kx)],none⟩⟩
    |_,_=>false
   |none=>false
  |_,_=>false
 |_=>false
def oX(e:EnB)(s:St)(t:TypeId)(n c:At)(same:Bool)(d:Tmp)(k:St->Bool):Bool:=match(ty e.e.P t).k,same with
 |.sl el,true=>match n with
  |.one (.c (.d (.i .i64 n)))=>match e.e.E.get el with
   |some u=>match zOK e.e.P el u&&Nat.beq (ty e.e.P el).size 1&&Js ((dK e.e.sh el).getD [.fr]) u with
    |true=>dand ((0<=n/\n<=4611686018427387904/\(ty e.e.P el).bytes*n.toNat<=281474976710656)) (k (((s.fresh (.gh d)).root (.gh d) ⟨false,[.ow ((dK e.e.sh el).getD [.fr]) u (List.replicate n.toNat (dflt u))],none⟩).put (some d) (.one (.c (.rf ⟨.gh d,0,[]⟩)))))
    |false=>false
   |none=>false
  |_=>false
 |_,_=>false
def qB(e:EnB)(o:Oper)(s:St)(k:At->Bool):Bool:=
 match o.op with
 |.move x=>k (evA s x)
 |.assign x=>k (evA s x)
 |.pick c x y=>Pi (evA s c) (evA s x) (evA s y) k
 |.binOp op t x y _=>T5 e.e.P op t (evA s x) (evA s y) k
 |.unOp op _ x=>unB op (evA s x) k
 |.load t x=>Jb e.e.P s.m t (evA s x) k
 |.field t x i=>E2 e.e.P t (evA s x) i k
 |.fieldAddr t x i=>oR e.e.P s.m t (evA s x) i k
 |.indexAddr t x i=>oU e.e.P s.m t (evA s x) (evA s i) k
 |.index t x i=>match(ty e.e.P t).k with
  |.str=>GD (evA s x) (evA s i) k
  |_=>false
 |.extract x i=>uQ (evA s x) i k
 |.convert su du x=>N8 e.e.P su du (evA s x) k
 |.slice t x lo hi none=>Gz e.e.P t (evA s x) (lo.map (evA s)) (hi.map (evA s)) k
 |.nilCheck x=>rO (evA s x) k
 |.build t ps=>EP e.e.P t (dI s ps) k
 |.call c=>match c.callee,c.args.toList,c.argTypes.toList with
  |.builtin .len,[x],[t]=>match sI (ty e.e.P t).k (Fb (evA s x))with
   |true=>UF o.guard s.m (evA s x) fun n=>k (sct (.i .i64 (n:Int)))
   |false=>false
  |_,_,_=>false
 |_=>false
def lB(e:EnB)(o:Oper)(s:St)(k:St->Bool):Bool:=
 match o.op with
 |.store t x v=>let s0:=Da e.e.sh s t v;let s1:=xY s0 (evA s0 x) (evA s0 v);GA e.e.P s1 t (evA s1 x) (evA s1 v) fun s'=>k (s'.put o.dst .any)
 |.alloc t=>match o.dst with
  |some d=>EC e.e.P s t d k
  |none=>false
 |.box _ x=>match o.dst with
  |some d=>T7 s x d k
  |none=>false
 |.buildSlice t n ps=>match o.dst with
  |some d=>match SI e.e t with
   |none=>mq e.e.P e.e.E s t n ps d k
   |some sub=>match PG sub s ps with
    |true=>jU e.e.P e.e.E sub s t n ps d k
    |false=>jS e.e.P e.e.E sub s t n ps d k
  |none=>false
 |.call c=>match c.callee,c.args.toList,c.argTypes.toList with
  |.builtin .append,[x,y],[t,u]=>match o.dst with
   |some d=>match Pb s (evA s x)with
    |false=>yU e.e.P e.e.E s t u x y d k
    |true=>qZ e.e.P e.e.E s t u x y d k
   |none=>false
  |.builtin .delete,[x,i],t::_=>zD e.e.P s t (evA s x) (evA s i) fun s'=>k (s'.put o.dst (.tup []))
  |.value (.func f),args,_=>match CBt.get e.cs f,Nat.blt f 1000000 with
   |some C,true=>C s args fun s' av=>k (s'.put o.dst av)
   |_,_=>false
  |.value (.tmp t),args,_=>match Nat.blt t 100000,Ro (gtA s.t t)with
   |true,some f=>match CBt.get e.cs f,Nat.blt f 1000000 with
    |some C,true=>C s args fun s' av=>k (s'.put o.dst av)
    |_,_=>false
   |true,none=>match xN (gtA s.t t)with
    |some f=>match CBt.get e.cs f with
     |some _=>false
     |none=>false
    |none=>false
   |_,_=>false
  |_,_,_=>false
 |.makeMap t r=>match o.dst,r with
  |some d,none=>p7 e.e.P e.e.E (dK e.e.sh (4000000+t)).isSome s t d k
  |some d,some x=>match evA s x with
   |.one (.c (.d (.i _ _)))=>p7 e.e.P e.e.E (dK e.e.sh (4000000+t)).isSome s t d k
   |_=>false
  |none,_=>false
 |.lookup t x i ok=>match RD s (evA s x),ok,o.dst with
  |true,false,some d=>false
  |_,_,_=>zE e.e.P s.m t (evA s x) (evA s i) ok fun v=>k (s.put o.dst v)
 |.mapUpdate t m i v=>match RD s (evA s m)with
  |true=>false
  |false=>let s1:=dV s (evA s v);zG e.e.P s1 t (evA s1 m) (evA s1 i) (evA s1 v) fun s'=>k (s'.put o.dst .any)
 |.makeSlice t n c=>match o.dst with
  |some d=>oX e s t (evA s n) (evA s c) (wh n c) d k
  |none=>false
 |.makeFunc fn first caps=>match fn,first.toList with
  |.func f,[]=>false
  |_,_=>false
 |.range t x=>match o.dst with
  |some d=>false
  |none=>false
 |.next x false=>false
 |.entry x=>false
 |_=>false
def Se(e:EnB)(o:Oper)(s:St)(k:St->Bool):Bool:=
 match isQ o with
 |true=>let s1:=wY s o;qB e o s1 fun v=>k (s1.put o.dst v)
 |false=>lB e o s k
def opB(e:EnB)(o:Oper)(s:St)(k:St->Bool):Bool:=
 match Ga e.e o with
 |true=>false
 |false=>Se e o s k
end Go.Am
end
