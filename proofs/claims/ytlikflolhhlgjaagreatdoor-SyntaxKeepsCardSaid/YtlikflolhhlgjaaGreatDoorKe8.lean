/-
  Part 8: AmWalk · AmPtrCon · AmOwn · AmPtrFn · AmAuto · AmArr · AmSem · AmOwnCon · AmKp1.
-/
import Derived.Test.YtlikflolhhlgjaaGreatDoorKe7
import Derived.IntWalk
set_option linter.unusedSimpArgs false
set_option linter.unusedVariables false
set_option linter.unusedSectionVars false
set_option linter.unnecessarySimpa false
section
namespace Go.Am
def xq (ks:List Nat) (t:List (Nat×AV)):List (Nat×AV):=ks.map fun k=>(k,aA t k)
def S.drops:List Nm->S->S
 | [],s=>s
 | n::ns,s=>S.drops ns (s.drop n)
def S.cut (ks:List Nat) (ds:List Nm) (s:S):S:=S.drops ds ⟨xq ks s.t,s.m⟩
theorem wN (t:List (Nat×AV)) (i:Nat):∀ ks:List Nat,aA (xq ks t) i=aA t i\/aA (xq ks t) i=.any
 | []=>.inr rfl
 | k::ks=>by
  simp only [xq,List.map_cons,aA];by_cases h:k=i
  ·subst h; rw [if_pos rfl]; exact .inl rfl
  ·rw [if_neg h]; exact wN t i ks
theorem Qi {g:G} {s:S} {a:Act} {w:World} {H:FH} {γ:Gam} {F:Nm->Fp} (ks:List Nat) (h:RX g s a w H γ F):RX g ⟨xq ks s.t,s.m⟩ a w H γ F:=by
 refine ⟨h.mem,h.fr,h.nt,h.df,fun i=>?_⟩;show AR w H γ s.m (aA (xq ks s.t) i) _
 rcases wN s.t i ks with e | e
 ·rw [e]; exact h.t i
 ·rw [e]; trivial
theorem Ct {g:G} {a:Act} {w:World} {H:FH} {γ:Gam} {F:Nm->Fp}:∀ (ds:List Nm) {s:S},RX g s a w H γ F->RX g (S.drops ds s) a w H γ F
 | [],_,h=>h
 | n::ns,_,h=>Ct ns (nH h n)
theorem S6 {g:G} {s:S} {a:Act} {w:World} (ks:List Nat) (ds:List Nm) (h:R g s a w):R g (s.cut ks ds) a w:=by
 obtain ⟨H,γ,F,h⟩:=h;exact ⟨H,γ,F,Ct ds (Qi ks h)⟩
section
variable {P:Program} {cs:CT} {g:G} {Q:Exit->S->Prop} {s:S}
theorem RF {c:Code} {f:S->S} (hf:∀ s a w,R g s a w->R g (f s) a w) (h:AW P g c (fun e s=>match e with | .normal=>Q .normal (f s) | e=>Q e s) s):AW P g c Q s:=fun a w hR=>
 Code.wp_mono (fun e a' w' ⟨s',h1,h2⟩=>by
  cases e with
  | normal=>exact ⟨_,h1,hf _ _ _ h2⟩
  | _=>exact ⟨s',h1,h2⟩) (h a w hR)
theorem UE (ks:List Nat) (ds:List Nm) (hcs:cs.Ok P) {id:Nat} {l:List Oper} (hc:AS g.nt l l=true) (h:sF P cs l l s (fun s'=>Q .normal (s'.cut ks ds))):AW P g (.region id l.toArray false) Q s:=
 RF (f:=S.cut ks ds) (fun _ _ _ h=>S6 ks ds h) (T1 hcs hc h)
def S.one (s:S) (d:Nat) (v:AV):S:=⟨(d,v)::s.t,s.m⟩
end
structure Rw (α:Type) where
 enc:α->List D
 dec:List D->Option α
 inv:∀ l x,dec l=some x->l=enc x
structure Cd (α:Type) where
 enc:α->AV1
 dec:AV1->Option α
 inv:∀ v x,dec v=some x->v=enc x
def cT {α:Type} (c:Rw α):List (List D)->Option (List α)
 | []=>some []
 | r::rs=>match c.dec r with
  | some x=>match cT c rs with
   | some xs=>some (x::xs)
   | none=>none
  | none=>none
theorem aG {α:Type} {c:Rw α}:∀ {l:List (List D)} {xs:List α},cT c l=some xs->l=xs.map c.enc
 | [],xs,h=>by simp only [cT,V6] at h; subst h; rfl
 | r::rs,xs,h=>by
  simp only [cT] at h;cases h1:c.dec r with
  | none=>rw [h1] at h; simp at h
  | some x=>
   rw [h1] at h;cases h2:cT c rs with
   | none=>rw [h2] at h; simp at h
   | some ys=>
    rw [h2] at h;simp only [V6] at h;subst h;rw [c.inv r x h1,aG h2]; rfl
def tds:List T->Option (List D)
 | []=>some []
 | .d x::ts=>match tds ts with
  | some xs=>some (x::xs)
  | none=>none
 | _=>none
theorem JP:∀ {ts:List T} {xs:List D},tds ts=some xs->ts=xs.map T.d
 | [],xs,h=>by simp only [tds,V6] at h; subst h; rfl
 | .d x::ts,xs,h=>by
  simp only [tds] at h;cases h2:tds ts with
  | none=>rw [h2] at h; simp at h
  | some ys=>
   rw [h2] at h;simp only [V6] at h;subst h;rw [JP h2]; rfl
 | .nil::_,_,h=>by simp [tds] at h
 | .ow _ _::_,_,h=>by simp [tds] at h
 | .el _ _::_,_,h=>by simp [tds] at h
 | .pl _::_,_,h=>by simp [tds] at h
 | .rf _::_,_,h=>by simp [tds] at h
 | .any::_,_,h=>by simp [tds] at h
def U4 (k:IntKind):AV1->Option Int
 | .c (.d (.int k' n))=>if k'=k then some n else none
 | _=>none
def cI (k:IntKind):Cd Int where
 enc n:=.c (.d (.int k n))
 dec:=U4 k
 inv v x h:=by
  unfold U4 at h;split at h
  ·split at h
   ·rename_i e; subst e; simp only [V6] at h; subst h; rfl
   ·simp at h
  ·simp at h
def Ve:AV1->Option Bool
 | .c (.d (.bool b))=>some b
 | _=>none
def cB:Cd Bool where
 enc b:=.c (.d (.bool b))
 dec:=Ve
 inv v x h:=by unfold Ve at h; split at h <;> simp at h; subst h; rfl
def Vr:AV1->Option (List UInt8)
 | .c (.d (.str b))=>some b
 | _=>none
def cS:Cd (List UInt8) where
 enc b:=.c (.d (.str b))
 dec:=Vr
 inv v x h:=by unfold Vr at h; split at h <;> simp at h; subst h; rfl
def Tj {α:Type} (c:Rw α):AV1->Option (List α)
 | .c (.d (.li l))=>cT c l
 | _=>none
def cL {α:Type} (c:Rw α):Cd (List α) where
 enc l:=.c (.d (.li (l.map c.enc)))
 dec:=Tj c
 inv v x h:=by
  unfold Tj at h; split at h
  ·rw [aG h]
  ·simp at h
def VB {α:Type} (c:Rw α):AV1->Option α
 | .agg ts=>match tds ts with
  | some l=>c.dec l
  | none=>none
 | _=>none
def cA {α:Type} (c:Rw α):Cd α where
 enc x:=.agg ((c.enc x).map T.d)
 dec:=VB c
 inv v x h:=by
  unfold VB at h;split at h
  ·rename_i ts;cases h1:tds ts with
   | none=>rw [h1] at h; simp at h
   | some l=>rw [h1] at h; rw [JP h1,c.inv _ _ h]
  ·simp at h
def Te:List D->Option (List UInt8)
 | [.str b]=>some b
 | _=>none
def rS:Rw (List UInt8) where
 enc b:=[.str b]
 dec:=Te
 inv l x h:=by unfold Te at h; split at h <;> simp at h; subst h; rfl
def Ta (k:IntKind):List D->Option Int
 | [.int k' n]=>if k'=k then some n else none
 | _=>none
def rI (k:IntKind):Rw Int where
 enc n:=[.int k n]
 dec:=Ta k
 inv l x h:=by
  unfold Ta at h;split at h
  ·split at h
   ·rename_i e; subst e; simp only [V6] at h; subst h; rfl
   ·simp at h
  ·simp at h
theorem UP (a:List UInt8):rS.dec [.str a]=some a:=rfl
section
variable {α β γ δ ρ:Type}
def fn0 (r:ρ->AV) (v:ρ):List AV->(AV->Prop)->Prop
 | [],K=>K (r v)
 | _,_=>False
def fn1 (a:Cd α) (r:ρ->AV) (pre:α->Prop) (f:α->ρ):List AV->(AV->Prop)->Prop
 | [.one x],K=>match a.dec x with
  | some x=>pre x/\K (r (f x))
  | none=>False
 | _,_=>False
def fn2 (a:Cd α) (b:Cd β) (r:ρ->AV) (pre:α->β->Prop) (f:α->β->ρ):List AV->(AV->Prop)->Prop
 | [.one x,.one y],K=>match a.dec x,b.dec y with
  | some x,some y=>pre x y/\K (r (f x y))
  | _,_=>False
 | _,_=>False
def fn3 (a:Cd α) (b:Cd β) (c:Cd γ) (r:ρ->AV) (pre:α->β->γ->Prop) (f:α->β->γ->ρ):List AV->(AV->Prop)->Prop
 | [.one x,.one y,.one z],K=>match a.dec x,b.dec y,c.dec z with
  | some x,some y,some z=>pre x y z/\K (r (f x y z))
  | _,_,_=>False
 | _,_=>False
def o1 (c:Cd ρ) (x:ρ):AV:=.one (c.enc x)
def o2 (a:Cd α) (b:Cd β) (x:α×β):AV:=.tup [a.enc x.1,b.enc x.2]
def o3 (a:Cd α) (b:Cd β) (c:Cd γ) (x:α×β×γ):AV:=.tup [a.enc x.1,b.enc x.2.1,c.enc x.2.2]
variable {P:Program} {f:Nat} {fn:Func} {c:Code}
theorem Q3 {a:Cd α} {r:ρ->AV} {pre:α->Prop} {F:α->ρ} (hf:P.funcs[f]? = some fn) (hname:(fn.name == "runtime.NumGoroutine")=false) (hb:fn.body=some c) (hn:1<=fn.ntmps)
  (h:∀ (g:G) (x:α) (K:AV->Prop),g.nt=fn.ntmps->pre x->K (r (F x))->AW P g c (NY P fn.results.toList K) ⟨aW 0 [.one (a.enc x)],[]⟩):Con P f (oo (fn1 a r pre F)):=by
 refine vp hf hname hb _ (fun avs K h=>?_) (fun g avs K hg hφ=>?_)
 ·unfold fn1 at h; split at h
  ·exact hn
  ·exact h.elim
 ·unfold fn1 at hφ; split at hφ
  ·rename_i x;split at hφ
   ·rename_i y hy; rw [a.inv _ _ hy]; exact h g y K hg hφ.1 hφ.2
   ·exact hφ.elim
  ·exact hφ.elim
end
theorem CT.ok0 {P:Program}:CT.Ok P []:=fun x hx=>by simp at hx
theorem CT.cons {P:Program} {f:Nat} {C:CK1} {cs:CT} (h:Con P f C) (hs:cs.Ok P):CT.Ok P ((f,C)::cs):=fun x hx=>by
 simp only [Wk] at hx;rcases hx with rfl | hx
 ·exact h
 ·exact hs x hx
theorem Uy {α:Type} (l:List α) (d:α) {i:Nat} (h:i<l.length):l[i]? = some (l.getD i d):=by
 rw [List.getD,V8 h]; rfl
theorem Ke {α β:Type} [Inhabited α] (f:α->β) (l:List α) {i:Nat} (h:i<l.length):(l.map f)[i]? = some (f (l.getD i default)):=by
 rw [Wa,Uy l default h]; rfl
theorem wrap_i64 {n:Int} (h1:-9223372036854775808<=n) (h2:n<=9223372036854775807):IntKind.i64.wrap n=n:=IntWalk.i64_in n ⟨h1,h2⟩
theorem aQ {i:Nat} (h:i < 9223372036854775807):IntKind.i64.wrap ((i:Int)+1)=((i+1:Nat):Int):=by
 rw [wrap_i64 (by omega) (by omega)]; rfl
def KA (P:Program) (cs:CT) (all:List Oper) (o:Oper) (s:S) (K:S->Prop):Prop:=
 match o.guard with
 | none=>opK P cs o s K
 | some (j,want)=>match (all[j]?).bind (·.dst) with
  | some d=>match aA s.t d with
   | .one (.c (.d (.bool c)))=>gsel c want (opK P cs o (s.put (some d) (sc (.bool want))) K) (K ((s.put (some d) (sc (.bool (!want)))).put o.dst (.tup [])))
   | .tup []=>K (s.put o.dst (.tup []))
   | _=>False
  | none=>False
section
variable {P:Program} {cs:CT} {all:List Oper}
theorem L6 {o:Oper} {r:List Oper} {s:S} {k:S->Prop} (h:∀ K:S->Prop,(∀ s',sF P cs all r s' k->K s')->KA P cs all o s K):sF P cs all (o::r) s k:=by
 have h:=h (fun s'=>sF P cs all r s' k) (fun _ h=>h)
 unfold KA at h;simp only [sF];cases hg:o.guard with
 | none=>rw [hg] at h; exact h
 | some q=>
  rw [hg] at h;exact h
def Vj (P:Program) (all:List Oper) (i:Nat) (fz:Bool) (s:S) (K:S->Prop):Prop:=
 match all[i]? with
 | none=>False
 | some o=>gK all o s (fun s=>(fz=true->eK s o)/\qK P o s fun v=>K (s.put o.dst v)) K
end
theorem TT (b:List UInt8):rS.enc b=[.str b]:=rfl
theorem UG (k:IntKind) (n:Int):(rI k).enc n=[.int k n]:=rfl
theorem T4 (k:IntKind) (n:Int):(cI k).enc n=.c (.d (.int k n)):=rfl
theorem TI (b:Bool):cB.enc b=.c (.d (.bool b)):=rfl
theorem TE (b:List UInt8):cS.enc b=.c (.d (.str b)):=rfl
theorem TO {α:Type} (c:Rw α) (l:List α):(cL c).enc l=.c (.d (.li (l.map c.enc))):=rfl
theorem UX {α:Type} (c:Rw α) (x:α):(cA c).enc x=.agg ((c.enc x).map T.d):=rfl
theorem Ur (k:IntKind) (n:Int):(cI k).dec (.c (.d (.int k n)))=some n:=by simp [cI,U4]
theorem Ux (b:Bool):cB.dec (.c (.d (.bool b)))=some b:=rfl
theorem Uq (b:List UInt8):cS.dec (.c (.d (.str b)))=some b:=rfl
theorem TZ {α:Type} (c:Rw α) (l:List (List D)):(cL c).dec (.c (.d (.li l)))=cT c l:=rfl
theorem U2 {α:Type} (c:Rw α) (ts:List T):(cA c).dec (.agg ts)=match tds ts with
  | some l=>c.dec l
  | none=>none:=rfl
theorem V3 (x:D):sc x=.one (.c (.d x)):=rfl
attribute [push_cast] kP List.append_eq decide_false decide_true V9 qS jd eqD TD Option.isSome_some List.toList_toArray T.owned T.ment T.toD mE fA List.set_cons_zero List.set_cons_succ mkT inK aI jO fQ oD nD gB gZ DT aU aY Fz thr Pl.offs Option.map_some XB List.replicate_succ List.replicate_zero List.zipWith_cons_cons List.zipWith_nil_left List.zipIdx_cons List.zipIdx_nil WR XA XC wU T.frz DE Sh.isFr TK.isSS bne List.isPrefixOf List.cons_beq_cons Nm.loc.injEq Nm.gh.injEq Nm.out.injEq gsel ne_eq not_false_eq_true not_true_eq_false Nat.one_ne_zero Wc KA opK ev cst nY aW aA lZ S.put Ay ite_true if_true if_false Wp W0 nE uR Ed Gs sM Xf WE Xe Bool.and_false Wv WO Bool.or_true Xg Bool.true_or WY Bool.not_not W1 W9 true_and and_true forall_const Wx Ez eO eM ro false_and and_false false_implies true_implies implies_true decide_eq_true_eq decide_eq_false_iff_not WH Bool.not_eq_false' beq_self_eq_true xq S.cut S.drops S.one List.map_cons List.map_nil V3 TT UG T4 TI TE TO UX Ur Ux Uq TZ U2 tds cT UP CT.get oo fn0 fn1 fn2 fn3 o1 o2 o3 gO CY PA zQ AV.isFz AV1.isFz T.isFz AV.map AV1.map T.canon Wl Xh S.drop i7 aH AV.kill AV1.kill T.kill bG bh ae cy S.fresh S.root Vj gK UA qK eK FX iG unK rM okv okvs List.drop_zero List.take_zero List.drop_succ_cons List.take_succ_cons List.take_nil List.drop_nil NY sx eH mB en rQ Mv dA T.sure rv sb cN gi room oO Pl.add atK qN yp NV KB j6 eT iR gR overw chunk T.fz
end Go.Am
end

section
namespace Go.Am
def T.ren (a b:Nm):T->T
 | .pl p=>.pl ⟨if p.root=a then b else p.root,p.off,p.path⟩
 | t=>t
def T.self (a:Nm):T->Bool
 | .pl p=>decide (p.root=a)&&p.path.isEmpty
 | .rf _=>false
 | _=>true
def gn (r:Nm) (rf:Bool) (p:Pl):Bool:=decide (p.root=r)&&(rf||!p.path.isEmpty)
def xk (j:Nat) (P:Program) (s:S) (rs:List ResultVar) (K:AV->List T->Prop):Prop:=
 match ae (eH s rs).m (.out j) with
 | some ⟨true,cells⟩=>sx P s rs (fun v=>K v cells)
 | _=>False
def VQ (j:Nat) (P:Program) (rs:List ResultVar) (K:AV->List T->Prop):Exit->S->Prop
 | .normal,s=>xk j P s rs K
 | .ret,s=>xk j P s rs K
 | _,_=>False
def NC (j:Nat) (φ:List AV->List T->(AV->List T->Prop)->Prop):CK1:=fun s ops k=>
 match ops with
 | []=>False
 | o::os=>
  let s1:=gO s (os.map (ev s))
  match ev s1 o with
  | .one (.c (.pl ⟨r,0,[]⟩))=>match ae s1.m r with
   | some ⟨true,cells⟩=>(Nm.out j).tyd=r.tyd/\cells.all (T.self r)=true/\(os.map (ev s1)).all AV.isFz=true /\
     φ (os.map fun x=>(ev s1 x).map T.canon) (cells.map (T.ren r (.out j))) (fun res cells'=>cells'.length=cells.length/\cells'.all (T.self (.out j))=true /\
      k ⟨i7 (gn r) s1.t,(r,⟨true,cells'.map (T.ren (.out j) r)⟩)::aH (bG r) (bh s1.m r)⟩ res)
   | _=>False
  | _=>False
section
variable {w w':World} {H H':FH} {γ γ':Gam} {m m':Mm}
theorem kq {n n':Nm} {cells:List T} {f:Fp} {b:Nat} (h:be w H γ m n ⟨true,cells⟩ f) (hn:n'.tyd=n.tyd) (hs:cells.all (T.self n)=true) (hγ:γ n=.blk b) (hm:ae m n=some ⟨true,cells⟩)
  (hγ':γ' n'=.blk b) (hm':∃ cells',ae m' n'=some ⟨true,cells'⟩/\cells'.length=cells.length):be w H γ' m' n' ⟨true,cells.map (T.ren n n')⟩ f:=by
 unfold be at h ⊢;rw [if_pos rfl] at h ⊢;obtain ⟨b0,cs,ty,fz,g,h1,h2,h3,h4,h5,h6⟩:=h;rw [hγ] at h1;obtain rfl:b=b0:=by simpa using h1
 refine ⟨b,cs,ty,fz,g,hγ',h2,⟨h3.1,fun t ht=>h3.2 t (by rw [<- hn]; exact ht)⟩,by simpa using h4,?_,h6⟩;unfold Ts at h5 ⊢;rw [Wc];obtain ⟨cells',hm1,hm2⟩:=hm';have key:∀ (ss:List Unit) (xs:List T) (f:Fp) (vs:List Value),xs.all (T.self n)=true->Cs (fun _ t=>TR w H γ m t) ss xs f vs->Cs (fun _ t=>TR w H γ' m' t) ss (xs.map (T.ren n n')) f vs:=by
  intro ss xs;induction xs generalizing ss with
  | nil=>intro f vs _ h; cases ss <;> exact h
  | cons x xs ih=>
   intro f vs hx h;simp only [Wl,V7] at hx;cases ss with
   | nil=>exact h.elim
   | cons u ss=>
    obtain ⟨v,r,f1,f2,hv,hf,k1,k2⟩:=h;refine ⟨v,r,f1,f2,hv,hf,?_,ih ss f2 r hx.2 k2⟩;cases x with
    | pl p=>
     obtain ⟨root,off,path⟩:=p;have hp:=hx.1
     simp only [T.self,V7,decide_eq_true_eq,List.isEmpty_iff] at hp;obtain ⟨rfl,rfl⟩:=hp;obtain ⟨z,hok,a,ha,e⟩:=k1;simp only [T.ren,if_true];refine ⟨z,?_,a,?_,e⟩
     ·rw [ak] at hok ⊢;obtain ⟨r0,q1,q2⟩:=hok;rw [hm] at q1;obtain rfl:=Option.some.inj q1;exact ⟨_,hm1,by
       have q2':off<cells.length:=q2
       show off<cells'.length
       omega⟩
     ·simp only [plA] at ha ⊢;rw [hγ] at ha;rw [hγ']; exact ha
    | rf p=>simp [T.self] at hx
    | d x=>exact k1
    | nil=>exact k1
    | ow sub l=>exact k1
    | el row o=>exact k1
    | any=>exact k1
 exact key _ _ _ _ hs h5
theorem gA {F:Nm->Fp} {m:Mm} {n:Nm} {r:Root} (hk:ae m n=some r) (c:Nat):tot F (bh m n) c+F n c=tot F m c:=by
 induction m with
 | nil=>simp [ae] at hk
 | cons x m ih=>
  obtain ⟨k,y⟩:=x;simp only [ae,bh] at hk ⊢;by_cases hkn:k=n
  ·subst hkn; rw [if_pos rfl,bb]; dsimp only; omega
  ·rw [if_neg hkn] at hk;rw [if_neg hkn,bb,bb];have:=ih hk
   dsimp only at this ⊢;omega
theorem xl {m:Mm} {n:Nm} (hk:(m.map (·.1)).Nodup):ae (aH (bG n) (bh m n)) n=none:=by
 rw [nK,lJ];exact im hk
end
section
variable {P:Program}
theorem DB {g:G} {s:S} {a:Act} {w:World} {H:FH} {γ:Gam} {F:Nm->Fp} (h:RX g s a w H γ F) (hex:g.ex=none) {fn:Func} {k:AV->Prop} (hk:sx P s fn.results.toList k) :
  ∃ y v H' F',(results fn a.tmps).run P w=.ok y w/\RX g (eH s fn.results.toList) a w H' γ F'/\AR w H' γ (eH s fn.results.toList).m v y/\v.isFz=true/\k (v.map T.canon):=by
 unfold sx at hk;obtain ⟨H1,F1,h1⟩:=oJ fn.results.toList s H F h;obtain ⟨ys,xs,e1,e2,e3,e4⟩:=pC h1 hex hk;have hrun:(results fn a.tmps).run P w=.ok (if h:ys.toArray.size=1 then ys.toArray[0] else .tuple ys.toArray) w:=by
  rw [fZ,Xz];simp [e1]
 refine ⟨_,(match xs with | [x]=>.one x | xs=>.tup xs),H1,F1,hrun,h1,?_⟩
 match xs,ys,e2,e3 with
 | [],[],e2,e3=>exact ⟨⟨#[],by simp,trivial⟩,e3.1,e3.2⟩
 | [x],[y],e2,e3=>exact ⟨e2.1,e3.1,e3.2⟩
 | x1::x2::xs,y1::y2::ys,e2,e3=>exact ⟨⟨(y1::y2::ys).toArray,by simp,by simpa using e2⟩,e3.1,e3.2⟩
theorem RS {j:Nat} {f:Nat} {fn:Func} {c:Code} (hf:P.funcs[f]? = some fn) (hname:(fn.name == "runtime.NumGoroutine")=false) (hb:fn.body=some c) (φ:List AV->List T->(AV->List T->Prop)->Prop)
  (hlen:∀ avs cells K,φ avs cells K->avs.length+1<=fn.ntmps)
  (hbody:∀ (g:G) avs cells K,g.nt=fn.ntmps->φ avs cells K->AW P g c (VQ j P fn.results.toList K) ⟨aW 0 (.one (.c (.pl ⟨.out j,0,[]⟩))::avs),[(.out j,⟨true,cells⟩)]⟩):Con P f (NC j φ):=by
 refine ⟨fun args w=>?_,?_⟩
 ·have h1:fn.name ≠ "runtime.NumGoroutine" := by simpa using hname
  simp [callFunc,hf,h1,hb]
 ·intro g s a w H γ F ops k hX hops hK;cases ops with
  | nil=>exact hK.elim
  | cons o os=>
  unfold NC at hK;dsimp only at hK;obtain ⟨H1,F1,h1⟩:=iB (os.map (ev s)) s H F hX;generalize gO s (os.map (ev s))=s1 at hK h1;have hops':aX o=true/\os.all aX=true:=by simpa using hops
  split at hK
  rotate_left
  ·exact hK.elim
  rename_i r heo;split at hK
  rotate_left
  ·exact hK.elim
  rename_i cells hroot;obtain ⟨htyd,hself,hfz,hφ⟩:=hK;have hevo:=bg h1 hops'.1
  rw [heo] at hevo;obtain ⟨_,hokp,ad,had,hval⟩:=hevo;have hR:=h1.mem.roots _ (am hroot)
  obtain ⟨b,hγr⟩:∃ b,γ r=.blk b:=by
   have hR2:=hR
   unfold be at hR2;rw [if_pos rfl] at hR2;obtain ⟨b,_,_,_,_,e,_⟩:=hR2;exact ⟨b,e⟩
  have had':ad=⟨b,0,none⟩:=by
   simp only [plA,hγr,V6] at had; exact had.symm
  subst had';have hoff:0<cells.length:=by
   rw [ak] at hokp;obtain ⟨r0,q1,q2⟩:=hokp;dsimp only at q1;rw [hroot] at q1;obtain rfl:=Option.some.inj q1;exact q2
  have hle:=hlen _ _ _ hφ
  rw [Wc] at hle
  let γc:Gam:=fun n=>if n=.out j then .blk b else γ n
  let mc:Mm:=[(.out j,⟨true,cells.map (T.ren r (.out j))⟩)]
  let g1:G:=⟨fn.ntmps,w,H1,F1 r,fun i=>if i=j then some b else none,none,[]⟩
  have hγc:γc (.out j)=.blk b:=by simp [γc]
  have hRc:be w H1 γc mc (.out j) ⟨true,cells.map (T.ren r (.out j))⟩ (F1 r):=
   kq hR htyd hself hγr hroot hγc ⟨cells.map (T.ren r (.out j)),by simp [mc,ae],by simp⟩
  have hge:∀ c,F1 r c<=tot F1 s1.m c:=fun c=>bI (F:=F1) (am hroot) c
  let Fc:Nm->Fp:=fun _=>F1 r
  have htc:∀ c,tot Fc mc c=F1 r c:=fun c=>(XE (F1 r c))
  have hmc:Mem w H1 γc mc Fc:=by
   refine ⟨h1.mem.agree,fun x hx=>?_,by simp [mc],fun c=>by rw [htc]; exact Xt (hge c) (h1.mem.le1 c),fun c hc=>by rw [htc] at hc; exact h1.mem.lt c (by have:=hge c; omega),fun c hc=>by rw [htc] at hc; exact h1.mem.nofz c (by have:=hge c; omega)⟩;simp only [mc,WJ] at hx;subst hx;exact hRc
  refine calls_of_wp hf hb (Code.wp_mono (fun e a' w' hl=>?_) (hbody g1 _ _ _ rfl hφ _ w ⟨H1,γc,Fc,?_⟩))
  ·obtain ⟨s',hq,H',γ',F',hX'⟩:=hl;have fin:xk j P s' fn.results.toList (fun res cells'=>cells'.length=cells.length/\cells'.all (T.self (.out j))=true /\
      k ⟨i7 (gn r) s1.t,(r,⟨true,cells'.map (T.ren (.out j) r)⟩)::aH (bG r) (bh s1.m r)⟩ res) ->
     a'.defers=[]/\∃ v,(results fn a'.tmps).run P w'=.ok v w'/\∃ rr s'' av H'' γ'' F'',Ending.returned v=.returned rr/\k s'' av/\AR w' H'' γ'' s''.m av rr/\RX g s'' a w' H'' γ'' F'':=by
    intro hq;unfold xk at hq;split at hq
    rotate_left
    ·exact hq.elim
    rename_i cells' hout;obtain ⟨y,v,H2,F2,e1,e2,e3,e4,hl2,hs2,hk⟩:=DB hX' rfl hq;generalize eH s' fn.results.toList=s2 at hout e2 e3;have hfr:=e2.fr
    dsimp only [g1] at hfr;have hd:=nH h1 r
    have hmdm:(s1.drop r).m=aH (bG r) (bh s1.m r):=rfl
    have hdm:=hd.mem
    rw [hmdm] at hdm;generalize hmd0:aH (bG r) (bh s1.m r)=md at hdm hk;have tdel:∀ c,tot F1 md c+F1 r c=tot F1 s1.m c:=fun c=>by
     rw [<- hmd0,br]; exact gA hroot c
    have hsame:∀ c,tot F1 md c≠0->w'.heap[c]? = w.heap[c]? := fun c hc=>
     hfr.block c (h1.mem.lt c (by have:=tdel c; omega)) (by have:=tdel c; have:=h1.mem.le1 c; omega)
    have hnewc:∀ c,c<w.heap.size->F1 r c=0->H1 c=H2 c:=by
     intro c hc h0
     funext o
     cases hh:H1 c o with
     | some y=>rw [hfr.hold c o y hh]
     | none=>
      cases hh2:H2 c o with
      | none=>rfl
      | some y=>
       rcases hfr.hnew c o (by rw [hh2]; simp) hh with h' | h'
       ·exact absurd h0 h'
       ·omega
    have hKp:=cP (w':=w') hdm hsame
    have hmd:Mem w' H2 γ md F1:=by
     refine ⟨e2.mem.agree,fun x hx=>aM hKp hfr.hold rfl (fun c hc=>hsame c (by have:=bI (F:=F1) hx c; omega)) (hdm.roots x hx),hdm.keys,hdm.le1,fun c hc=>by have:=hdm.lt c hc; have:=hfr.size; omega,fun c hc o=>?_⟩;rw [<- hnewc c (hdm.lt c hc) (by have:=tdel c; have:=h1.mem.le1 c; omega)]; exact hdm.nofz c hc o
    have hRout:=e2.mem.roots _ (am hout)
    have hγ':γ' (.out j)=.blk b:=e2.df.2.1 j b (by simp [g1])
    have hnone:ae md r=none:=by rw [<- hmd0]; exact xl h1.mem.keys
    have hupd:upd γ r (.blk b)=γ:=by
     funext n
     by_cases hn:n=r
     ·subst hn; rw [cU,hγr]
     ·rw [lB hn]
    have hRr:be w' H2 (upd γ r (.blk b)) ((r,⟨true,cells'.map (T.ren (.out j) r)⟩)::md) r ⟨true,cells'.map (T.ren (.out j) r)⟩ (F2 (.out j)):=
     kq hRout htyd.symm hs2 hγ' hout cU ⟨cells'.map (T.ren (.out j) r),by simp only [ae,if_true],by simp⟩
    have hf1:∀ c,F2 (.out j) c<=tot F2 s2.m c:=fun c=>bI (F:=F2) (am hout) c
    have hf2:∀ c,F2 (.out j) c≠0->F1 r c≠0\/w.heap.size<=c:=fun c hc=>hfr.tt c (by have:=hf1 c; omega)
    have hmd0':∀ c,F2 (.out j) c≠0->tot F1 md c=0:=fun c hc=>by
     rcases hf2 c hc with h' | h'
     ·have:=tdel c; have:=h1.mem.le1 c; omega
     ·rcases WQ (tot F1 md c) with h0 | h0
      ·exact h0
      ·have:=hdm.lt c (by omega); omega
    obtain ⟨hM,htot⟩:=p7 hmd (n:=r) (rc:=.blk b) (r:=⟨true,cells'.map (T.ren (.out j) r)⟩) (f:=F2 (.out j)) hnone hRr (fun c=>by
      by_cases hc:F2 (.out j) c=0
      ·have:=hdm.le1 c; omega
      ·have:=hmd0' c hc; have:=e2.mem.le1 c; have:=hf1 c; omega)
     (fun c hc=>⟨e2.mem.lt c (by have:=hf1 c; omega),e2.mem.nofz c (by have:=hf1 c; omega)⟩)
    rw [hupd] at hM;have hFr:Fr w H1 (tot F1 s1.m) w' H2 (tot (upd F1 r (F2 (.out j))) ((r,⟨true,cells'.map (T.ren (.out j) r)⟩)::md)):=by
     refine ⟨hfr.size,hfr.os,hfr.tape,hfr.output,fun c hc h0=>hfr.block c hc (by have:=hge c; omega),hfr.hold,fun c o h2 h3=>?_,fun c hc=>?_,hfr.nz⟩
     ·rcases hfr.hnew c o h2 h3 with h' | h'
      ·exact .inl (by have:=hge c; omega)
      ·exact .inr h'
     ·rw [htot] at hc;by_cases h0:F2 (.out j) c=0
      ·exact .inl (by have:=tdel c; omega)
      ·rcases hf2 c h0 with h' | h'
       ·exact .inl (by have:=hge c; omega)
       ·exact .inr h'
    have hKB:KeepsB (gn r) w γ s1.m w' γ ((r,⟨true,cells'.map (T.ren (.out j) r)⟩)::md):=by
     have hKa:=iv (w:=w') (γ:=γ) (rc:=.blk b) (r:=⟨true,cells'.map (T.ren (.out j) r)⟩) hnone
     rw [hupd] at hKa;have hKd:KeepsB (bG r) w γ s1.m w γ md:=by rw [<- hmd0]; exact dh
     constructor
     ·intro q hbq hq;by_cases hqr:q.root=r
      ·obtain ⟨qr,qo,qp⟩:=q;dsimp only at hqr;subst hqr;simp only [gn,decide_true,Wv,WY,Bool.not_eq_false',List.isEmpty_iff] at hbq;subst hbq;refine ⟨?_,by simp only [plA]⟩;rw [ak] at hq ⊢;obtain ⟨r0,q1,q2⟩:=hq;dsimp only at q1 q2;rw [hroot] at q1;obtain rfl:=Option.some.inj q1;refine ⟨⟨true,cells'.map (T.ren (.out j) qr)⟩,by simp only [ae,if_true],?_⟩;have q2':qo<cells.length:=q2
       show qo < (cells'.map (T.ren (.out j) qr)).length
       simp; omega
      ·obtain ⟨k1,k2⟩:=hKd.pl q (by simp [bG,hqr]) hq;obtain ⟨k3,k4⟩:=hKp.pl q k1;obtain ⟨k5,k6⟩:=hKa.pl q k3;exact ⟨k5,k6.trans (k4.trans k2)⟩
     ·intro q hbq hq;have hqr:q.root≠r:=by
       intro e;simp [gn,e] at hbq
      obtain ⟨k1,k2⟩:=hKd.rf q (by simp [bG,hqr]) hq;obtain ⟨k3,k4⟩:=hKp.rf q k1;obtain ⟨k5,k6⟩:=hKa.rf q k3;exact ⟨k5,k6.trans (k4.trans k2)⟩
    refine ⟨e2.df.1,y,e1,y,_,v.map T.canon,H2,γ,_,rfl,hk,dT ch (jo (fun _ _ _ h=>h) e4 e3),gj h1 hM hFr (fun i=>?_) (fun _=>rfl)⟩;rw [iK];exact nL hKB hfr.hold (h1.t i)
   cases e with
   | normal=>exact fin hq
   | ret=>exact fin hq
   | _=>exact hq.elim
  ·refine ⟨hmc,⟨Wb _,rfl,rfl,rfl,fun _ _ _=>rfl,fun _ _ _ h=>h,fun b o h2 h3=>absurd h3 h2,fun c hc=>.inl (by rw [htc] at hc; exact hc),kZ⟩,?_,⟨rfl,fun i b' e=>?_,eG h1⟩,fun i=>?_⟩
   ·simp [g1]; omega
   ·simp only [g1] at e;split at e
    ·rename_i hj; subst hj; simp only [V6] at e; subst e; exact hγc
    ·simp at e
   ·have hget:∀ x,(o::os)[i]? = some x->(((o::os).map a.eval).toArray++Array.replicate (fn.ntmps - ((o::os).map a.eval).toArray.size) undef).getD i undef=a.eval x:=by
     intro x hx;rw [WD,W2 (by simp; have:=ai hx; simp at this; omega)];have e:((o::os).map a.eval)[i]? = some (a.eval x):=by rw [Wa,hx]; rfl
     rw [List.getElem?_toArray,e]; rfl
    cases i with
    | zero=>
     rw [G.tv_none rfl,hget o rfl,hval];simp only [aW,aA,if_true];refine ⟨fun _=>rfl,?_,⟨b,0,none⟩,?_,rfl⟩
     ·rw [ak];refine ⟨⟨true,cells.map (T.ren r (.out j))⟩,by simp [mc,ae],?_⟩;show 0 < (cells.map (T.ren r (.out j))).length
      simpa using hoff
     ·simp only [plA,hγc]
    | succ i=>
     have hent:aA (aW 0 (.one (.c (.pl ⟨.out j,0,[]⟩))::os.map fun x=>(ev s1 x).map T.canon)) (i+1)=((os.map fun x=>(ev s1 x).map T.canon)[i]?).getD .any:=by
      simp only [aW,aA];rw [if_neg (by omega)];rw [eW];simp
     show AR w H1 γc mc (aA (aW 0 (.one (.c (.pl ⟨.out j,0,[]⟩))::os.map fun x=>(ev s1 x).map T.canon)) (i+1)) _
     rw [hent,Wa];cases hi:os[i]? with
     | none=>simp only [XB,XP]; trivial
     | some x=>
      have hx:=bg h1 (Wj.1 hops'.2 x (WC hi))
      simp only [Option.map_some,Option.getD_some];have hz:(ev s1 x).isFz=true:=Wj.1 hfz (ev s1 x) (WI (WC hi))
      rw [G.tv_none rfl,hget x (by simpa using hi)];exact dT ch (jo (fun _ _ _ h=>h) hz hx)
end
end Go.Am
end

section
namespace Go.Am
section
variable {w:World} {H:FH} {γ:Gam} {m:Mm} {F:Nm->Fp}
theorem vr {α β:Type} {R:α->β->Fp->Value->Prop} {x':β}:∀ {ss:List α} {xs:List β} {f:Fp} {vs:List Value} {k:Nat} {x:β},xs[k]? = some x->(∀ s g v,R s x g v->R s x' g v)->Cs R ss xs f vs->Cs R ss (xs.set k x') f vs
 | [],[],_,_,_,_,hx,_,_=>by simp at hx
 | s::ss,y::xs,f,vs,0,x,hx,hR,h=>by
  obtain ⟨v,r,f1,f2,hv,hf,h1,h2⟩:=h;simp only [W1,V6] at hx;subst hx;exact ⟨v,r,f1,f2,hv,hf,hR _ _ _ h1,h2⟩
 | s::ss,y::xs,f,vs,k+1,x,hx,hR,h=>by
  obtain ⟨v,r,f1,f2,hv,hf,h1,h2⟩:=h;simp only [W9] at hx;exact ⟨v,r,f1,f2,hv,hf,h1,vr hx hR h2⟩
 | [],_::_,_,_,_,_,_,_,h=>h.elim
 | _::_,[],_,_,_,_,_,_,h=>h.elim
theorem Dj {n:Nm} {cells:List T} {bl:Bool} (hr:ae m n=some ⟨bl,cells⟩) {off:Nat} (hc:cells[off]? = some .nil) (sub:List Sh):Keeps w γ m w γ (cy m n ⟨bl,cells.set off (.ow sub [])⟩):=by
 constructor
 ·intro q hq;refine ⟨?_,rfl⟩;rw [ak] at hq ⊢;obtain ⟨r,h1,h2⟩:=hq;rw [ip hr];by_cases hn:n=q.root
  ·subst hn;rw [if_pos rfl];rw [hr] at h1;obtain rfl:=Option.some.inj h1;refine ⟨_,rfl,?_⟩;obtain ⟨qr,qo,qp⟩:=q;cases qp with
   | nil=>
    have h2':qo<cells.length:=h2
    show qo < (cells.set off (.ow sub [])).length
    simpa using h2'
   | cons st u=>
    dsimp only [aJ] at h2 ⊢;by_cases ho:off=qo
    ·subst ho; rw [hc] at h2; exact h2.elim
    ·rw [WF ho]; exact h2
  ·rw [if_neg hn]; exact ⟨r,h1,h2⟩
 ·intro q hq;refine ⟨?_,rfl⟩;rw [cj] at hq ⊢;obtain ⟨r,h1,h2⟩:=hq;rw [ip hr];by_cases hn:n=q.root
  ·subst hn;rw [if_pos rfl];rw [hr] at h1;obtain rfl:=Option.some.inj h1;refine ⟨_,rfl,?_⟩;obtain ⟨qr,qo,qp⟩:=q;dsimp only [bR] at h2 ⊢;by_cases ho:off=qo
   ·subst ho; rw [hc] at h2; cases qp <;> exact h2.elim
   ·rw [WF ho]; exact h2
  ·rw [if_neg hn]; exact ⟨r,h1,h2⟩
end
def S.ownR (n:Nm) (off:Nat) (sub:List Sh) (s:S):S:=
 match ae s.m n with
 | some ⟨true,cells⟩=>match cells[off]? with
  | some .nil=>⟨s.t,cy s.m n ⟨true,cells.set off (.ow sub [])⟩⟩
  | _=>s
 | _=>s
theorem JN {g:G} {s:S} {a:Act} {w:World} {H:FH} {γ:Gam} {F:Nm->Fp} (h:RX g s a w H γ F) (n:Nm) (off:Nat) (sub:List Sh):RX g (s.ownR n off sub) a w H γ F:=by
 unfold S.ownR;split
 ·rename_i cells hr;split
  ·rename_i hc;have hK:=Dj (w:=w) (γ:=γ) hr hc sub
   have hm:=h.mem
   refine ⟨⟨hm.agree,fun x hx=>?_,?_,fun b=>?_,fun b hb=>?_,fun b hb=>?_⟩,⟨h.fr.size,h.fr.os,h.fr.tape,h.fr.output,h.fr.block,h.fr.hold,h.fr.hnew,fun b hb=>?_,h.fr.nz⟩,h.nt,h.df,fun i=>cE hK (fun _ _ _ h=>h) (h.t i)⟩
   ·rcases pP hm.keys hx with ⟨_,hy⟩ | rfl
    ·exact aM hK (fun _ _ _ h=>h) rfl (fun _ _=>rfl) (hm.roots x hy)
    ·have h1:=aM hK (fun _ _ _ h=>h) rfl (fun _ _=>rfl) (hm.roots _ (am hr))
     unfold be at h1 ⊢;dsimp only at h1 ⊢;rw [if_pos rfl] at h1 ⊢;obtain ⟨b,cs,ty,fz,g',k1,k2,k3,k4,k5,k6⟩:=h1;refine ⟨b,cs,ty,fz,g',k1,k2,k3,by simpa using k4,?_,k6⟩;unfold Ts at k5 ⊢;rw [WM];refine vr hc (fun _ f v hv=>?_) k5;obtain ⟨z,rfl⟩:=hv;exact ⟨1,fI.2 (.inl ⟨rfl,rfl,z⟩)⟩
   ·rw [nr]; exact hm.keys
   ·rw [dt]; exact hm.le1 b
   ·rw [dt] at hb; exact hm.lt b hb
   ·rw [dt] at hb; exact hm.nofz b hb
   ·rw [dt] at hb; exact h.fr.tt b hb
  ·exact h
 ·exact h
def S.mvR (n:Nm) (s:S):S:=
 match ae s.m n with
 | some r=>⟨s.t,(n,r)::bh s.m n⟩
 | none=>s
theorem Rj {m:Mm} {n k:Nm} {r:Root} (h:ae m n=some r):ae ((n,r)::bh m n) k=ae m k:=by
 by_cases hk:n=k
 ·subst hk; rw [h]; simp [ae]
 ·simp only [ae,if_neg hk]; exact iy (Ne.symm hk)
theorem TW {g:G} {s:S} {a:Act} {w:World} {H:FH} {γ:Gam} {F:Nm->Fp} (h:RX g s a w H γ F) (n:Nm):RX g (s.mvR n) a w H γ F:=by
 unfold S.mvR;split
 ·rename_i r hr;have hget:∀ k,ae ((n,r)::bh s.m n) k=ae s.m k:=fun k=>Rj hr
  have hK:Keeps w γ s.m w γ ((n,r)::bh s.m n):=⟨fun q hq=>⟨by rw [ak] at hq ⊢; rw [hget]; exact hq,rfl⟩,fun q hq=>⟨by rw [cj] at hq ⊢; rw [hget]; exact hq,rfl⟩⟩
  have htot:∀ b,tot F ((n,r)::bh s.m n) b=tot F s.m b:=fun b=>by
   have:=gA (F:=F) hr b
   show F n b+tot F (bh s.m n) b=_
   omega
  have hm:=h.mem
  refine ⟨⟨hm.agree,fun x hx=>?_,?_,fun b=>?_,fun b hb=>?_,fun b hb=>?_⟩,⟨h.fr.size,h.fr.os,h.fr.tape,h.fr.output,h.fr.block,h.fr.hold,h.fr.hnew,fun b hb=>?_,h.fr.nz⟩,h.nt,h.df,fun i=>cE hK (fun _ _ _ h=>h) (h.t i)⟩
  ·refine aM hK (fun _ _ _ h=>h) rfl (fun _ _=>rfl) (hm.roots x ?_);rcases Wk.1 hx with rfl | hx
   ·exact am hr
   ·exact qL hx
  ·rw [List.map_cons,Xa];exact ⟨im hm.keys,oI hm.keys⟩
  ·rw [htot]; exact hm.le1 b
  ·rw [htot] at hb; exact hm.lt b hb
  ·rw [htot] at hb; exact hm.nofz b hb
  ·rw [htot] at hb; exact h.fr.tt b hb
 ·exact h
def Lx (t:Nat) (n':Nm) (sub:List Sh) (s:S):S:=
 match aA s.t t with
 | .one (.c .nil)=>match ae (s.fresh n').m n',n'.isOut with
  | none,false=>⟨lZ (s.fresh n').t t (.one (.c (.rf ⟨n',0,[]⟩))),(n',⟨false,[.ow sub []]⟩)::(s.fresh n').m⟩
  | _,_=>s
 | .one (.c (.rf ⟨n,0,[]⟩))=>match ae s.m n with
  | some ⟨false,[.ow sub' l]⟩=>match n'.isOut with
   | false=>⟨lZ ((s.drop n).fresh n').t t (.one (.c (.rf ⟨n',0,[]⟩))),(n',⟨false,[.ow sub' l]⟩)::((s.drop n).fresh n').m⟩
   | _=>s
  | _=>s
 | _=>s
def S.own:List (Nat×Nm×List Sh)->S->S
 | [],s=>s
 | (t,n,sub)::r,s=>S.own r (if 2000000<=t then s.mvR n else if 1000000<=t then s.ownR n (t - 1000000) sub else Lx t n sub s)
section
variable {g:G} {s:S} {a:Act} {w:World} {H:FH} {γ:Gam} {F:Nm->Fp}
theorem KJ (h:RX g s a w H γ F) {t:Nat} {v:AV} (hv:AR w H γ s.m v (g.tv a t)):RX g ⟨lZ s.t t v,s.m⟩ a w H γ F:=by
 refine ⟨h.mem,h.fr,h.nt,h.df,fun i=>?_⟩;show AR w H γ s.m (aA (lZ s.t t v) i) _
 rw [fY];split
 ·rename_i e; subst e; exact hv
 ·exact h.t i
theorem OV {m:Mm} {n:Nm} {r:Root} {sub:List Sh} {l:List (List D)} {v:Value} (hr:r=⟨false,[.ow sub l]⟩) (hγ:γ n=.gh v):AR w H γ ((n,r)::m) (.one (.c (.rf ⟨n,0,[]⟩))) v:=by
 subst hr;refine ⟨fun _=>rfl,?_,?_⟩
 ·rw [cj];refine ⟨⟨false,[.ow sub l]⟩,by simp only [ae,if_true],?_⟩;show bR [T.ow sub l] 0 []
  simp [bR]
 ·show aw w (γ n) 0=some v
  rw [hγ]; rfl
theorem BO (h:RX g s a w H γ F) (t:Nat) (n':Nm) (sub:List Sh):∃ γ' F',RX g (Lx t n' sub s) a w H γ' F':=by
 unfold Lx;split
 ·rename_i hnil;split
  ·rename_i hnone hno;have h1:=gl h n'
   have hv:=h.t t
   rw [hnil] at hv;obtain ⟨_,hv⟩:=hv;obtain ⟨γ',F',h2,hγ⟩:=kE h1 hno hnone (v:=.slice none 0 0) (t:=.ow sub []) (f:=fun _=>0) ⟨1,fI.2 (.inl ⟨rfl,rfl,fun _=>rfl⟩)⟩ (fun b=>by have:=h1.mem.le1 b; omega) (fun b hb=>absurd rfl hb) (fun b hb=>absurd rfl hb);exact ⟨γ',F',KJ h2 (by rw [hv]; exact OV rfl hγ)⟩
  ·exact ⟨γ,F,h⟩
 ·rename_i n hrf
  ·split
   ·rename_i sub' l hroot;split
    ·rename_i hno;obtain ⟨v,f,hγn,hTR,hd,htot⟩:=FA h hroot;have h1:=gl hd n'
     have hle:∀ b,tot F ((s.drop n).fresh n').m b<=tot F (s.drop n).m b:=by
      intro b;unfold S.fresh;split
      ·exact Wb _
      ·show tot F (aH _ _) b<=_
       rw [br]; exact iC
     have hv:=h.t t
     rw [hrf] at hv;obtain ⟨_,_,hv⟩:=hv;have hv':v=g.tv a t:=by
      simp only [plV,hγn,aw,if_true,V6] at hv;exact hv
     obtain ⟨γ',F',h2,hγ⟩:=kE h1 hno (gb hd n') (v:=v) (t:=.ow sub' l) (f:=f) (hTR _) (fun b=>by have:=hle b; have:=htot b; have:=h.mem.le1 b; omega)
      (fun b hb=>⟨h.mem.lt b (by have:=htot b; omega),h.mem.nofz b (by have:=htot b; omega)⟩) (fun b hb=>h.fr.tt b (by have:=htot b; omega))
     exact ⟨γ',F',KJ h2 (by rw [<- hv']; exact OV rfl hγ)⟩
    ·exact ⟨γ,F,h⟩
   ·exact ⟨γ,F,h⟩
 ·exact ⟨γ,F,h⟩
theorem KH:∀ (ns:List (Nat×Nm×List Sh)) {s:S},R g s a w->R g (s.own ns) a w
 | [],_,h=>h
 | (t,n,sub)::r,s,h=>by
  obtain ⟨H,γ,F,h⟩:=h;simp only [S.own];split
  ·exact KH r ⟨H,γ,F,TW h n⟩
  split
  ·exact KH r ⟨H,γ,F,JN h n _ sub⟩
  ·obtain ⟨γ',F',h'⟩:=BO h t n sub;exact KH r ⟨H,γ',F',h'⟩
def S.cutO (ns:List (Nat×Nm×List Sh)) (ks:List Nat) (ds:List Nm) (s:S):S:=(s.own ns).cut ks ds
theorem T2 {ns:List (Nat×Nm×List Sh)} {ks:List Nat} {ds:List Nm} (h:R g s a w):R g (s.cutO ns ks ds) a w:=S6 ks ds (KH ns h)
variable {P:Program} {Q:Exit->S->Prop}
theorem Jw {c:Code} (ns:List (Nat×Nm×List Sh)) (ks:List Nat) (ds:List Nm) (h:AW P g c Q (s.cutO ns ks ds)):AW P g c Q s:=fun a w hR=>h a w (T2 hR)
theorem wh {x y:Code} {α:Type} (ns:List (Nat×Nm×List Sh)) (ks:List Nat) (ds:List Nm) (st:α->S) (inv:α->Prop) (h1:AW P g x (Ay (fun s=>∃ y,s.cutO ns ks ds=st y/\inv y) Q) s) (h2:∀ y0,inv y0->AW P g y Q (st y0)):AW P g (.seq x y) Q s:=
 mW (AW.mono h1 (fun e s h=>by
  cases e with
  | normal=>obtain ⟨y0,e,hy⟩:=h; exact Jw ns ks ds (by rw [e]; exact h2 y0 hy)
  | _=>exact h))
theorem Po {c:Code} {α:Type} (ns:List (Nat×Nm×List Sh)) (ks:List Nat) (ds:List Nm) (st:α->S) (inv:α->Prop) (μ:α->Nat) (x0:α) (h0:s.cutO ns ks ds=st x0) (hi:inv x0)
  (round:∀ x,inv x->∀ K:S->Prop,(∀ s' x',s'.cutO ns ks ds=st x'->inv x'->μ x'<μ x->K s')->AW P g c (Ay K Q) (st x)):AW P g (.loop c) Q s:=by
 refine B3 (fun n s=>∃ x,s.cutO ns ks ds=st x/\inv x/\μ x=n) (μ x0) ⟨x0,h0,hi,rfl⟩ (fun n s ⟨x,h1,h2,h3⟩=>?_);refine Jw ns ks ds ?_;rw [h1];exact round x h2 _ (fun s' x' k0 k2 k3=>⟨μ x',by omega,x',k0,k2,rfl⟩)
theorem SQ {α β:Type} (f:α->β) (a:List α) (n:Nat):(a.map f).drop n=(a.drop n).map f:=by simp
theorem Rx {α β:Type} (f:α->β) (a:List α) (n:Nat):(a.map f).take n=(a.take n).map f:=by simp
def Tm:List D->Option UInt8
 | [.int .u8 n]=>if 0<=n/\n < 256 then some (UInt8.ofNat n.toNat) else none
 | _=>none
def rB:Rw UInt8 where
 enc b:=[.int .u8 (b.toNat:Int)]
 dec:=Tm
 inv l x h:=by
  unfold Tm at h;split at h
  ·split at h
   ·rename_i n hn;simp only [V6] at h;subst h
    congr 2
    have:n.toNat < 256:=by omega
    simp only [UInt8.toNat_ofNat',Nat.reducePow];omega
   ·simp at h
  ·simp at h
theorem RV (b:List UInt8):(b.map fun c=>[D.int .u8 (c.toNat:Int)])=b.map rB.enc:=rfl
theorem B9 (a:Nat) (l:List Nat):(([]:List Nat)==a::l)=false:=rfl
theorem BW (a:Nat) (l:List Nat):((a::l)==([]:List Nat))=false:=rfl
attribute [push_cast] B9 BW SQ Rx RV S.own Lx S.ownR S.mvR bh S.cutO Nm.isOut D.sure
end
end Go.Am
end

section
namespace Go.Am
def Kl (cells:List T) (off:Nat) (sub:List Sh):List T:=
 match cells[off]? with
 | some .nil=>cells.set off (.ow sub [])
 | _=>cells
def qY:List (Nat×List Sh)->List T->List T
 | [],cells=>cells
 | (off,sub)::r,cells=>qY r (Kl cells off sub)
section
variable {w:World} {H:FH} {γ:Gam} {m:Mm} {F:Nm->Fp}
end
section
variable {g:G} {a:Act} {w:World} {H:FH} {γ:Gam} {F:Nm->Fp}
end
structure Cs1 (σ:Type) where
 j:Nat
 enc:σ->List T
 dec:List T->Option σ
 offs:List (Nat×List Sh)
 inv:∀ l x,dec l=some x->qY offs l=enc x
 self:∀ x,(enc x).all (T.self (.out j))=true
 ren:∀ l x n,dec l=some x->dec (l.map (T.ren n (.out j)))=some x
section
variable {α β γ' ρ σ:Type}
def fp0 (c:Cs1 σ) (r:ρ->AV) (pre:σ->Prop) (f:σ->ρ×σ):List AV->List T->(AV->List T->Prop)->Prop
 | [],cells,K=>match c.dec cells with
  | some s=>pre s/\K (r (f s).1) (c.enc (f s).2)
  | none=>False
 | _,_,_=>False
def fp1 (c:Cs1 σ) (a:Cd α) (r:ρ->AV) (pre:σ->α->Prop) (f:σ->α->ρ×σ):List AV->List T->(AV->List T->Prop)->Prop
 | [.one x],cells,K=>match c.dec cells,a.dec x with
  | some s,some x=>pre s x/\K (r (f s x).1) (c.enc (f s x).2)
  | _,_=>False
 | _,_,_=>False
def fp2 (c:Cs1 σ) (a:Cd α) (b:Cd β) (r:ρ->AV) (pre:σ->α->β->Prop) (f:σ->α->β->ρ×σ):List AV->List T->(AV->List T->Prop)->Prop
 | [.one x,.one y],cells,K=>match c.dec cells,a.dec x,b.dec y with
  | some s,some x,some y=>pre s x y/\K (r (f s x y).1) (c.enc (f s x y).2)
  | _,_,_=>False
 | _,_,_=>False
variable {P:Program} {f:Nat} {fn:Func} {co:Code}
end
attribute [push_cast] Wb List.isEmpty_nil List.isEmpty_cons NC fp0 fp1 fp2 T.ren T.self gn Kl qY xk VQ
end Go.Am
end

section
namespace Go.Am
attribute [push_cast] lL Nm.tyd
structure RK (P:Program) (cs:CT) (all:List Oper) (r:List Oper) (s:S) (k:S->Prop):Prop where
 out:sF P cs all r s k
section
variable {P:Program} {cs:CT} {all:List Oper} {g:G} {Q:Exit->S->Prop}
theorem stA {o:Oper} {r:List Oper} {s s':S} {k:S->Prop} (h:RK P cs all r s' k)
  (e:∀ K:S->Prop,K s'->KA P cs all o s K:=by intro K hK; simp only [push_cast,↓reduceIte,Nat.reduceAdd,Nat.reduceSub,Nat.reduceMul,Nat.reduceEqDiff,Nat.reduceLeDiff,reduceCtorEq,Nat.reduceBEq,Nat.reduceLT,Int.reduceToNat,Int.reduceLE,hx]; intros; exact hK):RK P cs all (o::r) s k:=
 ⟨L6 fun K hK=>e K (hK _ h.out)⟩
theorem enA {s s1:S} {ks:List Nat} {ds:List Nm} (h:Q .normal s1)
  (e:∀ K:S->Prop,K s1->K (s.cut ks ds):=by intro K hK; simp only [push_cast,↓reduceIte,Nat.reduceAdd,Nat.reduceSub,Nat.reduceMul,Nat.reduceEqDiff,Nat.reduceLeDiff,reduceCtorEq,Nat.reduceBEq,Nat.reduceLT,Int.reduceToNat,Int.reduceLE]; exact hK):RK P cs all [] s (fun s'=>Q .normal (s'.cut ks ds)):=⟨e (Q .normal) h⟩
theorem rgA (ks:List Nat) (ds:List Nm) {s:S} {id:Nat} {l:List Oper} (h:RK P cs l l s (fun s'=>Q .normal (s'.cut ks ds)))
  (hcs:cs.Ok P:=by exact hcs)
  (hc:AS g.nt l l=true:=by rw [hn]; rfl):AW P g (.region id l.toArray false) Q s:=
 UE ks ds hcs hc h.out
theorem cdA {t:Tmp} {x y:Code} {s:S} {b:Bool} {A B:Prop} (h:if b=true then A else B) (hc:aA s.t t=.one (.c (.d (.bool b)))) (h1:A->AW P g x Q s) (h2:B->AW P g y Q s) (htb:t<TB:=by decide):AW P g (.cond (.tmp t) x y) Q s:=
 uI hc (fun hb=>h1 (by rw [if_pos hb] at h; exact h)) (fun hb=>h2 (by rw [if_neg (by rw [hb]; exact Bool.false_ne_true)] at h; exact h)) htb
theorem Um (b:UInt8):rB.enc b=[D.int .u8 ((b.toNat:Nat):Int)]:=rfl
theorem siA {a b:S}
  (e:a=b:=by first | (simp only [push_cast,↓reduceIte,Nat.reduceAdd,Nat.reduceSub,Nat.reduceMul,Nat.reduceEqDiff,Nat.reduceLeDiff,reduceCtorEq,Nat.reduceBEq,Nat.reduceLT,Int.reduceToNat,Int.reduceLE]; done) | simp only [push_cast,Xb,List.map_cons,List.map_nil,Um,↓reduceIte,Nat.reduceAdd,Nat.reduceSub,Nat.reduceMul,Nat.reduceEqDiff,Nat.reduceLeDiff,reduceCtorEq,Nat.reduceBEq,Nat.reduceLT,Int.reduceToNat,Int.reduceLE]):a=b:=e
theorem fiA {p q:Prop} (h:q)
  (e:q->p:=by intro h; first | ((try simp only [push_cast,↓reduceIte,Nat.reduceAdd,Nat.reduceSub,Nat.reduceMul,Nat.reduceEqDiff,Nat.reduceLeDiff,reduceCtorEq,Nat.reduceBEq,Nat.reduceLT,Int.reduceToNat,Int.reduceLE]); intros; exact h) | (simp only [push_cast,↓reduceIte,Nat.reduceAdd,Nat.reduceSub,Nat.reduceMul,Nat.reduceEqDiff,Nat.reduceLeDiff,reduceCtorEq,Nat.reduceBEq,Nat.reduceLT,Int.reduceToNat,Int.reduceLE] at h ⊢; exact h)):p:=e h
theorem CW {p q F:Prop} (ho:p) (hx:F)
  (e:p->q:=by intro h; first | (simp only [push_cast,↓reduceIte,Nat.reduceAdd,Nat.reduceSub,Nat.reduceMul,Nat.reduceEqDiff,Nat.reduceLeDiff,reduceCtorEq,Nat.reduceBEq,Nat.reduceLT,Int.reduceToNat,Int.reduceLE] at h; exact h) | exact h):q/\p/\F:=⟨e ho,ho,hx⟩
end
end Go.Am
end

section
namespace Go.Am
def T.isD:T->Bool
 | .d _=>true
 | _=>false
def T.frB (n:Nm) (row:List D):T->T
 | .pl p=>match p.path with
  | []=>if p.root=n then .el row p.off else .pl p
  | _=>(T.pl p).kill (bG n)
 | t=>t.kill (bG n)
def S.frzB (n:Nm) (s:S):S:=
 match ae s.m n with
 | some ⟨true,cells⟩=>if cells.all T.isD=true then ⟨wU (AV.map (T.frB n (cells.map T.toD))) s.t,aH (bG n) (bh s.m n)⟩ else s
 | _=>s
theorem Az {H:FH} {row:List D} {b o:Nat} (h:∀ j,j<row.length->∃ y,H b (o+j)=some y/\FDx H (row.getD j default) y):∃ m,lI H m row b o:=by
 have key:∀ n,n<=row.length->∃ m,∀ j,j<n->∃ y,H b (o+j)=some y/\FD H m (row.getD j default) y:=by
  intro n;induction n with
  | zero=>exact fun _=>⟨0,fun j hj=>by omega⟩
  | succ n ih=>
   intro hn;obtain ⟨m1,h1⟩:=ih (by omega);obtain ⟨y,hy,m2,hf⟩:=h n (by omega);refine ⟨m1+m2,fun j hj=>?_⟩;by_cases hjn:j=n
   ·subst hjn; exact ⟨y,hy,jC (fun _ _ _ h=>h) _ _ _ _ (by omega) hf⟩
   ·obtain ⟨z,hz,hf⟩:=h1 j (by omega);exact ⟨z,hz,jC (fun _ _ _ h=>h) _ _ _ _ (by omega) hf⟩
 exact key row.length (Wb _)
section
variable {P:Program} {g:G} {s:S} {a:Act} {w:World} {H:FH} {γ:Gam} {F:Nm->Fp}
theorem IK {F:Nm->Fp} {m:Mm} {n:Nm} {r:Root} (hk:ae m n=some r) (c:Nat):tot F (bh m n) c+F n c=tot F m c:=by
 induction m with
 | nil=>simp [ae] at hk
 | cons x m ih=>
  obtain ⟨k,y⟩:=x;simp only [ae,bh] at hk ⊢;by_cases hkn:k=n
  ·subst hkn; rw [if_pos rfl,bb]; dsimp only; omega
  ·rw [if_neg hkn] at hk;rw [if_neg hkn,bb,bb];have:=ih hk
   dsimp only at this ⊢;omega
theorem Re (h:RX g s a w H γ F) (n:Nm):∃ H',RX g (s.frzB n) a w H' γ F:=by
 unfold S.frzB;split
 rotate_left
 ·exact ⟨H,h⟩
 rename_i cells hr;split
 rotate_left
 ·exact ⟨H,h⟩
 rename_i hall;have hR:=h.mem.roots _ (am hr)
 unfold be at hR;rw [if_pos rfl] at hR;obtain ⟨b,cs,ty,fz,f,e1,e2,e3,e4,e5,e6⟩:=hR;dsimp only at e1 e4 e5 e6;have hd:=nH h n
 have hdm:(s.drop n).m=aH (bG n) (bh s.m n):=rfl
 have tdel:∀ c,tot F (aH (bG n) (bh s.m n)) c+F n c=tot F s.m c:=fun c=>by rw [br]; exact IK hr c
 let H':FH:=fun k o=>if k=b then w.cell? ⟨k,o,none⟩ else H k o
 have hFb:F n b≠0:=by
  have:=e6 b; rw [if_pos rfl] at this; omega
 have htb:tot F s.m b≠0:=by have:=tdel b; omega
 have hH:∀ k o y,H k o=some y->H' k o=some y:=by
  intro k o y hy;simp only [H'];split
  ·exact h.mem.agree k o y hy
  ·exact hy
 have hag:∀ k o y,H' k o=some y->w.cell? ⟨k,o,none⟩=some y:=by
  intro k o y hy;simp only [H'] at hy;split at hy
  ·exact hy
  ·exact h.mem.agree k o y hy
 have hmem:=hd.mem
 rw [hdm] at hmem;have hKr:Keeps w γ (aH (bG n) (bh s.m n)) w γ (aH (bG n) (bh s.m n)):=⟨fun q hq=>⟨hq,rfl⟩,fun q hq=>⟨hq,rfl⟩⟩
 have hcell:∀ j,w.cell? ⟨b,j,none⟩=cs[j]? := fun j=>by simp [World.cell?,e2]
 have hrow:∃ m,lI H' m (cells.map T.toD) b 0:=by
  refine Az (fun j hj=>?_);rw [Wc] at hj;have hcj:cells[j]? = some cells[j]:=V8 hj
  obtain ⟨v,q,v1,v2,_⟩:=BN e5 hcj;have hisD:=Wj.1 hall cells[j] (WX hj)
  refine ⟨v,?_,?_⟩
  ·simp only [H',if_true,Xu];rw [hcell];simpa using v1
  ·rw [List.getD,Wa,hcj];simp only [Option.map_some,Option.getD_some];generalize cells[j]=t at v2 hisD;cases t with
   | d x=>exact gE hH v2.2
   | _=>simp [T.isD] at hisD
 refine ⟨H',⟨?_,?_,h.nt,h.df,fun i=>?_⟩⟩
 ·refine ⟨hag,fun x hx=>aM hKr hH rfl (fun _ _=>rfl) (hmem.roots x hx),hmem.keys,hmem.le1,hmem.lt,fun k hk o=>?_⟩;have hkb:k≠b:=by
   intro e; subst e;have h1:=tdel k; have h2:=h.mem.le1 k; dsimp only at hk; omega
  simp only [H'];rw [if_neg hkb];exact hmem.nofz k hk o
 ·refine ⟨h.fr.size,h.fr.os,h.fr.tape,h.fr.output,h.fr.block,fun k o y hy=>hH _ _ _ (h.fr.hold k o y hy),fun k o h1 h2=>?_,fun k hk=>h.fr.tt k ?_,h.fr.nz.1,fun k o x l c h1 h2=>?_⟩
  rotate_left 2
  ·by_cases hkb:k=b
   ·subst hkb;have e0:fz=(0,0):=e3.1
    subst e0;exact ⟨_,_,e2⟩
   ·simp only [H'] at h1;rw [if_neg hkb] at h1;exact h.fr.nz.2 k o x l c h1 h2
  ·by_cases hkb:k=b
   ·subst hkb; exact h.fr.tt k htb
   ·simp only [H'] at h1;rw [if_neg hkb] at h1;exact h.fr.hnew k o h1 h2
  ·have h1:=tdel k; dsimp only at hk; omega
 ·show AR w H' γ _ (aA (wU _ s.t) i) _
  rw [sU rfl];refine dT (fun t y ht=>?_) (h.t i);have hk:=fun (t:T) (ht:TR w H γ s.m t (fun _=>0) y)=>rb (dh (n:=n)) hH (fun _ hb=>absurd rfl hb) ht
  cases t with
  | pl p=>
   obtain ⟨pn,po,pp⟩:=p;cases pp with
   | nil=>
    simp only [T.frB];split
    ·rename_i hc;subst hc;obtain ⟨_,_,ad,had,hy⟩:=ht;obtain ⟨m,hm⟩:=hrow;have:ad=⟨b,po,none⟩:=by
      simp only [plA,e1,V6] at had; exact had.symm
     subst this;exact ⟨fun _=>rfl,b,0,m,by rw [hy,Xu],hm⟩
    ·rename_i hc;have:=hk _ ht
     have hb:bG n false ⟨pn,po,[]⟩=false:=by simp [bG,hc]
     simp only [T.kill,hb,V9,if_false] at this;exact this
   | cons st q=>exact hk _ ht
  | _=>exact hk _ ht
theorem If (h:R g s a w) (n:Nm):R g (s.frzB n) a w:=by
 obtain ⟨H,γ,F,h⟩:=h;obtain ⟨H',h'⟩:=Re h n;exact ⟨H',γ,F,h'⟩
variable {Q:Exit->S->Prop}
theorem frB (n:Nm) {c:Code} {s s1:S} (h:AW P g c Q s1)
  (e:∀ K:S->Prop,K s1->K (s.frzB n):=by intro K hK; simp only [push_cast,↓reduceIte,Nat.reduceAdd,Nat.reduceSub,Nat.reduceMul,Nat.reduceEqDiff,Nat.reduceLeDiff,reduceCtorEq,Nat.reduceBEq,Nat.reduceLT,Int.reduceToNat,Int.reduceLE]; exact hK):AW P g c Q s:=by
 have h2:=e (fun s'=>AW P g c Q s') h
 intro a w hR;exact h2 a w (If hR n)
end
def tI (k:IntKind) (n:Int):T:=.d (.int k n)
def dI (k:IntKind) (n:Int):D:=.int k n
theorem Ot (k:IntKind) (n:Int):(tI k n).owned=false:=rfl
theorem TU (k:IntKind) (L:List Int):(L.map (tI k)).all T.isD=true:=by
 rw [Wj]; intro x hx; rw [WW] at hx; obtain ⟨n,_,rfl⟩:=hx; rfl
theorem TH (k:IntKind) (L:List Int):(L.map (tI k)).map T.toD=L.map (dI k):=by
 rw [Wo]; rfl
theorem T3 (k:IntKind) (L:List Int) (n:Nat) (v:Int):(L.map (tI k)).set n (.d (.int k v))=(L.set n v).map (tI k):=by
 rw [WS]; rfl
theorem NS (L:List Int):jk (L.map fun n=>[dI .u8 n])=some (L.map fun n=>UInt8.ofNat n.toNat):=by
 induction L with
 | nil=>rfl
 | cons n L ih=>rw [List.map_cons,dI,jk,ih]; rfl
theorem Qk (L:List Int):jk ((L.map (dI .u8)).map fun x=>[x])=some (L.map fun n=>UInt8.ofNat n.toNat):=by
 rw [Wo]; exact NS L
attribute [push_cast] Pl.at tF aZ bE okO
attribute [push_cast high] Ot
attribute [push_cast] T.isD T.frB S.frzB wU kP TU TH T3 Qk Xu XE Nat.mul_one Nat.sub_zero T.toD List.replicate_succ List.replicate_zero
end Go.Am
end

section
namespace Go.Am
section
variable {P:Program} {cs:CT} {all:List Oper} {g:G} {Q:Exit->S->Prop}
end
end Go.Am
end

section
namespace Go.Am
def Gz (s:S) (rs:List ResultVar) (K:List Sh->List (List D)->Prop):Prop:=
 match rs with
 | [.tmp t]=>match aA s.t t with
  | .one (.c (.rf ⟨n,0,[]⟩))=>match ae s.m n with
   | some ⟨false,[.ow sub l]⟩=>K sub l
   | _=>False
  | _=>False
 | _=>False
def U6 (rs:List ResultVar) (K:List Sh->List (List D)->Prop):Exit->S->Prop
 | .normal,s=>Gz s rs K
 | .ret,s=>Gz s rs K
 | _,_=>False
def N5 (φ:List AV->List Sh->List (List D)->(List (List D)->Prop)->Prop):CK1:=fun s ops k=>
 match ops with
 | []=>False
 | o::os=>
  let s1:=gO s (os.map (ev s))
  match ev s1 o with
  | .one (.c (.rf ⟨r,0,[]⟩))=>match ae s1.m r with
   | some ⟨false,[.ow sub l]⟩=>(os.map (ev s1)).all AV.isFz=true /\
     φ (os.map fun x=>(ev s1 x).map T.canon) sub l (fun l'=>k ⟨i7 (bG r) s1.t,(r,⟨false,[.ow sub l']⟩)::aH (bG r) (bh s1.m r)⟩ (.one (.c (.rf ⟨r,0,[]⟩))))
   | _=>False
  | _=>False
section
variable {P:Program}
theorem SR {f:Nat} {fn:Func} {c:Code} (hf:P.funcs[f]? = some fn) (hname:(fn.name == "runtime.NumGoroutine")=false) (hb:fn.body=some c) (φ:List AV->List Sh->List (List D)->(List (List D)->Prop)->Prop)
  (hlen:∀ avs sub l K,φ avs sub l K->avs.length+1<=fn.ntmps)
  (hbody:∀ (g:G) avs sub l K,g.nt=fn.ntmps->φ avs sub l K->AW P g c (U6 fn.results.toList (fun sub' l'=>sub'=sub/\K l')) ⟨aW 0 (.one (.c (.rf ⟨.out 0,0,[]⟩))::avs),[(.out 0,⟨false,[.ow sub l]⟩)]⟩):Con P f (N5 φ):=by
 refine ⟨fun args w=>?_,?_⟩
 ·have h1:fn.name ≠ "runtime.NumGoroutine" := by simpa using hname
  simp [callFunc,hf,h1,hb]
 ·intro g s a w H γ F ops k hX hops hK;cases ops with
  | nil=>exact hK.elim
  | cons o os=>
  unfold N5 at hK;dsimp only at hK;obtain ⟨H1,F1,h1⟩:=iB (os.map (ev s)) s H F hX;generalize gO s (os.map (ev s))=s1 at hK h1;have hops':aX o=true/\os.all aX=true:=by simpa using hops
  split at hK
  rotate_left
  ·exact hK.elim
  rename_i r heo;split at hK
  rotate_left
  ·exact hK.elim
  rename_i sub l hroot;obtain ⟨hfz,hφ⟩:=hK;have hevo:=bg h1 hops'.1
  rw [heo] at hevo;obtain ⟨_,hokr,hval⟩:=hevo;have hR:=h1.mem.roots _ (am hroot)
  have hR2:=hR
  unfold be at hR2;rw [if_neg (by simp)] at hR2;obtain ⟨v0,t0,hγr,hcells,hTR⟩:=hR2;simp only [List.cons.injEq,and_true] at hcells;subst hcells;have hv0:a.eval o=v0:=by
   simp only [plV,hγr,aw] at hval
   first | exact (Option.some.inj hval).symm | (simp at hval; exact hval.symm)
  have hle:=hlen _ _ _ _ hφ
  rw [Wc] at hle
  let γc:Gam:=fun n=>if n=.out 0 then .gh v0 else γ n
  let mc:Mm:=[(.out 0,⟨false,[.ow sub l]⟩)]
  let g1:G:=⟨fn.ntmps,w,H1,F1 r,fun _=>none,none,[]⟩
  have hγc:γc (.out 0)=.gh v0:=by simp [γc]
  have hRc:be w H1 γc mc (.out 0) ⟨false,[.ow sub l]⟩ (F1 r):=by
   unfold be;rw [if_neg (by simp)];exact ⟨v0,_,hγc,rfl,hTR⟩
  have hge:∀ c,F1 r c<=tot F1 s1.m c:=fun c=>bI (F:=F1) (am hroot) c
  let Fc:Nm->Fp:=fun _=>F1 r
  have htc:∀ c,tot Fc mc c=F1 r c:=fun c=>(XE (F1 r c))
  have hmc:Mem w H1 γc mc Fc:=by
   refine ⟨h1.mem.agree,fun x hx=>?_,by simp [mc],fun c=>by rw [htc]; exact Xt (hge c) (h1.mem.le1 c),fun c hc=>by rw [htc] at hc; exact h1.mem.lt c (by have:=hge c; omega),fun c hc=>by rw [htc] at hc; exact h1.mem.nofz c (by have:=hge c; omega)⟩;simp only [mc,WJ] at hx;subst hx;exact hRc
  refine calls_of_wp hf hb (Code.wp_mono (fun e a' w' hl=>?_) (hbody g1 _ _ _ _ rfl hφ _ w ⟨H1,γc,Fc,?_⟩))
  ·obtain ⟨s',hq,H',γ',F',hX'⟩:=hl;have fin:Gz s' fn.results.toList (fun sub' l'=>sub'=sub/\k ⟨i7 (bG r) s1.t,(r,⟨false,[.ow sub l']⟩)::aH (bG r) (bh s1.m r)⟩ (.one (.c (.rf ⟨r,0,[]⟩)))) ->
     a'.defers=[]/\∃ v,(results fn a'.tmps).run P w'=.ok v w'/\∃ rr s'' av H'' γ'' F'',Ending.returned v=.returned rr/\k s'' av/\AR w' H'' γ'' s''.m av rr/\RX g s'' a w' H'' γ'' F'':=by
    intro hq;unfold Gz at hq;split at hq
    rotate_left
    ·exact hq.elim
    rename_i t hrs;split at hq
    rotate_left
    ·exact hq.elim
    rename_i n hgt;split at hq
    rotate_left
    ·exact hq.elim
    rename_i sub' l' hout;obtain ⟨rfl,hk⟩:=hq;have hrun:(results fn a'.tmps).run P w'=.ok (a'.tmps.getD t undef) w':=by
     rw [fZ,Xz,hrs];simp [mh]
    have hres:AR w' _ _ _ _ (a'.tmps.getD t undef):=hX'.t t
    rw [hgt] at hres;obtain ⟨_,_,hpv⟩:=hres;have hRn:=hX'.mem.roots _ (am hout)
    unfold be at hRn;rw [if_neg (by simp)] at hRn;obtain ⟨v1,t1,hγn,hc1,hTR1⟩:=hRn;simp only [List.cons.injEq,and_true] at hc1;subst hc1;have hv1:a'.tmps.getD t undef=v1:=by
     simp only [plV,hγn,aw] at hpv
     first | exact (Option.some.inj hpv).symm | (simp at hpv; exact hpv.symm)
    have hfr:=hX'.fr
    dsimp only [g1] at hfr;have hd:=nH h1 r
    have hmdm:(s1.drop r).m=aH (bG r) (bh s1.m r):=rfl
    have hdm:=hd.mem
    rw [hmdm] at hdm;generalize hmd0:aH (bG r) (bh s1.m r)=md at hdm hk;have tdel:∀ c,tot F1 md c+F1 r c=tot F1 s1.m c:=fun c=>by
     rw [<- hmd0,br]; exact gA hroot c
    have hsame:∀ c,tot F1 md c≠0->w'.heap[c]? = w.heap[c]? := fun c hc=>
     hfr.block c (h1.mem.lt c (by have:=tdel c; omega)) (by have:=tdel c; have:=h1.mem.le1 c; omega)
    have hnewc:∀ c,c<w.heap.size->F1 r c=0->H1 c=H' c:=by
     intro c hc h0
     funext o
     cases hh:H1 c o with
     | some y=>rw [hfr.hold c o y hh]
     | none=>
      cases hh2:H' c o with
      | none=>rfl
      | some y=>
       rcases hfr.hnew c o (by rw [hh2]; simp) hh with h' | h'
       ·exact absurd h0 h'
       ·omega
    have hKp:=cP (w':=w') hdm hsame
    have hmd:Mem w' H' γ md F1:=by
     refine ⟨hX'.mem.agree,fun x hx=>aM hKp hfr.hold rfl (fun c hc=>hsame c (by have:=bI (F:=F1) hx c; omega)) (hdm.roots x hx),hdm.keys,hdm.le1,fun c hc=>by have:=hdm.lt c hc; have:=hfr.size; omega,fun c hc o=>?_⟩;rw [<- hnewc c (hdm.lt c hc) (by have:=tdel c; have:=h1.mem.le1 c; omega)]; exact hdm.nofz c hc o
    have hnone:ae md r=none:=by rw [<- hmd0]; exact xl h1.mem.keys
    have hRr:be w' H' (upd γ r (.gh v1)) ((r,⟨false,[.ow sub' l']⟩)::md) r ⟨false,[.ow sub' l']⟩ (F' n):=by
     unfold be;rw [if_neg (by simp)];exact ⟨v1,_,cU,rfl,hTR1⟩
    have hf1:∀ c,F' n c<=tot F' s'.m c:=fun c=>bI (F:=F') (am hout) c
    have hf2:∀ c,F' n c≠0->F1 r c≠0\/w.heap.size<=c:=fun c hc=>hfr.tt c (by have:=hf1 c; omega)
    have hmd0':∀ c,F' n c≠0->tot F1 md c=0:=fun c hc=>by
     rcases hf2 c hc with h' | h'
     ·have:=tdel c; have:=h1.mem.le1 c; omega
     ·rcases WQ (tot F1 md c) with h0 | h0
      ·exact h0
      ·have:=hdm.lt c (by omega); omega
    obtain ⟨hM,htot⟩:=p7 hmd (n:=r) (rc:=.gh v1) (r:=⟨false,[.ow sub' l']⟩) (f:=F' n) hnone hRr (fun c=>by
      by_cases hc:F' n c=0
      ·have:=hdm.le1 c; omega
      ·have:=hmd0' c hc; have:=hX'.mem.le1 c; have:=hf1 c; omega)
     (fun c hc=>⟨hX'.mem.lt c (by have:=hf1 c; omega),hX'.mem.nofz c (by have:=hf1 c; omega)⟩)
    have hFr:Fr w H1 (tot F1 s1.m) w' H' (tot (upd F1 r (F' n)) ((r,⟨false,[.ow sub' l']⟩)::md)):=by
     refine ⟨hfr.size,hfr.os,hfr.tape,hfr.output,fun c hc h0=>hfr.block c hc (by have:=hge c; omega),hfr.hold,fun c o h2 h3=>?_,fun c hc=>?_,hfr.nz⟩
     ·rcases hfr.hnew c o h2 h3 with h' | h'
      ·exact .inl (by have:=hge c; omega)
      ·exact .inr h'
     ·rw [htot] at hc;by_cases h0:F' n c=0
      ·exact .inl (by have:=tdel c; omega)
      ·rcases hf2 c h0 with h' | h'
       ·exact .inl (by have:=hge c; omega)
       ·exact .inr h'
    have hKB:KeepsB (bG r) w γ s1.m w' (upd γ r (.gh v1)) ((r,⟨false,[.ow sub' l']⟩)::md):=by
     have hKa:=iv (w:=w') (γ:=γ) (rc:=.gh v1) (r:=⟨false,[.ow sub' l']⟩) hnone
     have hKd:KeepsB (bG r) w γ s1.m w γ md:=by rw [<- hmd0]; exact dh
     constructor
     ·intro q hbq hq;obtain ⟨k1,k2⟩:=hKd.pl q hbq hq;obtain ⟨k3,k4⟩:=hKp.pl q k1;obtain ⟨k5,k6⟩:=hKa.pl q k3;exact ⟨k5,k6.trans (k4.trans k2)⟩
     ·intro q hbq hq;obtain ⟨k1,k2⟩:=hKd.rf q hbq hq;obtain ⟨k3,k4⟩:=hKp.rf q k1;obtain ⟨k5,k6⟩:=hKa.rf q k3;exact ⟨k5,k6.trans (k4.trans k2)⟩
    refine ⟨hX'.df.1,_,hrun,_,_,_,H',upd γ r (.gh v1),_,rfl,hk,?_,hM,h1.fr.trans hFr,h1.nt,⟨h1.df.1,fun j b e=>?_,h1.df.2.2⟩,fun i=>?_⟩
    ·refine ⟨fun _=>rfl,?_,?_⟩
     ·simp [fl,ae]
     ·rw [hv1];simp [plV,cU,aw]
    ·have:=h1.df.2.1 j b e
     by_cases hj:Nm.out j=r
     ·rw [hj,hγr] at this; cases this
     ·rw [lB hj]; exact this
    ·rw [iK];exact nL hKB hfr.hold (h1.t i)
   cases e with
   | normal=>exact fin hq
   | ret=>exact fin hq
   | _=>exact hq.elim
  ·refine ⟨hmc,⟨Wb _,rfl,rfl,rfl,fun _ _ _=>rfl,fun _ _ _ h=>h,fun b o h2 h3=>absurd h3 h2,fun c hc=>.inl (by rw [htc] at hc; exact hc),kZ⟩,?_,⟨rfl,fun i b' e=>by simp [g1] at e,eG h1⟩,fun i=>?_⟩
   ·simp [g1]; omega
   ·have hget:∀ x,(o::os)[i]? = some x->(((o::os).map a.eval).toArray++Array.replicate (fn.ntmps - ((o::os).map a.eval).toArray.size) undef).getD i undef=a.eval x:=by
     intro x hx;rw [WD,W2 (by simp; have:=ai hx; simp at this; omega)];have e:((o::os).map a.eval)[i]? = some (a.eval x):=by rw [Wa,hx]; rfl
     rw [List.getElem?_toArray,e]; rfl
    cases i with
    | zero=>
     rw [G.tv_none rfl,hget o rfl,hv0];simp only [aW,aA,if_true];refine ⟨fun _=>rfl,?_,?_⟩
     ·simp [fl,ae,mc]
     ·simp [plV,hγc,aw]
    | succ i=>
     have hent:aA (aW 0 (.one (.c (.rf ⟨.out 0,0,[]⟩))::os.map fun x=>(ev s1 x).map T.canon)) (i+1)=((os.map fun x=>(ev s1 x).map T.canon)[i]?).getD .any:=by
      simp only [aW,aA];rw [if_neg (by omega)];rw [eW];simp
     show AR w H1 γc mc (aA (aW 0 (.one (.c (.rf ⟨.out 0,0,[]⟩))::os.map fun x=>(ev s1 x).map T.canon)) (i+1)) _
     rw [hent,Wa];cases hi:os[i]? with
     | none=>simp only [XB,XP]; trivial
     | some x=>
      have hx:=bg h1 (Wj.1 hops'.2 x (WC hi))
      simp only [Option.map_some,Option.getD_some];have hz:(ev s1 x).isFz=true:=by
       have:=Wj.1 hfz (ev s1 x) (WI (WC hi))
       exact this
      rw [G.tv_none rfl,hget x (by simpa using hi)];exact dT ch (jo (fun _ _ _ h=>h) hz hx)
end
section
variable {α β γ' δ:Type} {P:Program} {f:Nat} {fn:Func} {co:Code}
def fo0 (c:Rw α) (n:Nat) (pre:List α->Prop) (f:List α->List α):List AV->List Sh->List (List D)->(List (List D)->Prop)->Prop
 | [],sub,l,K=>match cT c l with
  | some s=>sub=List.replicate n .fr/\pre s/\K ((f s).map c.enc)
  | _=>False
 | _,_,_,_=>False
def fo1 (c:Rw α) (n:Nat) (a:Cd β) (pre:List α->β->Prop) (f:List α->β->List α):List AV->List Sh->List (List D)->(List (List D)->Prop)->Prop
 | [.one x],sub,l,K=>match cT c l,a.dec x with
  | some s,some x=>sub=List.replicate n .fr/\pre s x/\K ((f s x).map c.enc)
  | _,_=>False
 | _,_,_,_=>False
def fo2 (c:Rw α) (n:Nat) (a:Cd β) (b:Cd δ) (pre:List α->β->δ->Prop) (f:List α->β->δ->List α):List AV->List Sh->List (List D)->(List (List D)->Prop)->Prop
 | [.one x,.one y],sub,l,K=>match cT c l,a.dec x,b.dec y with
  | some s,some x,some y=>sub=List.replicate n .fr/\pre s x y/\K ((f s x y).map c.enc)
  | _,_,_=>False
 | _,_,_,_=>False
end
attribute [push_cast] N5 fo0 fo1 fo2 Gz U6
end Go.Am
end

section
namespace Go.Am
def lkV:List (Nat×Value)->Nat->Option Value
 | [],_=>none
 | (k,v)::r,i=>match Nat.beq k i with
  | true=>some v
  | false=>lkV r i
structure KT (nt:Nat) (l:List (Nat×Value)) (a:Act):Prop where
 nt:a.tmps.size=nt
 df:a.defers=[]
 t:∀ i v,lkV l i=some v->a.tmps.getD i undef=v
theorem KT.put {nt:Nat} {l:List (Nat×Value)} {a:Act} (h:KT nt l a) {d:Nat} (hd:d<nt) (v:Value):KT nt ((d,v)::l) (a.put (some d) v):=by
 refine ⟨by simp only [Act.put,XF]; exact h.nt,h.df,fun i x hx=>?_⟩;rw [ve a d i v (by rw [h.nt]; exact hd)];unfold lkV at hx;by_cases e:d=i
 ·subst e;rw [Nat.beq_refl] at hx;rw [if_pos rfl];exact Option.some.inj hx
 ·have:Nat.beq d i=false:=by
   cases hb:Nat.beq d i
   ·rfl
   ·exact absurd (Wg hb) e
  rw [this] at hx;rw [if_neg e];exact h.t i x hx
theorem KT.none {nt:Nat} {l:List (Nat×Value)} {a:Act} (h:KT nt l a) (v:Value):KT nt l (a.put none v):=h
theorem KT.ev {nt:Nat} {l:List (Nat×Value)} {a:Act} (h:KT nt l a) {i:Nat} {v:Value} (hi:lkV l i=some v):a.eval (.tmp i)=v:=h.t i v hi
theorem KT.sub {nt:Nat} {l l':List (Nat×Value)} {a:Act} (h:KT nt l a) (hs:∀ x∈l',lkV l x.1=some x.2):KT nt l' a:=by
 refine ⟨h.nt,h.df,fun i v hi=>h.t i v ?_⟩;have:∃ x∈l',x.1=i/\x.2=v:=by
  clear hs h;induction l' with
  | nil=>cases hi
  | cons y r ih=>
   unfold lkV at hi;cases hb:Nat.beq y.1 i with
   | true=>rw [hb] at hi; exact ⟨y,by simp,Wg hb,Option.some.inj hi⟩
   | false=>
    rw [hb] at hi;obtain ⟨x,h1,h2⟩:=ih hi;exact ⟨x,Wr _ h1,h2⟩
 obtain ⟨x,h1,rfl,rfl⟩:=this;exact hs x h1
def VD (l:List (Nat×Value)):List (Nat×Value)->Prop
 | []=>True
 | x::r=>lkV l x.1=some x.2/\VD l r
theorem KT.sub2 {nt:Nat} {l l':List (Nat×Value)} {a:Act} (h:KT nt l a) (hs:VD l l'):KT nt l' a:=by
 refine h.sub ?_;clear h;induction l' with
 | nil=>intro x hx; cases hx
 | cons y r ih=>
  intro x hx;rcases Wk.1 hx with rfl | hx
  ·exact hs.1
  ·exact ih hs.2 x hx
section
variable {P:Program} {all:Array Oper} {rest:List Oper} {Q:Exit->Act->World->Prop} {o:Oper} {l:List (Nat×Value)} {a:Act} {w:World} {nt d:Nat} {v:Value}
theorem wpV (hg:o.guard=none) (ho:o.dst=some d) (hd:d<nt) (hk:KT nt l a) (hrun:(execOp a.eval o).run P w=.ok (.value v) w) (h:∀ a',KT nt ((d,v)::l) a'->wpList P all Q rest a' w) :
  wpList P all Q (o::rest) a w:=
 wpList_plain hg fun K hK=>by
  unfold Oper.wp;rw [hrun];exact hK _ _ (by rw [ho]; exact h _ (hk.put hd v))
theorem jx {x:Operand} (hop:o.op=.move x) (hx:a.eval x=v):(execOp a.eval o).run P w=.ok (.value v) w:=by simp [execOp,hop,hx]
theorem na {x:Operand} (hop:o.op=.assign x) (hx:a.eval x=v):(execOp a.eval o).run P w=.ok (.value v) w:=by simp [execOp,hop,hx]
def VL (P:Program) (t:TypeId) (i:Nat):Option Nat:=match (ty P t).k with
 | .st fs=>match fs[i]? with
  | some (off,size,_)=>match Nat.beq size 0 with
   | true=>none
   | false=>some off
  | none=>none
 | _=>none
theorem vFA {t:TypeId} {x:Operand} {i k b off:Nat} (hop:o.op=.fieldAddr t x i) (hx:a.eval x=.pointer (some ⟨b,off,none⟩)) (hf:VL P t i=some k) :
  (execOp a.eval o).run P w=.ok (.value (.pointer (some ⟨b,off+k,none⟩))) w:=by
 unfold VL at hf;split at hf
 ·rename_i fs hk;obtain ⟨_,d,_,hd,he,_⟩:=bW hk (by simp);obtain ⟨fs',rfl,rfl⟩:=P5 he;split at hf
  ·rename_i off' size ag h1;split at hf
   ·cases hf
   ·rename_i h0;obtain rfl:=Option.some.inj hf;simp only [Wa,WN,Prod.mk.injEq] at h1;obtain ⟨f,hf1,rfl,rfl,rfl⟩:=h1;have hf2:fs'[i]? = some f:=by simpa using hf1
    have h0:¬ P.cellsOf f.type=0:=fun e=>by rw [e] at h0; cases h0
    obtain ⟨it,hit⟩:∃ i,P.info? f.type=some i:=by
     cases hi:P.info? f.type with
     | none=>simp [Program.cellsOf,hi] at h0
     | some i=>exact ⟨i,rfl⟩
    simp only [execOp,hop,hx];simp only [Instr.fieldAt,Sem.run_bind,run_underlying hd,Result.andThen_ok,hf2,Instr.sureAddr,Sem.run_pure,fieldPlace,bn hit];rw [if_neg h0];simp only [Sem.run_pure,Result.andThen_ok,cW]
  ·cases hf
 ·cases hf
def eSz (P:Program) (t:TypeId):Option Nat:=match (ty P t).k with
 | .sl e=>match (ty P e).ok with
  | true=>some (ty P e).size
  | false=>none
 | _=>none
theorem vIA {t:TypeId} {x i:Operand} {e b off n c:Nat} {κ:IntKind} {j:Int} (hop:o.op=.indexAddr t x i) (hx:a.eval x=.slice (some ⟨b,off,none⟩) n c) (hi:a.eval i=.int κ j) (h0:0<=j/\j<n) (he:eSz P t=some e) :
  (execOp a.eval o).run P w=.ok (.value (.pointer (some ⟨b,off+j.toNat*e,none⟩))) w:=by
 unfold eSz at he;split at he
 ·rename_i u hk;split at he
  ·rename_i hok;obtain rfl:=Option.some.inj he;obtain ⟨_,d,_,hd,h2,_⟩:=bW hk (by simp);obtain rfl:=mS h2;obtain ⟨it,_,hit,_⟩:=eF hok;have hel:P.elem t=u:=by simp [Program.elem,hd]
   simp only [execOp,hop,hx,hi];rw [Sem.run_bind,run_indexAt_slice w t _ _ _ _ _ (by rw [hel]; exact hd),if_pos h0,hel,bn hit,Result.andThen_ok,cW,fH hok];rfl
  ·cases he
 ·cases he
theorem mm {t:TypeId} {x:Operand} {b off:Nat} (hop:o.op=.load t x) (hx:a.eval x=.pointer (some ⟨b,off,none⟩)) (ht:(ty P t).ok=true/\(ty P t).agg=false) (hc:w.cell? ⟨b,off,none⟩=some v) :
  (execOp a.eval o).run P w=.ok (.value v) w:=by
 obtain ⟨_,d,_,hd,h1,_⟩:=eF ht.1;have hr:=fR (P:=P) hd (by rw [<- h1]; exact ht.2) hc
 simp only [execOp,hop,hx]
 first
  | (rw [Sem.run_bind,hr]; rfl)
  | (simp only [Instr.loadAt,Sem.run_bind,Instr.sureAddr,Sem.run_pure,Result.andThen_ok]; rw [hr]; rfl)
theorem UK {c:Call} {t:TypeId} {x:Operand} {b:Option Addr} {n cc:Nat} (hop:o.op=.call c) (h1:c.callee=.builtin .len) (h2:c.args=#[x]) (h3:c.argTypes=#[t]) (ht:∃ e,(ty P t).k=.sl e) (hx:a.eval x=.slice b n cc) :
  (execOp a.eval o).run P w=.ok (.value (.int .i64 n)) w:=by
 obtain ⟨callee,args,argTypes⟩:=c;dsimp only at h1 h2 h3;subst h1; subst h2; subst h3;obtain ⟨e,hk⟩:=ht;obtain ⟨_,ud,_,u2,u3,_⟩:=bW hk (by simp);obtain rfl:=mS u3;simp [execOp,hop,resolve,invoke,builtin,Builtin.len_,run_underlying u2,hx,goInt]
theorem U0 {t:TypeId} {x y:Operand} {z:TypeId} {m n:Int} (hop:o.op=.binOp .lss t x y z) (hx:a.eval x=.int .i64 m) (hy:a.eval y=.int .i64 n) (hm:(Lit.int .i64 m).wf=true) (hn:(Lit.int .i64 n).wf=true) :
  (execOp a.eval o).run P w=.ok (.value (.bool (decide (m<n)))) w:=by
 obtain ⟨u,d,e1,e2,e3⟩:=Cj (P:=P) (w:=w) (H:=fun _ _=>none) (γ:=fun _=>.blk 0) (m:=[]) (op:=.lss) (t:=t) (xo:=x) (yo:=y) (x:=sc (.int .i64 m)) (y:=sc (.int .i64 n)) (k:=fun d=>d=sc (.bool (decide (m<n)))) ⟨rfl,rfl⟩
  (dW hm) (dW hn)
 subst e3;simp only [execOp,hop,hx,hy];rw [Sem.run_bind,e1];obtain ⟨_,k,hk⟩:=e2;have:u=.bool (decide (m<n)):=by cases k <;> exact hk
 rw [this];rfl
theorem Uo {t:TypeId} {x y:Operand} {z:TypeId} {m n r:Int} (hop:o.op=.binOp .add t x y z) (hx:a.eval x=.int .i64 m) (hy:a.eval y=.int .i64 n) (hm:(Lit.int .i64 m).wf=true) (hn:(Lit.int .i64 n).wf=true) (hr:IntKind.i64.wrap (m+n)=r) :
  (execOp a.eval o).run P w=.ok (.value (.int .i64 r)) w:=by
 obtain ⟨u,d,e1,e2,e3⟩:=Cj (P:=P) (w:=w) (H:=fun _ _=>none) (γ:=fun _=>.blk 0) (m:=[]) (op:=.add) (t:=t) (xo:=x) (yo:=y) (x:=sc (.int .i64 m)) (y:=sc (.int .i64 n)) (k:=fun d=>d=sc (.int .i64 (IntKind.i64.wrap (m+n)))) ⟨rfl,rfl⟩
  (dW hm) (dW hn)
 subst e3;simp only [execOp,hop,hx,hy];rw [Sem.run_bind,e1];obtain ⟨_,k,hk⟩:=e2;have:u=.int .i64 (IntKind.i64.wrap (m+n)):=by cases k <;> exact hk.1
 rw [this,hr];rfl
theorem Tl {t:TypeId} {x y:Operand} {b off:Nat} {z:Value} (hg:o.guard=none) (ho:o.dst=none) (hop:o.op=.store t x y) (hx:a.eval x=.pointer (some ⟨b,off,none⟩)) (hy:a.eval y=v) (ht:(ty P t).ok=true/\(ty P t).size=1) (hv:jM v=true)
  (hc:w.cell? ⟨b,off,none⟩=some z) (hf:w.frozen? ⟨b,off,none⟩=false) (h:wpList P all Q rest a (w.setCell ⟨b,off,none⟩ v)):wpList P all Q (o::rest) a w:=
 wpList_plain hg fun K hK=>by
  obtain ⟨it,_,hit,_⟩:=eF ht.1;have hsz:P.cellsOf t=1:=by rw [<- fH ht.1,ht.2]
  have hcells:v.cells=#[v]:=by cases v <;> first | rfl | (simp [jM] at hv)
  have hr:(execOp a.eval o).run P w=.ok .skip (w.setCell ⟨b,off,none⟩ v):=by
   simp only [execOp,hop,hx,hy];simp only [Instr.storeAt,Instr.sureAddr,Sem.run_bind,Sem.run_pure,Result.andThen_ok,storeVar,bn hit];rw [if_neg (by rw [hcells,hsz]; simp),hcells];simp only [storeCells,Sem.run_bind,cW];rw [XE,wM hv hc hf];rfl
  unfold Oper.wp;rw [hr];exact hK _ _ (by rw [ho]; exact h)
theorem IB {c:Code} {I:Nat->Act->World->Prop} {N i0:Nat} (h0:I i0 a w) (hle:i0<=N)
  (round:∀ i a w,i<=N->I i a w->c.wp P (fun e a' w'=>match e with | .normal=>i<N/\I (i+1) a' w' | e=>Q e a' w') a w):(Code.loop c).wp P Q a w:=by
 let p:Act->World->Nat->Prop:=fun a w n=>∃ i,i<=N/\N-i=n/\I i a w
 have hmin:∀ a w,(∃ n,p a w n)->∃ n,p a w n/\∀ m,m<n->¬ p a w m:=fun a w h=>least h
 let μ:Act->World->Nat:=fun a w=>by
  classical
  exact if h:∃ n,p a w n then Classical.choose (hmin a w h) else 0
 have hμ:∀ a w (h:∃ n,p a w n),p a w (μ a w)/\∀ m,m<μ a w->¬ p a w m:=by
  intro a w h;have:μ a w=Classical.choose (hmin a w h):=by simp only [μ]; rw [dif_pos h]
  rw [this];exact Classical.choose_spec (hmin a w h)
 refine wp_loop (fun a w=>∃ n,p a w n) μ ⟨_,i0,hle,rfl,h0⟩ (fun a w hI=>?_);obtain ⟨⟨i,hi,hin,h2⟩,_⟩:=hμ a w hI;refine Code.wp_mono (fun e a' w' hl=>?_) (round i a w hi h2);cases e with
 | normal=>
  obtain ⟨hlt,k2⟩:=hl;have hI':∃ n,p a' w' n:=⟨_,i+1,hlt,rfl,k2⟩
  refine ⟨hI',?_⟩;rcases WL (μ a' w') (μ a w) with h | h
  ·exact h
  ·exact absurd ⟨i+1,hlt,rfl,k2⟩ ((hμ a' w' hI').2 (N - (i+1)) (by omega))
 | _=>exact hl
theorem iP {R:Code} {id:Nat} {l:List Oper} (h:R=.region id l.toArray false) (hw:wpList P l.toArray Q l a w):R.wp P Q a w:=by
 rw [h]; exact wp_region_lit hw
theorem gG {R x y:Code} (h:R=.seq x y) (hw:x.wp P (fun e a w=>match e with | .normal=>y.wp P Q a w | e=>Q e a w) a w):R.wp P Q a w:=by
 rw [h];refine wp_seq (Code.wp_mono (fun e a w hl=>?_) hw);cases e <;> exact hl
theorem AI {R c:Code} {id:Nat} (h:R=.block id c) (hw:c.wp P (fun e a w=>match e with | .exit i=>if i=id then Q .normal a w else Q (.exit i) a w | e=>Q e a w) a w):R.wp P Q a w:=by
 rw [h];refine wp_block (Code.wp_mono (fun e a w hl=>?_) hw);cases e with
 | exit i=>simp only [Exit.inBlock]; split <;> simp_all
 | _=>exact hl
end
def kpL:Code->Code
 | .seq x _=>x
 | .cond _ x _=>x
 | _=>.skip
def kpR:Code->Code
 | .seq _ x=>x
 | .cond _ _ x=>x
 | _=>.skip
def kpB:Code->Code
 | .block _ x=>x
 | .loop x=>x
 | _=>.skip
def kpO:Code->List Oper
 | .region _ l _=>l.toList
 | _=>[]
def opN (R:Code) (i:Nat):Oper:=(kpO R).getD i ⟨none,.move (.tmp 0),0, "",#[],none⟩
structure Wd (H:FH) (G:Nat->Prop) (w2 w:World):Prop where
 size:w.heap.size=w2.heap.size
 os:w.os=w2.os
 tape:w.tape=w2.tape
 output:w.output=w2.output
 old:∀ b,¬ G b->w.heap[b]? = w2.heap[b]?
 cell:∀ b o y,H b o=some y->(∀ l,y≠.string l)->w.cell? ⟨b,o,none⟩=some y
 str:∀ b o l,H b o=some (.string l)->∃ l',w.cell? ⟨b,o,none⟩=some (.string l')
 thaw:∀ b,G b->Thawed w b
theorem oh {w:World} {b o:Nat} (h:Thawed w b):w.frozen? ⟨b,o,none⟩=false:=by
 obtain ⟨cs,ty,h⟩:=h;simp [World.frozen?,h]
theorem pY {w:World} {b o b' o':Nat} {v z:Value} (hz:w.cell? ⟨b,o,none⟩=some z):(w.setCell ⟨b,o,none⟩ v).cell? ⟨b',o',none⟩=if b'=b/\o'=o then some v else w.cell? ⟨b',o',none⟩:=by
 by_cases hb:b'=b
 ·subst hb;simp only [World.cell?,W5,V9,if_false] at hz ⊢;cases hh:w.heap[b']? with
  | none=>rw [hh] at hz; cases hz
  | some ob=>
   rw [hh] at hz;cases ob with
   | cells cs ty fz=>
    rw [gW hh];dsimp only at hz ⊢;rw [Array.getElem?_setIfInBounds];by_cases ho:o=o'
    ·subst ho;rw [if_pos rfl,if_pos (Xw.1 hz).1,if_pos ⟨trivial,rfl⟩]
    ·rw [if_neg ho,if_neg (fun e=>ho e.2.symm)]
   | _=>cases hz
 ·rw [if_neg (fun e=>hb e.1)];exact aP (dn hb)
theorem Wd.store {H:FH} {G:Nat->Prop} {w2 w:World} (h:Wd H G w2 w) {b o:Nat} {l l':ByteArray} (hH:H b o=some (.string l)) (hG:G b):Wd H G w2 (w.setCell ⟨b,o,none⟩ (.string l')):=by
 obtain ⟨z,hz⟩:=h.str b o l hH;refine ⟨by rw [World.size_setCell]; exact h.size,h.os,h.tape,h.output,fun c hc=>?_,fun c q y hy hn=>?_,fun c q y hy=>?_,fun c hc=>(h.thaw c hc).setCell⟩
 ·rw [dn (fun e=>hc (by rw [e]; exact hG))]; exact h.old c hc
 ·rw [pY hz];split
  ·rename_i e;rw [e.1,e.2,hH] at hy;exact absurd (Option.some.inj hy).symm (hn l)
  ·exact h.cell c q y hy hn
 ·rw [pY hz];split
  ·exact ⟨_,rfl⟩
  ·exact h.str c q y hy
def SI (H:FH) (G:Nat->Prop) (b o:Nat):Prop:=G b/\∃ l,H b (o+2)=some (.string l)
def SB (H:FH) (G:Nat->Prop) (b o:Nat):Prop:=G b/\(∃ l,H b (o+0)=some (.string l))/\∃ a n c,H b (o+2)=some (.slice a n c)/\n<=BIG/\∀ j,j<n->∃ b' o',a=some ⟨b',o',none⟩/\SI H G b' (o'+j*6)
def SF (H:FH) (G:Nat->Prop) (b o:Nat):Prop:=∃ a n c,H b (o+4)=some (.slice a n c)/\n<=BIG/\∀ j,j<n->∃ b' o',a=some ⟨b',o',none⟩/\SB H G b' (o'+j*9)
def SP (H:FH) (G:Nat->Prop) (b o:Nat):Prop:=∃ a n c,H b (o+4)=some (.slice a n c)/\n<=BIG/\∀ j,j<n->∃ b' o',a=some ⟨b',o',none⟩/\SF H G b' (o'+j*5)
theorem lC {n:Nat} (h:n<=BIG):(Lit.int .i64 (n:Int)).wf=true:=vq h
theorem uT {n:Nat} (h:n<BIG):IntKind.i64.wrap ((n:Int)+1)=((n+1:Nat):Int):=by
 have h3:BIG=4611686018427387904:=rfl
 rw [h3] at h;rw [IntKind.wrap_i64]; omega
end Go.Am
end
