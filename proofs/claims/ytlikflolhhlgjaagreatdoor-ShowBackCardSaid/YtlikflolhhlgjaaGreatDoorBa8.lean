/-
  Part 8: AmWalk · AmPtrCon · AmOwn · AmPtrFn · AmAuto.
-/
import Derived.Test.YtlikflolhhlgjaaGreatDoorBa7
import Derived.IntWalk
set_option linter.unusedSimpArgs false
set_option linter.unusedVariables false
set_option linter.unusedSectionVars false
set_option linter.unnecessarySimpa false
section
namespace Go.Am
def pA (ks:List Nat) (t:List (Nat×AV)):List (Nat×AV):=ks.map fun k=>(k,aK t k)
def S.drops:List Nm->S->S
 | [],s=>s
 | n::ns,s=>S.drops ns (s.drop n)
def S.cut (ks:List Nat) (ds:List Nm) (s:S):S:=S.drops ds ⟨pA ks s.t,s.m⟩
theorem zI (t:List (Nat×AV)) (i:Nat):∀ ks:List Nat,aK (pA ks t) i=aK t i\/aK (pA ks t) i=.any
 | []=>.inr rfl
 | k::ks=>by
  simp only [pA,List.map_cons,aK];by_cases h:k=i
  ·subst h; rw [if_pos rfl]; exact .inl rfl
  ·rw [if_neg h]; exact zI t i ks
theorem mF {g:G} {s:S} {a:Act} {w:World} {H:FH} {γ:Gam} {F:Nm->Fp} (ks:List Nat) (h:RX g s a w H γ F):RX g ⟨pA ks s.t,s.m⟩ a w H γ F:=by
 refine ⟨h.mem,h.fr,h.nt,h.df,fun i=>?_⟩;show AR w H γ s.m (aK (pA ks s.t) i) _
 rcases zI s.t i ks with e | e
 ·rw [e]; exact h.t i
 ·rw [e]; trivial
theorem vr {g:G} {a:Act} {w:World} {H:FH} {γ:Gam} {F:Nm->Fp}:∀ (ds:List Nm) {s:S},RX g s a w H γ F->RX g (S.drops ds s) a w H γ F
 | [],_,h=>h
 | n::ns,_,h=>vr ns (nP h n)
theorem Y2 {g:G} {s:S} {a:Act} {w:World} (ks:List Nat) (ds:List Nm) (h:R g s a w):R g (s.cut ks ds) a w:=by
 obtain ⟨H,γ,F,h⟩:=h;exact ⟨H,γ,F,vr ds (mF ks h)⟩
section
variable {P:Program} {cs:CT} {g:G} {Q:Exit->S->Prop} {s:S}
theorem YA {c:Code} {f:S->S} (hf:∀ s a w,R g s a w->R g (f s) a w) (h:AW P g c (fun e s=>match e with | .normal=>Q .normal (f s) | e=>Q e s) s):AW P g c Q s:=fun a w hR=>
 Code.wp_mono (fun e a' w' ⟨s',h1,h2⟩=>by
  cases e with
  | normal=>exact ⟨_,h1,hf _ _ _ h2⟩
  | _=>exact ⟨s',h1,h2⟩) (h a w hR)
theorem ZD (ks:List Nat) (ds:List Nm) (hcs:cs.Ok P) {id:Nat} {l:List Oper} (hc:oN g.nt l l=true) (h:nE P cs l l s (fun s'=>Q .normal (s'.cut ks ds))):AW P g (.region id l.toArray false) Q s:=
 YA (f:=S.cut ks ds) (fun _ _ _ h=>Y2 ks ds h) (aa1 hcs hc h)
def S.one (s:S) (d:Nat) (v:AV):S:=⟨(d,v)::s.t,s.m⟩
end
structure Rw (α:Type) where
 enc:α->List D
 dec:List D->Option α
 inv:∀ l x,dec l=some x->l=enc x
structure Cd (α:Type) where
 enc:α->AV1
 dec:AV1->Option α
 inv:∀ v x,dec v=some x->v=enc x
def dW {α:Type} (c:Rw α):List (List D)->Option (List α)
 | []=>some []
 | r::rs=>match c.dec r with
  | some x=>match dW c rs with
   | some xs=>some (x::xs)
   | none=>none
  | none=>none
theorem aN {α:Type} {c:Rw α}:∀ {l:List (List D)} {xs:List α},dW c l=some xs->l=xs.map c.enc
 | [],xs,h=>by simp only [dW,ac8] at h; subst h; rfl
 | r::rs,xs,h=>by
  simp only [dW] at h;cases h1:c.dec r with
  | none=>rw [h1] at h; simp at h
  | some x=>
   rw [h1] at h;cases h2:dW c rs with
   | none=>rw [h2] at h; simp at h
   | some ys=>
    rw [h2] at h;simp only [ac8] at h;subst h;rw [c.inv r x h1,aN h2]; rfl
def tds:List T->Option (List D)
 | []=>some []
 | .d x::ts=>match tds ts with
  | some xs=>some (x::xs)
  | none=>none
 | _=>none
theorem Pi:∀ {ts:List T} {xs:List D},tds ts=some xs->ts=xs.map T.d
 | [],xs,h=>by simp only [tds,ac8] at h; subst h; rfl
 | .d x::ts,xs,h=>by
  simp only [tds] at h;cases h2:tds ts with
  | none=>rw [h2] at h; simp at h
  | some ys=>
   rw [h2] at h;simp only [ac8] at h;subst h;rw [Pi h2]; rfl
 | .nil::_,_,h=>by simp [tds] at h
 | .ow _ _::_,_,h=>by simp [tds] at h
 | .el _ _::_,_,h=>by simp [tds] at h
 | .pl _::_,_,h=>by simp [tds] at h
 | .rf _::_,_,h=>by simp [tds] at h
 | .any::_,_,h=>by simp [tds] at h
def ZJ (k:IntKind):AV1->Option Int
 | .c (.d (.int k' n))=>if k'=k then some n else none
 | _=>none
def cI (k:IntKind):Cd Int where
 enc n:=.c (.d (.int k n))
 dec:=ZJ k
 inv v x h:=by
  unfold ZJ at h;split at h
  ·split at h
   ·rename_i e; subst e; simp only [ac8] at h; subst h; rfl
   ·simp at h
  ·simp at h
def acG:AV1->Option Bool
 | .c (.d (.bool b))=>some b
 | _=>none
def cB:Cd Bool where
 enc b:=.c (.d (.bool b))
 dec:=acG
 inv v x h:=by unfold acG at h; split at h <;> simp at h; subst h; rfl
def acQ:AV1->Option (List UInt8)
 | .c (.d (.str b))=>some b
 | _=>none
def cS:Cd (List UInt8) where
 enc b:=.c (.d (.str b))
 dec:=acQ
 inv v x h:=by unfold acQ at h; split at h <;> simp at h; subst h; rfl
def Zb {α:Type} (c:Rw α):AV1->Option (List α)
 | .c (.d (.li l))=>dW c l
 | _=>none
def cL {α:Type} (c:Rw α):Cd (List α) where
 enc l:=.c (.d (.li (l.map c.enc)))
 dec:=Zb c
 inv v x h:=by
  unfold Zb at h; split at h
  ·rw [aN h]
  ·simp at h
def abX {α:Type} (c:Rw α):AV1->Option α
 | .agg ts=>match tds ts with
  | some l=>c.dec l
  | none=>none
 | _=>none
def cA {α:Type} (c:Rw α):Cd α where
 enc x:=.agg ((c.enc x).map T.d)
 dec:=abX c
 inv v x h:=by
  unfold abX at h;split at h
  ·rename_i ts;cases h1:tds ts with
   | none=>rw [h1] at h; simp at h
   | some l=>rw [h1] at h; rw [Pi h1,c.inv _ _ h]
  ·simp at h
def Zf:List D->Option (List UInt8)
 | [.str b]=>some b
 | _=>none
def rS:Rw (List UInt8) where
 enc b:=[.str b]
 dec:=Zf
 inv l x h:=by unfold Zf at h; split at h <;> simp at h; subst h; rfl
def Zd (k:IntKind):List D->Option Int
 | [.int k' n]=>if k'=k then some n else none
 | _=>none
def rI (k:IntKind):Rw Int where
 enc n:=[.int k n]
 dec:=Zd k
 inv l x h:=by
  unfold Zd at h;split at h
  ·split at h
   ·rename_i e; subst e; simp only [ac8] at h; subst h; rfl
   ·simp at h
  ·simp at h
theorem Zz (a:List UInt8):rS.dec [.str a]=some a:=rfl
section
variable {α β γ δ ρ:Type}
def fn0 (r:ρ->AV) (v:ρ):List AV->(AV->Prop)->Prop
 | [],K=>K (r v)
 | _,_=>False
def fn1 (a:Cd α) (r:ρ->AV) (pre:α->Prop) (f:α->ρ):List AV->(AV->Prop)->Prop
 | [.one x],K=>match a.dec x with
  | some x=>pre x/\K (r (f x))
  | none=>False
 | _,_=>False
def fn2 (a:Cd α) (b:Cd β) (r:ρ->AV) (pre:α->β->Prop) (f:α->β->ρ):List AV->(AV->Prop)->Prop
 | [.one x,.one y],K=>match a.dec x,b.dec y with
  | some x,some y=>pre x y/\K (r (f x y))
  | _,_=>False
 | _,_=>False
def fn3 (a:Cd α) (b:Cd β) (c:Cd γ) (r:ρ->AV) (pre:α->β->γ->Prop) (f:α->β->γ->ρ):List AV->(AV->Prop)->Prop
 | [.one x,.one y,.one z],K=>match a.dec x,b.dec y,c.dec z with
  | some x,some y,some z=>pre x y z/\K (r (f x y z))
  | _,_,_=>False
 | _,_=>False
def o1 (c:Cd ρ) (x:ρ):AV:=.one (c.enc x)
def o2 (a:Cd α) (b:Cd β) (x:α×β):AV:=.tup [a.enc x.1,b.enc x.2]
def o3 (a:Cd α) (b:Cd β) (c:Cd γ) (x:α×β×γ):AV:=.tup [a.enc x.1,b.enc x.2.1,c.enc x.2.2]
variable {P:Program} {f:Nat} {fn:Func} {c:Code}
theorem Xp {a:Cd α} {r:ρ->AV} {pre:α->Prop} {F:α->ρ} (hf:P.funcs[f]? = some fn) (hname:(fn.name == "runtime.NumGoroutine")=false) (hb:fn.body=some c) (hn:1<=fn.ntmps)
  (h:∀ (g:G) (x:α) (K:AV->Prop),g.nt=fn.ntmps->pre x->K (r (F x))->AW P g c (Iz P fn.results.toList K) ⟨aW 0 [.one (a.enc x)],[]⟩):Con P f (rL (fn1 a r pre F)):=by
 refine tS hf hname hb _ (fun avs K h=>?_) (fun g avs K hg hφ=>?_)
 ·unfold fn1 at h; split at h
  ·exact hn
  ·exact h.elim
 ·unfold fn1 at hφ; split at hφ
  ·rename_i x;split at hφ
   ·rename_i y hy; rw [a.inv _ _ hy]; exact h g y K hg hφ.1 hφ.2
   ·exact hφ.elim
  ·exact hφ.elim
end
theorem CT.ok0 {P:Program}:CT.Ok P []:=fun x hx=>by simp at hx
theorem CT.cons {P:Program} {f:Nat} {C:CK1} {cs:CT} (h:Con P f C) (hs:cs.Ok P):CT.Ok P ((f,C)::cs):=fun x hx=>by
 simp only [adK] at hx;rcases hx with rfl | hx
 ·exact h
 ·exact hs x hx
theorem aaG {α:Type} (l:List α) (d:α) {i:Nat} (h:i<l.length):l[i]? = some (l.getD i d):=by
 rw [List.getD,adA h]; rfl
theorem yY {α β:Type} [Inhabited α] (f:α->β) (l:List α) {i:Nat} (h:i<l.length):(l.map f)[i]? = some (f (l.getD i default)):=by
 rw [adG,aaG l default h]; rfl
theorem dq {n:Int} (h1:-9223372036854775808<=n) (h2:n<=9223372036854775807):IntKind.i64.wrap n=n:=IntWalk.i64_in n ⟨h1,h2⟩
theorem b9 {i:Nat} (h:i < 9223372036854775807):IntKind.i64.wrap ((i:Int)+1)=((i+1:Nat):Int):=by
 rw [dq (by omega) (by omega)]; rfl
def Qc (P:Program) (cs:CT) (all:List Oper) (o:Oper) (s:S) (K:S->Prop):Prop:=
 match o.guard with
 | none=>opK P cs o s K
 | some (j,want)=>match (all[j]?).bind (·.dst) with
  | some d=>match aK s.t d with
   | .one (.c (.d (.bool c)))=>gsel c want (opK P cs o (s.put (some d) (sc (.bool want))) K) (K ((s.put (some d) (sc (.bool (!want)))).put o.dst (.tup [])))
   | .tup []=>K (s.put o.dst (.tup []))
   | _=>False
  | none=>False
section
variable {P:Program} {cs:CT} {all:List Oper}
theorem IX {s:S} {k:S->Prop} (h:k s):nE P cs all [] s k:=h
theorem Q9 {o:Oper} {r:List Oper} {s:S} {k:S->Prop} (h:∀ K:S->Prop,(∀ s',nE P cs all r s' k->K s')->Qc P cs all o s K):nE P cs all (o::r) s k:=by
 have h:=h (fun s'=>nE P cs all r s' k) (fun _ h=>h)
 unfold Qc at h;simp only [nE];cases hg:o.guard with
 | none=>rw [hg] at h; exact h
 | some q=>
  rw [hg] at h;exact h
def acE (P:Program) (all:List Oper) (i:Nat) (fz:Bool) (s:S) (K:S->Prop):Prop:=
 match all[i]? with
 | none=>False
 | some o=>gK all o s (fun s=>(fz=true->gf s o)/\qK P o s fun v=>K (s.put o.dst v)) K
end
theorem Zq (b:List UInt8):rS.enc b=[.str b]:=rfl
theorem abJ (k:IntKind) (n:Int):(rI k).enc n=[.int k n]:=rfl
theorem abE (k:IntKind) (n:Int):(cI k).enc n=.c (.d (.int k n)):=rfl
theorem ZE (b:Bool):cB.enc b=.c (.d (.bool b)):=rfl
theorem ZZ (b:List UInt8):cS.enc b=.c (.d (.str b)):=rfl
theorem ZU {α:Type} (c:Rw α) (l:List α):(cL c).enc l=.c (.d (.li (l.map c.enc))):=rfl
theorem aaR {α:Type} (c:Rw α) (x:α):(cA c).enc x=.agg ((c.enc x).map T.d):=rfl
theorem aaX (k:IntKind) (n:Int):(cI k).dec (.c (.d (.int k n)))=some n:=by simp [cI,ZJ]
theorem aa9 (b:Bool):cB.dec (.c (.d (.bool b)))=some b:=rfl
theorem aa3 (b:List UInt8):cS.dec (.c (.d (.str b)))=some b:=rfl
theorem ZB {α:Type} (c:Rw α) (l:List (List D)):(cL c).dec (.c (.d (.li l)))=dW c l:=rfl
theorem ZF {α:Type} (c:Rw α) (ts:List T):(cA c).dec (.agg ts)=match tds ts with
  | some l=>c.dec l
  | none=>none:=rfl
theorem ac1 (x:D):sc x=.one (.c (.d x)):=rfl
attribute [push_cast] nL List.append_eq decide_false decide_true adB vw kP eqD TD Option.isSome_some List.toList_toArray T.owned T.ment T.toD pR g7 List.set_cons_zero List.set_cons_succ mkT inK aO lI iu sC qt jc jF JX be bi LU thr Pl.offs Option.map_some af4 agI List.replicate_zero agR List.zipWith_nil_left List.zipIdx_cons List.zipIdx_nil aeM ad6 aeO B6 T.frz KG Sh.isFr TK.isSS bne List.isPrefixOf List.cons_beq_cons Nm.loc.injEq Nm.gh.injEq Nm.out.injEq gsel ne_eq not_false_eq_true not_true_eq_false Nat.one_ne_zero adE Qc opK ev cst ro aW aK oL S.put Eu ite_true if_true if_false adF adL qq Ci LS Oc vV ag4 afV afG Bool.and_false aeE afB Bool.or_true afK Bool.true_or afF Bool.not_not aeN aeU true_and and_true forall_const adZ Ll gj gc tK false_and and_false false_implies true_implies implies_true decide_eq_true_eq decide_eq_false_iff_not aeJ ag5 beq_self_eq_true pA S.cut S.drops S.one List.map_cons List.map_nil ac1 Zq abJ abE ZE ZZ ZU aaR aaX aa9 aa3 ZB ZF tds dW Zz CT.get rL fn0 fn1 fn2 fn3 o1 o2 o3 jt Lv WQ EP AV.isFz AV1.isFz T.isFz AV.map AV1.map T.canon adQ afN S.drop jq aL AV.kill AV1.kill T.kill bR bv ae dD S.fresh S.root acE gK aaH qK gf Kx km unK wI okv okvs afH List.take_zero ae6 agJ List.take_nil List.drop_nil Iz uF gb o6 fM vZ Ra fi T.sure wM wQ dF iG room rX Pl.add atK ue CM UT P4 lS gp kH jr overw chunk T.fz
end Go.Am
end

section
namespace Go.Am
def T.ren (a b:Nm):T->T
 | .pl p=>.pl ⟨if p.root=a then b else p.root,p.off,p.path⟩
 | t=>t
def T.self (a:Nm):T->Bool
 | .pl p=>decide (p.root=a)&&p.path.isEmpty
 | .rf _=>false
 | _=>true
def iW (r:Nm) (rf:Bool) (p:Pl):Bool:=decide (p.root=r)&&(rf||!p.path.isEmpty)
def Ad (j:Nat) (P:Program) (s:S) (rs:List ResultVar) (K:AV->List T->Prop):Prop:=
 match ae (gb s rs).m (.out j) with
 | some ⟨true,cells⟩=>uF P s rs (fun v=>K v cells)
 | _=>False
def ab4 (j:Nat) (P:Program) (rs:List ResultVar) (K:AV->List T->Prop):Exit->S->Prop
 | .normal,s=>Ad j P s rs K
 | .ret,s=>Ad j P s rs K
 | _,_=>False
def Tq (j:Nat) (φ:List AV->List T->(AV->List T->Prop)->Prop):CK1:=fun s ops k=>
 match ops with
 | []=>False
 | o::os=>
  let s1:=jt s (os.map (ev s))
  match ev s1 o with
  | .one (.c (.pl ⟨r,0,[]⟩))=>match ae s1.m r with
   | some ⟨true,cells⟩=>(Nm.out j).tyd=r.tyd/\cells.all (T.self r)=true/\(os.map (ev s1)).all AV.isFz=true /\
     φ (os.map fun x=>(ev s1 x).map T.canon) (cells.map (T.ren r (.out j))) (fun res cells'=>cells'.length=cells.length/\cells'.all (T.self (.out j))=true /\
      k ⟨jq (iW r) s1.t,(r,⟨true,cells'.map (T.ren (.out j) r)⟩)::aL (bR r) (bv s1.m r)⟩ res)
   | _=>False
  | _=>False
section
variable {w w':World} {H H':FH} {γ γ':Gam} {m m':Mm}
theorem mL {n n':Nm} {cells:List T} {f:Fp} {b:Nat} (h:bm w H γ m n ⟨true,cells⟩ f) (hn:n'.tyd=n.tyd) (hs:cells.all (T.self n)=true) (hγ:γ n=.blk b) (hm:ae m n=some ⟨true,cells⟩)
  (hγ':γ' n'=.blk b) (hm':∃ cells',ae m' n'=some ⟨true,cells'⟩/\cells'.length=cells.length):bm w H γ' m' n' ⟨true,cells.map (T.ren n n')⟩ f:=by
 unfold bm at h ⊢;rw [if_pos rfl] at h ⊢;obtain ⟨b0,cs,ty,fz,g,h1,h2,h3,h4,h5,h6⟩:=h;rw [hγ] at h1;obtain rfl:b=b0:=by simpa using h1
 refine ⟨b,cs,ty,fz,g,hγ',h2,⟨h3.1,fun t ht=>h3.2 t (by rw [<- hn]; exact ht)⟩,by simpa using h4,?_,h6⟩;unfold Ts at h5 ⊢;rw [adE];obtain ⟨cells',hm1,hm2⟩:=hm';have key:∀ (ss:List Unit) (xs:List T) (f:Fp) (vs:List Value),xs.all (T.self n)=true->Cs (fun _ t=>TR w H γ m t) ss xs f vs->Cs (fun _ t=>TR w H γ' m' t) ss (xs.map (T.ren n n')) f vs:=by
  intro ss xs;induction xs generalizing ss with
  | nil=>intro f vs _ h; cases ss <;> exact h
  | cons x xs ih=>
   intro f vs hx h;simp only [adQ,ac9] at hx;cases ss with
   | nil=>exact h.elim
   | cons u ss=>
    obtain ⟨v,r,f1,f2,hv,hf,k1,k2⟩:=h;refine ⟨v,r,f1,f2,hv,hf,?_,ih ss f2 r hx.2 k2⟩;cases x with
    | pl p=>
     obtain ⟨root,off,path⟩:=p;have hp:=hx.1
     simp only [T.self,ac9,decide_eq_true_eq,List.isEmpty_iff] at hp;obtain ⟨rfl,rfl⟩:=hp;obtain ⟨z,hok,a,ha,e⟩:=k1;simp only [T.ren,if_true];refine ⟨z,?_,a,?_,e⟩
     ·rw [ap] at hok ⊢;obtain ⟨r0,q1,q2⟩:=hok;rw [hm] at q1;obtain rfl:=Option.some.inj q1;exact ⟨_,hm1,by
       have q2':off<cells.length:=q2
       show off<cells'.length
       omega⟩
     ·simp only [plA] at ha ⊢;rw [hγ] at ha;rw [hγ']; exact ha
    | rf p=>simp [T.self] at hx
    | d x=>exact k1
    | nil=>exact k1
    | ow sub l=>exact k1
    | el row o=>exact k1
    | any=>exact k1
 exact key _ _ _ _ hs h5
theorem ja {F:Nm->Fp} {m:Mm} {n:Nm} {r:Root} (hk:ae m n=some r) (c:Nat):tot F (bv m n) c+F n c=tot F m c:=by
 induction m with
 | nil=>simp [ae] at hk
 | cons x m ih=>
  obtain ⟨k,y⟩:=x;simp only [ae,bv] at hk ⊢;by_cases hkn:k=n
  ·subst hkn; rw [if_pos rfl,bt]; dsimp only; omega
  ·rw [if_neg hkn] at hk;rw [if_neg hkn,bt,bt];have:=ih hk
   dsimp only at this ⊢;omega
theorem BC {m:Mm} {n:Nm} (hk:(m.map (·.1)).Nodup):ae (aL (bR n) (bv m n)) n=none:=by
 rw [qv,m5];exact jU hk
end
section
variable {P:Program}
theorem L3 {g:G} {s:S} {a:Act} {w:World} {H:FH} {γ:Gam} {F:Nm->Fp} (h:RX g s a w H γ F) (hex:g.ex=none) {fn:Func} {k:AV->Prop} (hk:uF P s fn.results.toList k) :
  ∃ y v H' F',(results fn a.tmps).run P w=.ok y w/\RX g (gb s fn.results.toList) a w H' γ F'/\AR w H' γ (gb s fn.results.toList).m v y/\v.isFz=true/\k (v.map T.canon):=by
 unfold uF at hk;obtain ⟨H1,F1,h1⟩:=so fn.results.toList s H F h;obtain ⟨ys,xs,e1,e2,e3,e4⟩:=rY h1 hex hk;have hrun:(results fn a.tmps).run P w=.ok (if h:ys.toArray.size=1 then ys.toArray[0] else .tuple ys.toArray) w:=by
  rw [im,af3];simp [e1]
 refine ⟨_,(match xs with | [x]=>.one x | xs=>.tup xs),H1,F1,hrun,h1,?_⟩
 match xs,ys,e2,e3 with
 | [],[],e2,e3=>exact ⟨⟨#[],by simp,trivial⟩,e3.1,e3.2⟩
 | [x],[y],e2,e3=>exact ⟨e2.1,e3.1,e3.2⟩
 | x1::x2::xs,y1::y2::ys,e2,e3=>exact ⟨⟨(y1::y2::ys).toArray,by simp,by simpa using e2⟩,e3.1,e3.2⟩
theorem XJ {j:Nat} {f:Nat} {fn:Func} {c:Code} (hf:P.funcs[f]? = some fn) (hname:(fn.name == "runtime.NumGoroutine")=false) (hb:fn.body=some c) (φ:List AV->List T->(AV->List T->Prop)->Prop)
  (hlen:∀ avs cells K,φ avs cells K->avs.length+1<=fn.ntmps)
  (hbody:∀ (g:G) avs cells K,g.nt=fn.ntmps->φ avs cells K->AW P g c (ab4 j P fn.results.toList K) ⟨aW 0 (.one (.c (.pl ⟨.out j,0,[]⟩))::avs),[(.out j,⟨true,cells⟩)]⟩):Con P f (Tq j φ):=by
 refine ⟨fun args w=>?_,?_⟩
 ·have h1:fn.name ≠ "runtime.NumGoroutine" := by simpa using hname
  simp [callFunc,hf,h1,hb]
 ·intro g s a w H γ F ops k hX hops hK;cases ops with
  | nil=>exact hK.elim
  | cons o os=>
  unfold Tq at hK;dsimp only at hK;obtain ⟨H1,F1,h1⟩:=ky (os.map (ev s)) s H F hX;generalize jt s (os.map (ev s))=s1 at hK h1;have hops':bh o=true/\os.all bh=true:=by simpa using hops
  split at hK
  rotate_left
  ·exact hK.elim
  rename_i r heo;split at hK
  rotate_left
  ·exact hK.elim
  rename_i cells hroot;obtain ⟨htyd,hself,hfz,hφ⟩:=hK;have hevo:=br h1 hops'.1
  rw [heo] at hevo;obtain ⟨_,hokp,ad,had,hval⟩:=hevo;have hR:=h1.mem.roots _ (aw hroot)
  obtain ⟨b,hγr⟩:∃ b,γ r=.blk b:=by
   have hR2:=hR
   unfold bm at hR2;rw [if_pos rfl] at hR2;obtain ⟨b,_,_,_,_,e,_⟩:=hR2;exact ⟨b,e⟩
  have had':ad=⟨b,0,none⟩:=by
   simp only [plA,hγr,ac8] at had; exact had.symm
  subst had';have hoff:0<cells.length:=by
   rw [ap] at hokp;obtain ⟨r0,q1,q2⟩:=hokp;dsimp only at q1;rw [hroot] at q1;obtain rfl:=Option.some.inj q1;exact q2
  have hle:=hlen _ _ _ hφ
  rw [adE] at hle
  let γc:Gam:=fun n=>if n=.out j then .blk b else γ n
  let mc:Mm:=[(.out j,⟨true,cells.map (T.ren r (.out j))⟩)]
  let g1:G:=⟨fn.ntmps,w,H1,F1 r,fun i=>if i=j then some b else none,none,[]⟩
  have hγc:γc (.out j)=.blk b:=by simp [γc]
  have hRc:bm w H1 γc mc (.out j) ⟨true,cells.map (T.ren r (.out j))⟩ (F1 r):=
   mL hR htyd hself hγr hroot hγc ⟨cells.map (T.ren r (.out j)),by simp [mc,ae],by simp⟩
  have hge:∀ c,F1 r c<=tot F1 s1.m c:=fun c=>bX (F:=F1) (aw hroot) c
  let Fc:Nm->Fp:=fun _=>F1 r
  have htc:∀ c,tot Fc mc c=F1 r c:=fun c=>(agG (F1 r c))
  have hmc:Mem w H1 γc mc Fc:=by
   refine ⟨h1.mem.agree,fun x hx=>?_,by simp [mc],fun c=>by rw [htc]; exact ae8 (hge c) (h1.mem.le1 c),fun c hc=>by rw [htc] at hc; exact h1.mem.lt c (by have:=hge c; omega),fun c hc=>by rw [htc] at hc; exact h1.mem.nofz c (by have:=hge c; omega)⟩;simp only [mc,adM] at hx;subst hx;exact hRc
  refine calls_of_wp hf hb (Code.wp_mono (fun e a' w' hl=>?_) (hbody g1 _ _ _ rfl hφ _ w ⟨H1,γc,Fc,?_⟩))
  ·obtain ⟨s',hq,H',γ',F',hX'⟩:=hl;have fin:Ad j P s' fn.results.toList (fun res cells'=>cells'.length=cells.length/\cells'.all (T.self (.out j))=true /\
      k ⟨jq (iW r) s1.t,(r,⟨true,cells'.map (T.ren (.out j) r)⟩)::aL (bR r) (bv s1.m r)⟩ res) ->
     a'.defers=[]/\∃ v,(results fn a'.tmps).run P w'=.ok v w'/\∃ rr s'' av H'' γ'' F'',Ending.returned v=.returned rr/\k s'' av/\AR w' H'' γ'' s''.m av rr/\RX g s'' a w' H'' γ'' F'':=by
    intro hq;unfold Ad at hq;split at hq
    rotate_left
    ·exact hq.elim
    rename_i cells' hout;obtain ⟨y,v,H2,F2,e1,e2,e3,e4,hl2,hs2,hk⟩:=L3 hX' rfl hq;generalize gb s' fn.results.toList=s2 at hout e2 e3;have hfr:=e2.fr
    dsimp only [g1] at hfr;have hd:=nP h1 r
    have hmdm:(s1.drop r).m=aL (bR r) (bv s1.m r):=rfl
    have hdm:=hd.mem
    rw [hmdm] at hdm;generalize hmd0:aL (bR r) (bv s1.m r)=md at hdm hk;have tdel:∀ c,tot F1 md c+F1 r c=tot F1 s1.m c:=fun c=>by
     rw [<- hmd0,bH]; exact ja hroot c
    have hsame:∀ c,tot F1 md c≠0->w'.heap[c]? = w.heap[c]? := fun c hc=>
     hfr.block c (h1.mem.lt c (by have:=tdel c; omega)) (by have:=tdel c; have:=h1.mem.le1 c; omega)
    have hnewc:∀ c,c<w.heap.size->F1 r c=0->H1 c=H2 c:=by
     intro c hc h0
     funext o
     cases hh:H1 c o with
     | some y=>rw [hfr.hold c o y hh]
     | none=>
      cases hh2:H2 c o with
      | none=>rfl
      | some y=>
       rcases hfr.hnew c o (by rw [hh2]; simp) hh with h' | h'
       ·exact absurd h0 h'
       ·omega
    have hKp:=dn (w':=w') hdm hsame
    have hmd:Mem w' H2 γ md F1:=by
     refine ⟨e2.mem.agree,fun x hx=>aX hKp hfr.hold rfl (fun c hc=>hsame c (by have:=bX (F:=F1) hx c; omega)) (hdm.roots x hx),hdm.keys,hdm.le1,fun c hc=>by have:=hdm.lt c hc; have:=hfr.size; omega,fun c hc o=>?_⟩;rw [<- hnewc c (hdm.lt c hc) (by have:=tdel c; have:=h1.mem.le1 c; omega)]; exact hdm.nofz c hc o
    have hRout:=e2.mem.roots _ (aw hout)
    have hγ':γ' (.out j)=.blk b:=e2.df.2.1 j b (by simp [g1])
    have hnone:ae md r=none:=by rw [<- hmd0]; exact BC h1.mem.keys
    have hupd:upd γ r (.blk b)=γ:=by
     funext n
     by_cases hn:n=r
     ·subst hn; rw [dY,hγr]
     ·rw [oe hn]
    have hRr:bm w' H2 (upd γ r (.blk b)) ((r,⟨true,cells'.map (T.ren (.out j) r)⟩)::md) r ⟨true,cells'.map (T.ren (.out j) r)⟩ (F2 (.out j)):=
     mL hRout htyd.symm hs2 hγ' hout dY ⟨cells'.map (T.ren (.out j) r),by simp only [ae,if_true],by simp⟩
    have hf1:∀ c,F2 (.out j) c<=tot F2 s2.m c:=fun c=>bX (F:=F2) (aw hout) c
    have hf2:∀ c,F2 (.out j) c≠0->F1 r c≠0\/w.heap.size<=c:=fun c hc=>hfr.tt c (by have:=hf1 c; omega)
    have hmd0':∀ c,F2 (.out j) c≠0->tot F1 md c=0:=fun c hc=>by
     rcases hf2 c hc with h' | h'
     ·have:=tdel c; have:=h1.mem.le1 c; omega
     ·rcases aeL (tot F1 md c) with h0 | h0
      ·exact h0
      ·have:=hdm.lt c (by omega); omega
    obtain ⟨hM,htot⟩:=uX hmd (n:=r) (rc:=.blk b) (r:=⟨true,cells'.map (T.ren (.out j) r)⟩) (f:=F2 (.out j)) hnone hRr (fun c=>by
      by_cases hc:F2 (.out j) c=0
      ·have:=hdm.le1 c; omega
      ·have:=hmd0' c hc; have:=e2.mem.le1 c; have:=hf1 c; omega)
     (fun c hc=>⟨e2.mem.lt c (by have:=hf1 c; omega),e2.mem.nofz c (by have:=hf1 c; omega)⟩)
    rw [hupd] at hM;have hFr:Fr w H1 (tot F1 s1.m) w' H2 (tot (upd F1 r (F2 (.out j))) ((r,⟨true,cells'.map (T.ren (.out j) r)⟩)::md)):=by
     refine ⟨hfr.size,hfr.os,hfr.tape,hfr.output,fun c hc h0=>hfr.block c hc (by have:=hge c; omega),hfr.hold,fun c o h2 h3=>?_,fun c hc=>?_⟩
     ·rcases hfr.hnew c o h2 h3 with h' | h'
      ·exact .inl (by have:=hge c; omega)
      ·exact .inr h'
     ·rw [htot] at hc;by_cases h0:F2 (.out j) c=0
      ·exact .inl (by have:=tdel c; omega)
      ·rcases hf2 c h0 with h' | h'
       ·exact .inl (by have:=hge c; omega)
       ·exact .inr h'
    have hKB:KeepsB (iW r) w γ s1.m w' γ ((r,⟨true,cells'.map (T.ren (.out j) r)⟩)::md):=by
     have hKa:=jO (w:=w') (γ:=γ) (rc:=.blk b) (r:=⟨true,cells'.map (T.ren (.out j) r)⟩) hnone
     rw [hupd] at hKa;have hKd:KeepsB (bR r) w γ s1.m w γ md:=by rw [<- hmd0]; exact eD
     constructor
     ·intro q hbq hq;by_cases hqr:q.root=r
      ·obtain ⟨qr,qo,qp⟩:=q;dsimp only at hqr;subst hqr;simp only [iW,decide_true,aeE,afF,ag5,List.isEmpty_iff] at hbq;subst hbq;refine ⟨?_,by simp only [plA]⟩;rw [ap] at hq ⊢;obtain ⟨r0,q1,q2⟩:=hq;dsimp only at q1 q2;rw [hroot] at q1;obtain rfl:=Option.some.inj q1;refine ⟨⟨true,cells'.map (T.ren (.out j) qr)⟩,by simp only [ae,if_true],?_⟩;have q2':qo<cells.length:=q2
       show qo < (cells'.map (T.ren (.out j) qr)).length
       simp; omega
      ·obtain ⟨k1,k2⟩:=hKd.pl q (by simp [bR,hqr]) hq;obtain ⟨k3,k4⟩:=hKp.pl q k1;obtain ⟨k5,k6⟩:=hKa.pl q k3;exact ⟨k5,k6.trans (k4.trans k2)⟩
     ·intro q hbq hq;have hqr:q.root≠r:=by
       intro e;simp [iW,e] at hbq
      obtain ⟨k1,k2⟩:=hKd.rf q (by simp [bR,hqr]) hq;obtain ⟨k3,k4⟩:=hKp.rf q k1;obtain ⟨k5,k6⟩:=hKa.rf q k3;exact ⟨k5,k6.trans (k4.trans k2)⟩
    refine ⟨e2.df.1,y,e1,y,_,v.map T.canon,H2,γ,_,rfl,hk,fE cU (lf (fun _ _ _ h=>h) e4 e3),iM h1 hM hFr (fun i=>?_) (fun _=>rfl)⟩;rw [j7];exact qS hKB hfr.hold (h1.t i)
   cases e with
   | normal=>exact fin hq
   | ret=>exact fin hq
   | _=>exact hq.elim
  ·refine ⟨hmc,⟨adH _,rfl,rfl,rfl,fun _ _ _=>rfl,fun _ _ _ h=>h,fun b o h2 h3=>absurd h3 h2,fun c hc=>.inl (by rw [htc] at hc; exact hc)⟩,?_,⟨rfl,fun i b' e=>?_,dJ h1⟩,fun i=>?_⟩
   ·simp [g1]; omega
   ·simp only [g1] at e;split at e
    ·rename_i hj; subst hj; simp only [ac8] at e; subst e; exact hγc
    ·simp at e
   ·have hget:∀ x,(o::os)[i]? = some x->(((o::os).map a.eval).toArray++Array.replicate (fn.ntmps - ((o::os).map a.eval).toArray.size) undef).getD i undef=a.eval x:=by
     intro x hx;rw [ad9,ae0 (by simp; have:=aj hx; simp at this; omega)];have e:((o::os).map a.eval)[i]? = some (a.eval x):=by rw [adG,hx]; rfl
     rw [agD,e]; rfl
    cases i with
    | zero=>
     rw [G.tv_none rfl,hget o rfl,hval];simp only [aW,aK,if_true];refine ⟨fun _=>rfl,?_,⟨b,0,none⟩,?_,rfl⟩
     ·rw [ap];refine ⟨⟨true,cells.map (T.ren r (.out j))⟩,by simp [mc,ae],?_⟩;show 0 < (cells.map (T.ren r (.out j))).length
      simpa using hoff
     ·simp only [plA,hγc]
    | succ i=>
     have hent:aK (aW 0 (.one (.c (.pl ⟨.out j,0,[]⟩))::os.map fun x=>(ev s1 x).map T.canon)) (i+1)=((os.map fun x=>(ev s1 x).map T.canon)[i]?).getD .any:=by
      simp only [aW,aK];rw [if_neg (by omega)];rw [fG];simp
     show AR w H1 γc mc (aK (aW 0 (.one (.c (.pl ⟨.out j,0,[]⟩))::os.map fun x=>(ev s1 x).map T.canon)) (i+1)) _
     rw [hent,adG];cases hi:os[i]? with
     | none=>simp only [af4,af9]; trivial
     | some x=>
      have hx:=br h1 (adI.1 hops'.2 x (ad7 hi))
      simp only [Option.map_some,Option.getD_some];have hz:(ev s1 x).isFz=true:=adI.1 hfz (ev s1 x) (aeH (ad7 hi))
      rw [G.tv_none rfl,hget x (by simpa using hi)];exact fE cU (lf (fun _ _ _ h=>h) hz hx)
end
end Go.Am
end

section
namespace Go.Am
section
variable {w:World} {H:FH} {γ:Gam} {m:Mm} {F:Nm->Fp}
theorem AQ {α β:Type} {R:α->β->Fp->Value->Prop} {x':β}:∀ {ss:List α} {xs:List β} {f:Fp} {vs:List Value} {k:Nat} {x:β},xs[k]? = some x->(∀ s g v,R s x g v->R s x' g v)->Cs R ss xs f vs->Cs R ss (xs.set k x') f vs
 | [],[],_,_,_,_,hx,_,_=>by simp at hx
 | s::ss,y::xs,f,vs,0,x,hx,hR,h=>by
  obtain ⟨v,r,f1,f2,hv,hf,h1,h2⟩:=h;simp only [aeN,ac8] at hx;subst hx;exact ⟨v,r,f1,f2,hv,hf,hR _ _ _ h1,h2⟩
 | s::ss,y::xs,f,vs,k+1,x,hx,hR,h=>by
  obtain ⟨v,r,f1,f2,hv,hf,h1,h2⟩:=h;simp only [aeU] at hx;exact ⟨v,r,f1,f2,hv,hf,h1,AQ hx hR h2⟩
 | [],_::_,_,_,_,_,_,_,h=>h.elim
 | _::_,[],_,_,_,_,_,_,h=>h.elim
theorem Js {n:Nm} {cells:List T} {bl:Bool} (hr:ae m n=some ⟨bl,cells⟩) {off:Nat} (hc:cells[off]? = some .nil) (sub:List Sh):Keeps w γ m w γ (dD m n ⟨bl,cells.set off (.ow sub [])⟩):=by
 constructor
 ·intro q hq;refine ⟨?_,rfl⟩;rw [ap] at hq ⊢;obtain ⟨r,h1,h2⟩:=hq;rw [jS hr];by_cases hn:n=q.root
  ·subst hn;rw [if_pos rfl];rw [hr] at h1;obtain rfl:=Option.some.inj h1;refine ⟨_,rfl,?_⟩;obtain ⟨qr,qo,qp⟩:=q;cases qp with
   | nil=>
    have h2':qo<cells.length:=h2
    show qo < (cells.set off (.ow sub [])).length
    simpa using h2'
   | cons st u=>
    dsimp only [aS] at h2 ⊢;by_cases ho:off=qo
    ·subst ho; rw [hc] at h2; exact h2.elim
    ·rw [aeD ho]; exact h2
  ·rw [if_neg hn]; exact ⟨r,h1,h2⟩
 ·intro q hq;refine ⟨?_,rfl⟩;rw [cW] at hq ⊢;obtain ⟨r,h1,h2⟩:=hq;rw [jS hr];by_cases hn:n=q.root
  ·subst hn;rw [if_pos rfl];rw [hr] at h1;obtain rfl:=Option.some.inj h1;refine ⟨_,rfl,?_⟩;obtain ⟨qr,qo,qp⟩:=q;dsimp only [cC] at h2 ⊢;by_cases ho:off=qo
   ·subst ho; rw [hc] at h2; cases qp <;> exact h2.elim
   ·rw [aeD ho]; exact h2
  ·rw [if_neg hn]; exact ⟨r,h1,h2⟩
end
def S.ownR (n:Nm) (off:Nat) (sub:List Sh) (s:S):S:=
 match ae s.m n with
 | some ⟨true,cells⟩=>match cells[off]? with
  | some .nil=>⟨s.t,dD s.m n ⟨true,cells.set off (.ow sub [])⟩⟩
  | _=>s
 | _=>s
theorem Pq {g:G} {s:S} {a:Act} {w:World} {H:FH} {γ:Gam} {F:Nm->Fp} (h:RX g s a w H γ F) (n:Nm) (off:Nat) (sub:List Sh):RX g (s.ownR n off sub) a w H γ F:=by
 unfold S.ownR;split
 ·rename_i cells hr;split
  ·rename_i hc;have hK:=Js (w:=w) (γ:=γ) hr hc sub
   have hm:=h.mem
   refine ⟨⟨hm.agree,fun x hx=>?_,?_,fun b=>?_,fun b hb=>?_,fun b hb=>?_⟩,⟨h.fr.size,h.fr.os,h.fr.tape,h.fr.output,h.fr.block,h.fr.hold,h.fr.hnew,fun b hb=>?_⟩,h.nt,h.df,fun i=>dv hK (fun _ _ _ h=>h) (h.t i)⟩
   ·rcases uc hm.keys hx with ⟨_,hy⟩ | rfl
    ·exact aX hK (fun _ _ _ h=>h) rfl (fun _ _=>rfl) (hm.roots x hy)
    ·have h1:=aX hK (fun _ _ _ h=>h) rfl (fun _ _=>rfl) (hm.roots _ (aw hr))
     unfold bm at h1 ⊢;dsimp only at h1 ⊢;rw [if_pos rfl] at h1 ⊢;obtain ⟨b,cs,ty,fz,g',k1,k2,k3,k4,k5,k6⟩:=h1;refine ⟨b,cs,ty,fz,g',k1,k2,k3,by simpa using k4,?_,k6⟩;unfold Ts at k5 ⊢;rw [aeK];refine AQ hc (fun _ f v hv=>?_) k5;obtain ⟨z,rfl⟩:=hv;exact ⟨1,iV.2 (.inl ⟨rfl,rfl,z⟩)⟩
   ·rw [qG]; exact hm.keys
   ·rw [eO]; exact hm.le1 b
   ·rw [eO] at hb; exact hm.lt b hb
   ·rw [eO] at hb; exact hm.nofz b hb
   ·rw [eO] at hb; exact h.fr.tt b hb
  ·exact h
 ·exact h
def S.mvR (n:Nm) (s:S):S:=
 match ae s.m n with
 | some r=>⟨s.t,(n,r)::bv s.m n⟩
 | none=>s
theorem Xk {m:Mm} {n k:Nm} {r:Root} (h:ae m n=some r):ae ((n,r)::bv m n) k=ae m k:=by
 by_cases hk:n=k
 ·subst hk; rw [h]; simp [ae]
 ·simp only [ae,if_neg hk]; exact jV (Ne.symm hk)
theorem abA {g:G} {s:S} {a:Act} {w:World} {H:FH} {γ:Gam} {F:Nm->Fp} (h:RX g s a w H γ F) (n:Nm):RX g (s.mvR n) a w H γ F:=by
 unfold S.mvR;split
 ·rename_i r hr;have hget:∀ k,ae ((n,r)::bv s.m n) k=ae s.m k:=fun k=>Xk hr
  have hK:Keeps w γ s.m w γ ((n,r)::bv s.m n):=⟨fun q hq=>⟨by rw [ap] at hq ⊢; rw [hget]; exact hq,rfl⟩,fun q hq=>⟨by rw [cW] at hq ⊢; rw [hget]; exact hq,rfl⟩⟩
  have htot:∀ b,tot F ((n,r)::bv s.m n) b=tot F s.m b:=fun b=>by
   have:=ja (F:=F) hr b
   show F n b+tot F (bv s.m n) b=_
   omega
  have hm:=h.mem
  refine ⟨⟨hm.agree,fun x hx=>?_,?_,fun b=>?_,fun b hb=>?_,fun b hb=>?_⟩,⟨h.fr.size,h.fr.os,h.fr.tape,h.fr.output,h.fr.block,h.fr.hold,h.fr.hnew,fun b hb=>?_⟩,h.nt,h.df,fun i=>dv hK (fun _ _ _ h=>h) (h.t i)⟩
  ·refine aX hK (fun _ _ _ h=>h) rfl (fun _ _=>rfl) (hm.roots x ?_);rcases adK.1 hx with rfl | hx
   ·exact aw hr
   ·exact uG hx
  ·rw [List.map_cons,afC];exact ⟨jU hm.keys,tj hm.keys⟩
  ·rw [htot]; exact hm.le1 b
  ·rw [htot] at hb; exact hm.lt b hb
  ·rw [htot] at hb; exact hm.nofz b hb
  ·rw [htot] at hb; exact h.fr.tt b hb
 ·exact h
def Rq (t:Nat) (n':Nm) (sub:List Sh) (s:S):S:=
 match aK s.t t with
 | .one (.c .nil)=>match ae (s.fresh n').m n',n'.isOut with
  | none,false=>⟨oL (s.fresh n').t t (.one (.c (.rf ⟨n',0,[]⟩))),(n',⟨false,[.ow sub []]⟩)::(s.fresh n').m⟩
  | _,_=>s
 | .one (.c (.rf ⟨n,0,[]⟩))=>match ae s.m n with
  | some ⟨false,[.ow sub' l]⟩=>match n'.isOut with
   | false=>⟨oL ((s.drop n).fresh n').t t (.one (.c (.rf ⟨n',0,[]⟩))),(n',⟨false,[.ow sub' l]⟩)::((s.drop n).fresh n').m⟩
   | _=>s
  | _=>s
 | _=>s
def S.own:List (Nat×Nm×List Sh)->S->S
 | [],s=>s
 | (t,n,sub)::r,s=>S.own r (if 2000000<=t then s.mvR n else if 1000000<=t then s.ownR n (t - 1000000) sub else Rq t n sub s)
section
variable {g:G} {s:S} {a:Act} {w:World} {H:FH} {γ:Gam} {F:Nm->Fp}
theorem O3 (h:RX g s a w H γ F) {t:Nat} {v:AV} (hv:AR w H γ s.m v (g.tv a t)):RX g ⟨oL s.t t v,s.m⟩ a w H γ F:=by
 refine ⟨h.mem,h.fr,h.nt,h.df,fun i=>?_⟩;show AR w H γ s.m (aK (oL s.t t v) i) _
 rw [gB];split
 ·rename_i e; subst e; exact hv
 ·exact h.t i
theorem Wn {m:Mm} {n:Nm} {r:Root} {sub:List Sh} {l:List (List D)} {v:Value} (hr:r=⟨false,[.ow sub l]⟩) (hγ:γ n=.gh v):AR w H γ ((n,r)::m) (.one (.c (.rf ⟨n,0,[]⟩))) v:=by
 subst hr;refine ⟨fun _=>rfl,?_,?_⟩
 ·rw [cW];refine ⟨⟨false,[.ow sub l]⟩,by simp only [ae,if_true],?_⟩;show cC [T.ow sub l] 0 []
  simp [cC]
 ·show aD w (γ n) 0=some v
  rw [hγ]; rfl
theorem FG (h:RX g s a w H γ F) (t:Nat) (n':Nm) (sub:List Sh):∃ γ' F',RX g (Rq t n' sub s) a w H γ' F':=by
 unfold Rq;split
 ·rename_i hnil;split
  ·rename_i hnone hno;have h1:=jj h n'
   have hv:=h.t t
   rw [hnil] at hv;obtain ⟨_,hv⟩:=hv;obtain ⟨γ',F',h2,hγ⟩:=lZ h1 hno hnone (v:=.slice none 0 0) (t:=.ow sub []) (f:=fun _=>0) ⟨1,iV.2 (.inl ⟨rfl,rfl,fun _=>rfl⟩)⟩ (fun b=>by have:=h1.mem.le1 b; omega) (fun b hb=>absurd rfl hb) (fun b hb=>absurd rfl hb);exact ⟨γ',F',O3 h2 (by rw [hv]; exact Wn rfl hγ)⟩
  ·exact ⟨γ,F,h⟩
 ·rename_i n hrf
  ·split
   ·rename_i sub' l hroot;split
    ·rename_i hno;obtain ⟨v,f,hγn,hTR,hd,htot⟩:=KV h hroot;have h1:=jj hd n'
     have hle:∀ b,tot F ((s.drop n).fresh n').m b<=tot F (s.drop n).m b:=by
      intro b;unfold S.fresh;split
      ·exact adH _
      ·show tot F (aL _ _) b<=_
       rw [bH]; exact kC
     have hv:=h.t t
     rw [hrf] at hv;obtain ⟨_,_,hv⟩:=hv;have hv':v=g.tv a t:=by
      simp only [plV,hγn,aD,if_true,ac8] at hv;exact hv
     obtain ⟨γ',F',h2,hγ⟩:=lZ h1 hno (iy hd n') (v:=v) (t:=.ow sub' l) (f:=f) (hTR _) (fun b=>by have:=hle b; have:=htot b; have:=h.mem.le1 b; omega)
      (fun b hb=>⟨h.mem.lt b (by have:=htot b; omega),h.mem.nofz b (by have:=htot b; omega)⟩) (fun b hb=>h.fr.tt b (by have:=htot b; omega))
     exact ⟨γ',F',O3 h2 (by rw [<- hv']; exact Wn rfl hγ)⟩
    ·exact ⟨γ,F,h⟩
   ·exact ⟨γ,F,h⟩
 ·exact ⟨γ,F,h⟩
theorem OT:∀ (ns:List (Nat×Nm×List Sh)) {s:S},R g s a w->R g (s.own ns) a w
 | [],_,h=>h
 | (t,n,sub)::r,s,h=>by
  obtain ⟨H,γ,F,h⟩:=h;simp only [S.own];split
  ·exact OT r ⟨H,γ,F,abA h n⟩
  split
  ·exact OT r ⟨H,γ,F,Pq h n _ sub⟩
  ·obtain ⟨γ',F',h'⟩:=FG h t n sub;exact OT r ⟨H,γ',F',h'⟩
def S.cutO (ns:List (Nat×Nm×List Sh)) (ks:List Nat) (ds:List Nm) (s:S):S:=(s.own ns).cut ks ds
theorem Z4 {ns:List (Nat×Nm×List Sh)} {ks:List Nat} {ds:List Nm} (h:R g s a w):R g (s.cutO ns ks ds) a w:=Y2 ks ds (OT ns h)
variable {P:Program} {Q:Exit->S->Prop}
theorem O0 {c:Code} (ns:List (Nat×Nm×List Sh)) (ks:List Nat) (ds:List Nm) (h:AW P g c Q (s.cutO ns ks ds)):AW P g c Q s:=fun a w hR=>h a w (Z4 hR)
theorem Br {x y:Code} {α:Type} (ns:List (Nat×Nm×List Sh)) (ks:List Nat) (ds:List Nm) (st:α->S) (inv:α->Prop) (h1:AW P g x (Eu (fun s=>∃ y,s.cutO ns ks ds=st y/\inv y) Q) s) (h2:∀ y0,inv y0->AW P g y Q (st y0)):AW P g (.seq x y) Q s:=
 oV (AW.mono h1 (fun e s h=>by
  cases e with
  | normal=>obtain ⟨y0,e,hy⟩:=h; exact O0 ns ks ds (by rw [e]; exact h2 y0 hy)
  | _=>exact h))
theorem Wg {c:Code} {α:Type} (ns:List (Nat×Nm×List Sh)) (ks:List Nat) (ds:List Nm) (st:α->S) (inv:α->Prop) (μ:α->Nat) (x0:α) (h0:s.cutO ns ks ds=st x0) (hi:inv x0)
  (round:∀ x,inv x->∀ K:S->Prop,(∀ s' x',s'.cutO ns ks ds=st x'->inv x'->μ x'<μ x->K s')->AW P g c (Eu K Q) (st x)):AW P g (.loop c) Q s:=by
 refine Gm (fun n s=>∃ x,s.cutO ns ks ds=st x/\inv x/\μ x=n) (μ x0) ⟨x0,h0,hi,rfl⟩ (fun n s ⟨x,h1,h2,h3⟩=>?_);refine O0 ns ks ds ?_;rw [h1];exact round x h2 _ (fun s' x' k0 k2 k3=>⟨μ x',by omega,x',k0,k2,rfl⟩)
theorem Xx {α β:Type} (f:α->β) (a:List α) (n:Nat):(a.map f).drop n=(a.drop n).map f:=by simp
theorem YF {α β:Type} (f:α->β) (a:List α) (n:Nat):(a.map f).take n=(a.take n).map f:=by simp
def Za:List D->Option UInt8
 | [.int .u8 n]=>if 0<=n/\n < 256 then some (UInt8.ofNat n.toNat) else none
 | _=>none
def rB:Rw UInt8 where
 enc b:=[.int .u8 (b.toNat:Int)]
 dec:=Za
 inv l x h:=by
  unfold Za at h;split at h
  ·split at h
   ·rename_i n hn;simp only [ac8] at h;subst h
    congr 2
    have:n.toNat < 256:=by omega
    simp only [UInt8.toNat_ofNat',Nat.reducePow];omega
   ·simp at h
  ·simp at h
theorem YJ (b:List UInt8):(b.map fun c=>[D.int .u8 (c.toNat:Int)])=b.map rB.enc:=rfl
theorem FZ (a:Nat) (l:List Nat):(([]:List Nat)==a::l)=false:=rfl
theorem Gw (a:Nat) (l:List Nat):((a::l)==([]:List Nat))=false:=rfl
attribute [push_cast] FZ Gw Xx YF YJ S.own Rq S.ownR S.mvR bv S.cutO Nm.isOut D.sure
end
end Go.Am
end

section
namespace Go.Am
def Qg (cells:List T) (off:Nat) (sub:List Sh):List T:=
 match cells[off]? with
 | some .nil=>cells.set off (.ow sub [])
 | _=>cells
def tN:List (Nat×List Sh)->List T->List T
 | [],cells=>cells
 | (off,sub)::r,cells=>tN r (Qg cells off sub)
section
variable {w:World} {H:FH} {γ:Gam} {m:Mm} {F:Nm->Fp}
end
section
variable {g:G} {a:Act} {w:World} {H:FH} {γ:Gam} {F:Nm->Fp}
end
structure Cs1 (σ:Type) where
 j:Nat
 enc:σ->List T
 dec:List T->Option σ
 offs:List (Nat×List Sh)
 inv:∀ l x,dec l=some x->tN offs l=enc x
 self:∀ x,(enc x).all (T.self (.out j))=true
 ren:∀ l x n,dec l=some x->dec (l.map (T.ren n (.out j)))=some x
section
variable {α β γ' ρ σ:Type}
def fp0 (c:Cs1 σ) (r:ρ->AV) (pre:σ->Prop) (f:σ->ρ×σ):List AV->List T->(AV->List T->Prop)->Prop
 | [],cells,K=>match c.dec cells with
  | some s=>pre s/\K (r (f s).1) (c.enc (f s).2)
  | none=>False
 | _,_,_=>False
def fp1 (c:Cs1 σ) (a:Cd α) (r:ρ->AV) (pre:σ->α->Prop) (f:σ->α->ρ×σ):List AV->List T->(AV->List T->Prop)->Prop
 | [.one x],cells,K=>match c.dec cells,a.dec x with
  | some s,some x=>pre s x/\K (r (f s x).1) (c.enc (f s x).2)
  | _,_=>False
 | _,_,_=>False
def fp2 (c:Cs1 σ) (a:Cd α) (b:Cd β) (r:ρ->AV) (pre:σ->α->β->Prop) (f:σ->α->β->ρ×σ):List AV->List T->(AV->List T->Prop)->Prop
 | [.one x,.one y],cells,K=>match c.dec cells,a.dec x,b.dec y with
  | some s,some x,some y=>pre s x y/\K (r (f s x y).1) (c.enc (f s x y).2)
  | _,_,_=>False
 | _,_,_=>False
variable {P:Program} {f:Nat} {fn:Func} {co:Code}
end
attribute [push_cast] adH List.isEmpty_nil List.isEmpty_cons Tq fp0 fp1 fp2 T.ren T.self iW Qg tN Ad ab4
end Go.Am
end

section
namespace Go.Am
attribute [push_cast] nz Nm.tyd
structure RK (P:Program) (cs:CT) (all:List Oper) (r:List Oper) (s:S) (k:S->Prop):Prop where
 out:nE P cs all r s k
section
variable {P:Program} {cs:CT} {all:List Oper} {g:G} {Q:Exit->S->Prop}
theorem stA {o:Oper} {r:List Oper} {s s':S} {k:S->Prop} (h:RK P cs all r s' k)
  (e:∀ K:S->Prop,K s'->Qc P cs all o s K:=by intro K hK; simp only [push_cast,↓reduceIte,Nat.reduceAdd,Nat.reduceSub,Nat.reduceMul,Nat.reduceEqDiff,Nat.reduceLeDiff,reduceCtorEq,Nat.reduceBEq,Nat.reduceLT,Int.reduceToNat,Int.reduceLE,hx]; intros; exact hK):RK P cs all (o::r) s k:=
 ⟨Q9 fun K hK=>e K (hK _ h.out)⟩
theorem enA {s s1:S} {ks:List Nat} {ds:List Nm} (h:Q .normal s1)
  (e:∀ K:S->Prop,K s1->K (s.cut ks ds):=by intro K hK; simp only [push_cast,↓reduceIte,Nat.reduceAdd,Nat.reduceSub,Nat.reduceMul,Nat.reduceEqDiff,Nat.reduceLeDiff,reduceCtorEq,Nat.reduceBEq,Nat.reduceLT,Int.reduceToNat,Int.reduceLE]; exact hK):RK P cs all [] s (fun s'=>Q .normal (s'.cut ks ds)):=⟨e (Q .normal) h⟩
theorem lfA {s:S} {k:S->Prop}
  (e:k s:=by simp only [push_cast,↓reduceIte,Nat.reduceAdd,Nat.reduceSub,Nat.reduceMul,Nat.reduceEqDiff,Nat.reduceLeDiff,reduceCtorEq,Nat.reduceBEq,Nat.reduceLT,Int.reduceToNat,Int.reduceLE,hx]):RK P cs all [] s k:=⟨e⟩
theorem rgA (ks:List Nat) (ds:List Nm) {s:S} {id:Nat} {l:List Oper} (h:RK P cs l l s (fun s'=>Q .normal (s'.cut ks ds)))
  (hcs:cs.Ok P:=by exact hcs)
  (hc:oN g.nt l l=true:=by rw [hn]; rfl):AW P g (.region id l.toArray false) Q s:=
 ZD ks ds hcs hc h.out
theorem cdA {t:Tmp} {x y:Code} {s:S} {b:Bool} {A B:Prop} (h:if b=true then A else B) (hc:aK s.t t=.one (.c (.d (.bool b)))) (h1:A->AW P g x Q s) (h2:B->AW P g y Q s) (htb:t<TB:=by decide):AW P g (.cond (.tmp t) x y) Q s:=
 zb hc (fun hb=>h1 (by rw [if_pos hb] at h; exact h)) (fun hb=>h2 (by rw [if_neg (by rw [hb]; exact Bool.false_ne_true)] at h; exact h)) htb
theorem aa6 (b:UInt8):rB.enc b=[D.int .u8 ((b.toNat:Nat):Int)]:=rfl
theorem siA {a b:S}
  (e:a=b:=by first | (simp only [push_cast,↓reduceIte,Nat.reduceAdd,Nat.reduceSub,Nat.reduceMul,Nat.reduceEqDiff,Nat.reduceLeDiff,reduceCtorEq,Nat.reduceBEq,Nat.reduceLT,Int.reduceToNat,Int.reduceLE]; done) | simp only [push_cast,ad5,List.map_cons,List.map_nil,aa6,↓reduceIte,Nat.reduceAdd,Nat.reduceSub,Nat.reduceMul,Nat.reduceEqDiff,Nat.reduceLeDiff,reduceCtorEq,Nat.reduceBEq,Nat.reduceLT,Int.reduceToNat,Int.reduceLE]):a=b:=e
theorem fiA {p q:Prop} (h:q)
  (e:q->p:=by intro h; first | ((try simp only [push_cast,↓reduceIte,Nat.reduceAdd,Nat.reduceSub,Nat.reduceMul,Nat.reduceEqDiff,Nat.reduceLeDiff,reduceCtorEq,Nat.reduceBEq,Nat.reduceLT,Int.reduceToNat,Int.reduceLE]); intros; exact h) | (simp only [push_cast,↓reduceIte,Nat.reduceAdd,Nat.reduceSub,Nat.reduceMul,Nat.reduceEqDiff,Nat.reduceLeDiff,reduceCtorEq,Nat.reduceBEq,Nat.reduceLT,Int.reduceToNat,Int.reduceLE] at h ⊢; exact h)):p:=e h
theorem JG {p q F:Prop} (ho:p) (hx:F)
  (e:p->q:=by intro h; first | (simp only [push_cast,↓reduceIte,Nat.reduceAdd,Nat.reduceSub,Nat.reduceMul,Nat.reduceEqDiff,Nat.reduceLeDiff,reduceCtorEq,Nat.reduceBEq,Nat.reduceLT,Int.reduceToNat,Int.reduceLE] at h; exact h) | exact h):q/\p/\F:=⟨e ho,ho,hx⟩
end
end Go.Am
end
