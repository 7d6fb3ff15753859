/-
  Part 10: AmWalk · AmPtrCon · AmOwn · AmPtrFn · AmAuto · AmArr · AmSem · AmData · AmU · AmMp · AmE1 · AmE2.
-/
import Derived.Test.YtjccmeppajblpaaGreatDoorSn9
import Derived.IntWalk
set_option linter.unusedSimpArgs false
set_option linter.unusedVariables false
set_option linter.unusedSectionVars false
set_option linter.unnecessarySimpa false
section
namespace Go.Am
def sW (ks:List Nat) (t:List (Nat×AV)):List (Nat×AV):=ks.map fun k=>(k,aE t k)
def S.drops:List Nm->S->S
 | [],s=>s
 | n::ns,s=>S.drops ns (s.drop n)
def S.cut (ks:List Nat) (ds:List Nm) (s:S):S:=S.drops ds ⟨sW ks s.t,s.m⟩
theorem tT (t:List (Nat×AV)) (i:Nat):∀ ks:List Nat,aE (sW ks t) i=aE t i\/aE (sW ks t) i=.any
 | []=>.inr rfl
 | k::ks=>by
  simp only [sW,List.map_cons,aE];by_cases h:k=i
  ·subst h; rw [if_pos rfl]; exact .inl rfl
  ·rw [if_neg h]; exact tT t i ks
theorem La {g:G} {s:S} {a:Act} {w:World} {H:FH} {γ:Gam} {F:Nm->Fp} (ks:List Nat) (h:RX g s a w H γ F):RX g ⟨sW ks s.t,s.m⟩ a w H γ F:=by
 refine ⟨h.mem,h.fr,h.nt,h.df,fun i=>?_⟩;show AR w H γ s.m (aE (sW ks s.t) i) _
 rcases tT s.t i ks with e | e
 ·rw [e]; exact h.t i
 ·rw [e]; trivial
theorem A0 {g:G} {a:Act} {w:World} {H:FH} {γ:Gam} {F:Nm->Fp}:∀ (ds:List Nm) {s:S},RX g s a w H γ F->RX g (S.drops ds s) a w H γ F
 | [],_,h=>h
 | n::ns,_,h=>A0 ns (lb h n)
theorem Po {g:G} {s:S} {a:Act} {w:World} (ks:List Nat) (ds:List Nm) (h:R g s a w):R g (s.cut ks ds) a w:=by
 obtain ⟨H,γ,F,h⟩:=h;exact ⟨H,γ,F,A0 ds (La ks h)⟩
section
variable {P:Program} {cs:CT} {g:G} {Q:Exit->S->Prop} {s:S}
theorem Nw {c:Code} {f:S->S} (hf:∀ s a w,R g s a w->R g (f s) a w) (h:AW P g c (fun e s=>match e with | .normal=>Q .normal (f s) | e=>Q e s) s):AW P g c Q s:=fun a w hR=>
 Code.wp_mono (fun e a' w' ⟨s',h1,h2⟩=>by
  cases e with
  | normal=>exact ⟨_,h1,hf _ _ _ h2⟩
  | _=>exact ⟨s',h1,h2⟩) (h a w hR)
theorem QV (ks:List Nat) (ds:List Nm) (hcs:cs.Ok P) {id:Nat} {l:List Oper} (hc:zc g.nt l l=true) (h:qR P cs l l s (fun s'=>Q .normal (s'.cut ks ds))):AW P g (.region id l.toArray false) Q s:=
 Nw (f:=S.cut ks ds) (fun _ _ _ h=>Po ks ds h) (Qw hcs hc h)
def S.one (s:S) (d:Nat) (v:AV):S:=⟨(d,v)::s.t,s.m⟩
end
structure Rw (α:Type) where
 enc:α->List D
 dec:List D->Option α
 inv:∀ l x,dec l=some x->l=enc x
structure Cd (α:Type) where
 enc:α->AV1
 dec:AV1->Option α
 inv:∀ v x,dec v=some x->v=enc x
def dX {α:Type} (c:Rw α):List (List D)->Option (List α)
 | []=>some []
 | r::rs=>match c.dec r with
  | some x=>match dX c rs with
   | some xs=>some (x::xs)
   | none=>none
  | none=>none
theorem aY {α:Type} {c:Rw α}:∀ {l:List (List D)} {xs:List α},dX c l=some xs->l=xs.map c.enc
 | [],xs,h=>by simp only [dX,SJ] at h; subst h; rfl
 | r::rs,xs,h=>by
  simp only [dX] at h;cases h1:c.dec r with
  | none=>rw [h1] at h; simp at h
  | some x=>
   rw [h1] at h;cases h2:dX c rs with
   | none=>rw [h2] at h; simp at h
   | some ys=>
    rw [h2] at h;simp only [SJ] at h;subst h;rw [c.inv r x h1,aY h2]; rfl
def tds:List T->Option (List D)
 | []=>some []
 | .d x::ts=>match tds ts with
  | some xs=>some (x::xs)
  | none=>none
 | _=>none
theorem FA:∀ {ts:List T} {xs:List D},tds ts=some xs->ts=xs.map T.d
 | [],xs,h=>by simp only [tds,SJ] at h; subst h; rfl
 | .d x::ts,xs,h=>by
  simp only [tds] at h;cases h2:tds ts with
  | none=>rw [h2] at h; simp at h
  | some ys=>
   rw [h2] at h;simp only [SJ] at h;subst h;rw [FA h2]; rfl
 | .nil::_,_,h=>by simp [tds] at h
 | .ow _ _::_,_,h=>by simp [tds] at h
 | .el _ _::_,_,h=>by simp [tds] at h
 | .pl _::_,_,h=>by simp [tds] at h
 | .rf _::_,_,h=>by simp [tds] at h
 | .any::_,_,h=>by simp [tds] at h
def PZ (k:IntKind):AV1->Option Int
 | .c (.d (.int k' n))=>if k'=k then some n else none
 | _=>none
def cI (k:IntKind):Cd Int where
 enc n:=.c (.d (.int k n))
 dec:=PZ k
 inv v x h:=by
  unfold PZ at h;split at h
  ·split at h
   ·rename_i e; subst e; simp only [SJ] at h; subst h; rfl
   ·simp at h
  ·simp at h
def Rx:AV1->Option Bool
 | .c (.d (.bool b))=>some b
 | _=>none
def cB:Cd Bool where
 enc b:=.c (.d (.bool b))
 dec:=Rx
 inv v x h:=by unfold Rx at h; split at h <;> simp at h; subst h; rfl
def RU:AV1->Option (List UInt8)
 | .c (.d (.str b))=>some b
 | _=>none
def cS:Cd (List UInt8) where
 enc b:=.c (.d (.str b))
 dec:=RU
 inv v x h:=by unfold RU at h; split at h <;> simp at h; subst h; rfl
def Pp {α:Type} (c:Rw α):AV1->Option (List α)
 | .c (.d (.li l))=>dX c l
 | _=>none
def cL {α:Type} (c:Rw α):Cd (List α) where
 enc l:=.c (.d (.li (l.map c.enc)))
 dec:=Pp c
 inv v x h:=by
  unfold Pp at h; split at h
  ·rw [aY h]
  ·simp at h
def Rq {α:Type} (c:Rw α):AV1->Option α
 | .agg ts=>match tds ts with
  | some l=>c.dec l
  | none=>none
 | _=>none
def cA {α:Type} (c:Rw α):Cd α where
 enc x:=.agg ((c.enc x).map T.d)
 dec:=Rq c
 inv v x h:=by
  unfold Rq at h;split at h
  ·rename_i ts;cases h1:tds ts with
   | none=>rw [h1] at h; simp at h
   | some l=>rw [h1] at h; rw [FA h1,c.inv _ _ h]
  ·simp at h
def PC:List D->Option (List UInt8)
 | [.str b]=>some b
 | _=>none
def rS:Rw (List UInt8) where
 enc b:=[.str b]
 dec:=PC
 inv l x h:=by unfold PC at h; split at h <;> simp at h; subst h; rfl
def Pz (k:IntKind):List D->Option Int
 | [.int k' n]=>if k'=k then some n else none
 | _=>none
def rI (k:IntKind):Rw Int where
 enc n:=[.int k n]
 dec:=Pz k
 inv l x h:=by
  unfold Pz at h;split at h
  ·split at h
   ·rename_i e; subst e; simp only [SJ] at h; subst h; rfl
   ·simp at h
  ·simp at h
theorem Ql (a:List UInt8):rS.dec [.str a]=some a:=rfl
section
variable {α β γ δ ρ:Type}
def fn0 (r:ρ->AV) (v:ρ):List AV->(AV->Prop)->Prop
 | [],K=>K (r v)
 | _,_=>False
def fn1 (a:Cd α) (r:ρ->AV) (pre:α->Prop) (f:α->ρ):List AV->(AV->Prop)->Prop
 | [.one x],K=>match a.dec x with
  | some x=>pre x/\K (r (f x))
  | none=>False
 | _,_=>False
def fn2 (a:Cd α) (b:Cd β) (r:ρ->AV) (pre:α->β->Prop) (f:α->β->ρ):List AV->(AV->Prop)->Prop
 | [.one x,.one y],K=>match a.dec x,b.dec y with
  | some x,some y=>pre x y/\K (r (f x y))
  | _,_=>False
 | _,_=>False
def fn3 (a:Cd α) (b:Cd β) (c:Cd γ) (r:ρ->AV) (pre:α->β->γ->Prop) (f:α->β->γ->ρ):List AV->(AV->Prop)->Prop
 | [.one x,.one y,.one z],K=>match a.dec x,b.dec y,c.dec z with
  | some x,some y,some z=>pre x y z/\K (r (f x y z))
  | _,_,_=>False
 | _,_=>False
def o1 (c:Cd ρ) (x:ρ):AV:=.one (c.enc x)
def o2 (a:Cd α) (b:Cd β) (x:α×β):AV:=.tup [a.enc x.1,b.enc x.2]
def o3 (a:Cd α) (b:Cd β) (c:Cd γ) (x:α×β×γ):AV:=.tup [a.enc x.1,b.enc x.2.1,c.enc x.2.2]
variable {P:Program} {f:Nat} {fn:Func} {c:Code}
theorem OO {a:Cd α} {r:ρ->AV} {pre:α->Prop} {F:α->ρ} (hf:P.funcs[f]? = some fn) (hname:(fn.name == "runtime.NumGoroutine")=false) (hb:fn.body=some c) (hn:1<=fn.ntmps)
  (h:∀ (g:G) (x:α) (K:AV->Prop),g.nt=fn.ntmps->pre x->K (r (F x))->AW P g c (Eo P fn.results.toList K) ⟨aL 0 [.one (a.enc x)],[]⟩):Con P f (lL (fn1 a r pre F)):=by
 refine lS hf hname hb _ (fun avs K h=>?_) (fun g avs K hg hφ=>?_)
 ·unfold fn1 at h; split at h
  ·exact hn
  ·exact h.elim
 ·unfold fn1 at hφ; split at hφ
  ·rename_i x;split at hφ
   ·rename_i y hy; rw [a.inv _ _ hy]; exact h g y K hg hφ.1 hφ.2
   ·exact hφ.elim
  ·exact hφ.elim
end
theorem CT.ok0 {P:Program}:CT.Ok P []:=fun x hx=>by simp at hx
theorem CT.cons {P:Program} {f:Nat} {C:CK1} {cs:CT} (h:Con P f C) (hs:cs.Ok P):CT.Ok P ((f,C)::cs):=fun x hx=>by
 simp only [SS] at hx;rcases hx with rfl | hx
 ·exact h
 ·exact hs x hx
theorem Qs {α:Type} (l:List α) (d:α) {i:Nat} (h:i<l.length):l[i]? = some (l.getD i d):=by
 rw [List.getD,SK h]; rfl
theorem FZ {α β:Type} [Inhabited α] (f:α->β) (l:List α) {i:Nat} (h:i<l.length):(l.map f)[i]? = some (f (l.getD i default)):=by
 rw [SM,Qs l default h]; rfl
theorem wrap_i64 {n:Int} (h1:-9223372036854775808<=n) (h2:n<=9223372036854775807):IntKind.i64.wrap n=n:=IntWalk.i64_in n ⟨h1,h2⟩
theorem aw {i:Nat} (h:i < 9223372036854775807):IntKind.i64.wrap ((i:Int)+1)=((i+1:Nat):Int):=by
 rw [wrap_i64 (by omega) (by omega)]; rfl
def FM (P:Program) (cs:CT) (all:List Oper) (o:Oper) (s:S) (K:S->Prop):Prop:=
 match o.guard with
 | none=>opK P cs o s K
 | some (j,want)=>match (all[j]?).bind (·.dst) with
  | some d=>match aE s.t d with
   | .one (.c (.d (.bool c)))=>gsel c want (opK P cs o (s.put (some d) (sc (.bool want))) K) (K ((s.put (some d) (sc (.bool (!want)))).put o.dst (.tup [])))
   | .tup []=>K (s.put o.dst (.tup []))
   | _=>False
  | none=>False
section
variable {P:Program} {cs:CT} {all:List Oper}
theorem I2 {o:Oper} {r:List Oper} {s:S} {k:S->Prop} (h:∀ K:S->Prop,(∀ s',qR P cs all r s' k->K s')->FM P cs all o s K):qR P cs all (o::r) s k:=by
 have h:=h (fun s'=>qR P cs all r s' k) (fun _ h=>h)
 unfold FM at h;simp only [qR];cases hg:o.guard with
 | none=>rw [hg] at h; exact h
 | some q=>
  rw [hg] at h;exact h
def RW (P:Program) (all:List Oper) (i:Nat) (fz:Bool) (s:S) (K:S->Prop):Prop:=
 match all[i]? with
 | none=>False
 | some o=>gK all o s (fun s=>(fz=true->eO s o)/\qK P o s fun v=>K (s.put o.dst v)) K
end
theorem Qc (b:List UInt8):rS.enc b=[.str b]:=rfl
theorem QT (k:IntKind) (n:Int):(rI k).enc n=[.int k n]:=rfl
theorem Qp (k:IntKind) (n:Int):(cI k).enc n=.c (.d (.int k n)):=rfl
theorem P4 (b:Bool):cB.enc b=.c (.d (.bool b)):=rfl
theorem PX (b:List UInt8):cS.enc b=.c (.d (.str b)):=rfl
theorem Qb {α:Type} (c:Rw α) (l:List α):(cL c).enc l=.c (.d (.li (l.map c.enc))):=rfl
theorem QE {α:Type} (c:Rw α) (x:α):(cA c).enc x=.agg ((c.enc x).map T.d):=rfl
theorem P6 (k:IntKind) (n:Int):(cI k).dec (.c (.d (.int k n)))=some n:=by simp [cI,PZ]
theorem Qj (b:Bool):cB.dec (.c (.d (.bool b)))=some b:=rfl
theorem P5 (b:List UInt8):cS.dec (.c (.d (.str b)))=some b:=rfl
theorem Qe {α:Type} (c:Rw α) (l:List (List D)):(cL c).dec (.c (.d (.li l)))=dX c l:=rfl
theorem PU {α:Type} (c:Rw α) (ts:List T):(cA c).dec (.agg ts)=match tds ts with
  | some l=>c.dec l
  | none=>none:=rfl
theorem SA (x:D):sc x=.one (.c (.d x)):=rfl
attribute [push_cast] lc List.append_eq decide_false decide_true SV pz gy eqD TD Option.isSome_some List.toList_toArray T.owned T.ment T.toD lK fE List.set_cons_zero List.set_cons_succ mkT inK aH jR fA nv my gA g9 Ah aP bd B5 thr Pl.offs Option.map_some T4 TX List.replicate_zero List.zipWith_cons_cons List.zipWith_nil_left List.zipIdx_cons List.zipIdx_nil Tz TZ TV uD T.frz BL Sh.isFr TK.isSS bne List.isPrefixOf List.cons_beq_cons Nm.loc.injEq Nm.gh.injEq Nm.out.injEq gsel ne_eq not_false_eq_true not_true_eq_false Nat.one_ne_zero List.length_map FM opK ev cst mW aL aE lq S.put xa ite_true if_true if_false SU Te mK rL Cv DK qD Bool.not_false UO Um Bool.and_false TH Ua Bool.or_true Bool.or_false Bool.true_or TW Bool.not_not Tu TG true_and and_true forall_const Ta BG eX eL og false_and and_false false_implies true_implies implies_true decide_eq_true_eq decide_eq_false_iff_not TM Bool.not_eq_false' beq_self_eq_true sW S.cut S.drops S.one List.map_cons List.map_nil SA Qc QT Qp P4 PX Qb QE P6 Qj P5 Qe PU tds dX Ql CT.get lL fn0 fn1 fn2 fn3 o1 o2 o3 g8 Bc K8 wM AV.isFz AV1.isFz T.isFz AV.map AV1.map T.canon S6 List.all_nil S.drop iZ au AV.kill AV1.kill T.kill bv aW aa bD S.fresh S.root RW gK QS qK eO CH iF unK rh okv okvs List.drop_zero List.take_zero List.drop_succ_cons List.take_succ_cons List.take_nil List.drop_nil Eo nF eI ly dV lP I0 dx T.sure qS qJ ct gn room nV Pl.add atK pK wb Lc GB j8 fo iP gX overw chunk T.fz
end Go.Am
end

section
namespace Go.Am
def T.ren (a b:Nm):T->T
 | .pl p=>.pl ⟨if p.root=a then b else p.root,p.off,p.path⟩
 | t=>t
def T.self (a:Nm):T->Bool
 | .pl p=>decide (p.root=a)&&p.path.isEmpty
 | .rf _=>false
 | _=>true
def gO (r:Nm) (rf:Bool) (p:Pl):Bool:=decide (p.root=r)&&(rf||!p.path.isEmpty)
def sP (j:Nat) (P:Program) (s:S) (rs:List ResultVar) (K:AV->List T->Prop):Prop:=
 match aa (eI s rs).m (.out j) with
 | some ⟨true,cells⟩=>nF P s rs (fun v=>K v cells)
 | _=>False
def Re (j:Nat) (P:Program) (rs:List ResultVar) (K:AV->List T->Prop):Exit->S->Prop
 | .normal,s=>sP j P s rs K
 | .ret,s=>sP j P s rs K
 | _,_=>False
def MU (j:Nat) (φ:List AV->List T->(AV->List T->Prop)->Prop):CK1:=fun s ops k=>
 match ops with
 | []=>False
 | o::os=>
  let s1:=g8 s (os.map (ev s))
  match ev s1 o with
  | .one (.c (.pl ⟨r,0,[]⟩))=>match aa s1.m r with
   | some ⟨true,cells⟩=>(Nm.out j).tyd=r.tyd/\cells.all (T.self r)=true/\(os.map (ev s1)).all AV.isFz=true /\
     φ (os.map fun x=>(ev s1 x).map T.canon) (cells.map (T.ren r (.out j))) (fun res cells'=>cells'.length=cells.length/\cells'.all (T.self (.out j))=true /\
      k ⟨iZ (gO r) s1.t,(r,⟨true,cells'.map (T.ren (.out j) r)⟩)::au (bv r) (aW s1.m r)⟩ res)
   | _=>False
  | _=>False
section
variable {w w':World} {H H':FH} {γ γ':Gam} {m m':Mm}
theorem j7 {n n':Nm} {cells:List T} {f:Fp} {b:Nat} (h:aV w H γ m n ⟨true,cells⟩ f) (hn:n'.tyd=n.tyd) (hs:cells.all (T.self n)=true) (hγ:γ n=.blk b) (hm:aa m n=some ⟨true,cells⟩)
  (hγ':γ' n'=.blk b) (hm':∃ cells',aa m' n'=some ⟨true,cells'⟩/\cells'.length=cells.length):aV w H γ' m' n' ⟨true,cells.map (T.ren n n')⟩ f:=by
 unfold aV at h ⊢;rw [if_pos rfl] at h ⊢;obtain ⟨b0,cs,ty,fz,g,h1,h2,h3,h4,h5,h6⟩:=h;rw [hγ] at h1;obtain rfl:b=b0:=by simpa using h1
 refine ⟨b,cs,ty,fz,g,hγ',h2,⟨h3.1,fun t ht=>h3.2 t (by rw [<- hn]; exact ht)⟩,by simpa using h4,?_,h6⟩;unfold Ts at h5 ⊢;rw [List.length_map];obtain ⟨cells',hm1,hm2⟩:=hm';have key:∀ (ss:List Unit) (xs:List T) (f:Fp) (vs:List Value),xs.all (T.self n)=true->Cs (fun _ t=>TR w H γ m t) ss xs f vs->Cs (fun _ t=>TR w H γ' m' t) ss (xs.map (T.ren n n')) f vs:=by
  intro ss xs;induction xs generalizing ss with
  | nil=>intro f vs _ h; cases ss <;> exact h
  | cons x xs ih=>
   intro f vs hx h;simp only [S6,SL] at hx;cases ss with
   | nil=>exact h.elim
   | cons u ss=>
    obtain ⟨v,r,f1,f2,hv,hf,k1,k2⟩:=h;refine ⟨v,r,f1,f2,hv,hf,?_,ih ss f2 r hx.2 k2⟩;cases x with
    | pl p=>
     obtain ⟨root,off,path⟩:=p;have hp:=hx.1
     simp only [T.self,SL,decide_eq_true_eq,List.isEmpty_iff] at hp;obtain ⟨rfl,rfl⟩:=hp;obtain ⟨z,hok,a,ha,e⟩:=k1;simp only [T.ren,if_true];refine ⟨z,?_,a,?_,e⟩
     ·rw [aj] at hok ⊢;obtain ⟨r0,q1,q2⟩:=hok;rw [hm] at q1;obtain rfl:=Option.some.inj q1;exact ⟨_,hm1,by
       have q2':off<cells.length:=q2
       show off<cells'.length
       omega⟩
     ·simp only [plA] at ha ⊢;rw [hγ] at ha;rw [hγ']; exact ha
    | rf p=>simp [T.self] at hx
    | d x=>exact k1
    | nil=>exact k1
    | ow sub l=>exact k1
    | mp l=>exact k1
    | el row o=>exact k1
    | any=>exact k1
 exact key _ _ _ _ hs h5
theorem fi {F:Nm->Fp} {m:Mm} {n:Nm} {r:Root} (hk:aa m n=some r) (c:Nat):tot F (aW m n) c+F n c=tot F m c:=by
 induction m with
 | nil=>simp [aa] at hk
 | cons x m ih=>
  obtain ⟨k,y⟩:=x;simp only [aa,aW] at hk ⊢;by_cases hkn:k=n
  ·subst hkn; rw [if_pos rfl,bg]; dsimp only; omega
  ·rw [if_neg hkn] at hk;rw [if_neg hkn,bg,bg];have:=ih hk
   dsimp only at this ⊢;omega
theorem tW {m:Mm} {n:Nm} (hk:(m.map (·.1)).Nodup):aa (au (bv n) (aW m n)) n=none:=by
 rw [iz,kB];exact iu hk
end
section
variable {P:Program}
theorem BJ {g:G} {s:S} {a:Act} {w:World} {H:FH} {γ:Gam} {F:Nm->Fp} (h:RX g s a w H γ F) (hex:g.ex=none) {fn:Func} {k:AV->Prop} (hk:nF P s fn.results.toList k) :
  ∃ y v H' F',(results fn a.tmps).run P w=.ok y w/\RX g (eI s fn.results.toList) a w H' γ F'/\AR w H' γ (eI s fn.results.toList).m v y/\v.isFz=true/\k (v.map T.canon):=by
 unfold nF at hk;obtain ⟨H1,F1,h1⟩:=nK fn.results.toList s H F h;obtain ⟨ys,xs,e1,e2,e3,e4⟩:=nY h1 hex hk;have hrun:(results fn a.tmps).run P w=.ok (if h:ys.toArray.size=1 then ys.toArray[0] else .tuple ys.toArray) w:=by
  rw [dJ,Uc];simp [e1]
 refine ⟨_,(match xs with | [x]=>.one x | xs=>.tup xs),H1,F1,hrun,h1,?_⟩
 match xs,ys,e2,e3 with
 | [],[],e2,e3=>exact ⟨⟨#[],by simp,trivial⟩,e3.1,e3.2⟩
 | [x],[y],e2,e3=>exact ⟨e2.1,e3.1,e3.2⟩
 | x1::x2::xs,y1::y2::ys,e2,e3=>exact ⟨⟨(y1::y2::ys).toArray,by simp,by simpa using e2⟩,e3.1,e3.2⟩
theorem OI {j:Nat} {f:Nat} {fn:Func} {c:Code} (hf:P.funcs[f]? = some fn) (hname:(fn.name == "runtime.NumGoroutine")=false) (hb:fn.body=some c) (φ:List AV->List T->(AV->List T->Prop)->Prop)
  (hlen:∀ avs cells K,φ avs cells K->avs.length+1<=fn.ntmps)
  (hbody:∀ (g:G) avs cells K,g.nt=fn.ntmps->φ avs cells K->AW P g c (Re j P fn.results.toList K) ⟨aL 0 (.one (.c (.pl ⟨.out j,0,[]⟩))::avs),[(.out j,⟨true,cells⟩)]⟩):Con P f (MU j φ):=by
 refine ⟨fun args w=>?_,?_⟩
 ·have h1:fn.name ≠ "runtime.NumGoroutine" := by simpa using hname
  simp [callFunc,hf,h1,hb]
 ·intro g s a w H γ F ops k hX hops hK;cases ops with
  | nil=>exact hK.elim
  | cons o os=>
  unfold MU at hK;dsimp only at hK;obtain ⟨H1,F1,h1⟩:=iI (os.map (ev s)) s H F hX;generalize g8 s (os.map (ev s))=s1 at hK h1;have hops':ay o=true/\os.all ay=true:=by simpa using hops
  split at hK
  rotate_left
  ·exact hK.elim
  rename_i r heo;split at hK
  rotate_left
  ·exact hK.elim
  rename_i cells hroot;obtain ⟨htyd,hself,hfz,hφ⟩:=hK;have hevo:=aD h1 hops'.1
  rw [heo] at hevo;obtain ⟨_,hokp,ad,had,hval⟩:=hevo;have hR:=h1.mem.roots _ (ab hroot)
  obtain ⟨b,hγr⟩:∃ b,γ r=.blk b:=by
   have hR2:=hR
   unfold aV at hR2;rw [if_pos rfl] at hR2;obtain ⟨b,_,_,_,_,e,_⟩:=hR2;exact ⟨b,e⟩
  have had':ad=⟨b,0,none⟩:=by
   simp only [plA,hγr,SJ] at had; exact had.symm
  subst had';have hoff:0<cells.length:=by
   rw [aj] at hokp;obtain ⟨r0,q1,q2⟩:=hokp;dsimp only at q1;rw [hroot] at q1;obtain rfl:=Option.some.inj q1;exact q2
  have hle:=hlen _ _ _ hφ
  rw [List.length_map] at hle
  let γc:Gam:=fun n=>if n=.out j then .blk b else γ n
  let mc:Mm:=[(.out j,⟨true,cells.map (T.ren r (.out j))⟩)]
  let g1:G:=⟨fn.ntmps,w,H1,F1 r,fun i=>if i=j then some b else none,none,[]⟩
  have hγc:γc (.out j)=.blk b:=by simp [γc]
  have hRc:aV w H1 γc mc (.out j) ⟨true,cells.map (T.ren r (.out j))⟩ (F1 r):=
   j7 hR htyd hself hγr hroot hγc ⟨cells.map (T.ren r (.out j)),by simp [mc,aa],by simp⟩
  have hge:∀ c,F1 r c<=tot F1 s1.m c:=fun c=>aQ (F:=F1) (ab hroot) c
  let Fc:Nm->Fp:=fun _=>F1 r
  have htc:∀ c,tot Fc mc c=F1 r c:=fun c=>(Uf (F1 r c))
  have hmc:Mem w H1 γc mc Fc:=by
   refine ⟨h1.mem.agree,fun x hx=>?_,by simp [mc],fun c=>by rw [htc]; exact Th (hge c) (h1.mem.le1 c),fun c hc=>by rw [htc] at hc; exact h1.mem.lt c (by have:=hge c; omega),fun c hc=>by rw [htc] at hc; exact h1.mem.nofz c (by have:=hge c; omega)⟩;simp only [mc,SY] at hx;subst hx;exact hRc
  refine calls_of_wp hf hb (Code.wp_mono (fun e a' w' hl=>?_) (hbody g1 _ _ _ rfl hφ _ w ⟨H1,γc,Fc,?_⟩))
  ·obtain ⟨s',hq,H',γ',F',hX'⟩:=hl;have fin:sP j P s' fn.results.toList (fun res cells'=>cells'.length=cells.length/\cells'.all (T.self (.out j))=true /\
      k ⟨iZ (gO r) s1.t,(r,⟨true,cells'.map (T.ren (.out j) r)⟩)::au (bv r) (aW s1.m r)⟩ res) ->
     a'.defers=[]/\∃ v,(results fn a'.tmps).run P w'=.ok v w'/\∃ rr s'' av H'' γ'' F'',Ending.returned v=.returned rr/\k s'' av/\AR w' H'' γ'' s''.m av rr/\RX g s'' a w' H'' γ'' F'':=by
    intro hq;unfold sP at hq;split at hq
    rotate_left
    ·exact hq.elim
    rename_i cells' hout;obtain ⟨y,v,H2,F2,e1,e2,e3,e4,hl2,hs2,hk⟩:=BJ hX' rfl hq;generalize eI s' fn.results.toList=s2 at hout e2 e3;have hfr:=e2.fr
    dsimp only [g1] at hfr;have hd:=lb h1 r
    have hmdm:(s1.drop r).m=au (bv r) (aW s1.m r):=rfl
    have hdm:=hd.mem
    rw [hmdm] at hdm;generalize hmd0:au (bv r) (aW s1.m r)=md at hdm hk;have tdel:∀ c,tot F1 md c+F1 r c=tot F1 s1.m c:=fun c=>by
     rw [<- hmd0,aM]; exact fi hroot c
    have hsame:∀ c,tot F1 md c≠0->w'.heap[c]? = w.heap[c]? := fun c hc=>
     hfr.block c (h1.mem.lt c (by have:=tdel c; omega)) (by have:=tdel c; have:=h1.mem.le1 c; omega)
    have hnewc:∀ c,c<w.heap.size->F1 r c=0->H1 c=H2 c:=by
     intro c hc h0
     funext o
     cases hh:H1 c o with
     | some y=>rw [hfr.hold c o y hh]
     | none=>
      cases hh2:H2 c o with
      | none=>rfl
      | some y=>
       rcases hfr.hnew c o (by rw [hh2]; simp) hh with h' | h'
       ·exact absurd h0 h'
       ·omega
    have hKp:=bS (w':=w') hdm hsame
    have hmd:Mem w' H2 γ md F1:=by
     refine ⟨e2.mem.agree,fun x hx=>aF hKp hfr.hold rfl (fun c hc=>hsame c (by have:=aQ (F:=F1) hx c; omega)) (hdm.roots x hx),hdm.keys,hdm.le1,fun c hc=>by have:=hdm.lt c hc; have:=hfr.size; omega,fun c hc o=>?_⟩;rw [<- hnewc c (hdm.lt c hc) (by have:=tdel c; have:=h1.mem.le1 c; omega)]; exact hdm.nofz c hc o
    have hRout:=e2.mem.roots _ (ab hout)
    have hγ':γ' (.out j)=.blk b:=e2.df.2.1 j b (by simp [g1])
    have hnone:aa md r=none:=by rw [<- hmd0]; exact tW h1.mem.keys
    have hupd:upd γ r (.blk b)=γ:=by
     funext n
     by_cases hn:n=r
     ·subst hn; rw [bR,hγr]
     ·rw [gS hn]
    have hRr:aV w' H2 (upd γ r (.blk b)) ((r,⟨true,cells'.map (T.ren (.out j) r)⟩)::md) r ⟨true,cells'.map (T.ren (.out j) r)⟩ (F2 (.out j)):=
     j7 hRout htyd.symm hs2 hγ' hout bR ⟨cells'.map (T.ren (.out j) r),by simp only [aa,if_true],by simp⟩
    have hf1:∀ c,F2 (.out j) c<=tot F2 s2.m c:=fun c=>aQ (F:=F2) (ab hout) c
    have hf2:∀ c,F2 (.out j) c≠0->F1 r c≠0\/w.heap.size<=c:=fun c hc=>hfr.tt c (by have:=hf1 c; omega)
    have hmd0':∀ c,F2 (.out j) c≠0->tot F1 md c=0:=fun c hc=>by
     rcases hf2 c hc with h' | h'
     ·have:=tdel c; have:=h1.mem.le1 c; omega
     ·rcases S7 (tot F1 md c) with h0 | h0
      ·exact h0
      ·have:=hdm.lt c (by omega); omega
    obtain ⟨hM,htot⟩:=mT hmd (n:=r) (rc:=.blk b) (r:=⟨true,cells'.map (T.ren (.out j) r)⟩) (f:=F2 (.out j)) hnone hRr (fun c=>by
      by_cases hc:F2 (.out j) c=0
      ·have:=hdm.le1 c; omega
      ·have:=hmd0' c hc; have:=e2.mem.le1 c; have:=hf1 c; omega)
     (fun c hc=>⟨e2.mem.lt c (by have:=hf1 c; omega),e2.mem.nofz c (by have:=hf1 c; omega)⟩)
    rw [hupd] at hM;have hFr:Fr w H1 (tot F1 s1.m) w' H2 (tot (upd F1 r (F2 (.out j))) ((r,⟨true,cells'.map (T.ren (.out j) r)⟩)::md)):=by
     refine ⟨hfr.size,hfr.os,hfr.tape,hfr.output,fun c hc h0=>hfr.block c hc (by have:=hge c; omega),hfr.hold,fun c o h2 h3=>?_,fun c hc=>?_,hfr.nz⟩
     ·rcases hfr.hnew c o h2 h3 with h' | h'
      ·exact .inl (by have:=hge c; omega)
      ·exact .inr h'
     ·rw [htot] at hc;by_cases h0:F2 (.out j) c=0
      ·exact .inl (by have:=tdel c; omega)
      ·rcases hf2 c h0 with h' | h'
       ·exact .inl (by have:=hge c; omega)
       ·exact .inr h'
    have hKB:KeepsB (gO r) w γ s1.m w' γ ((r,⟨true,cells'.map (T.ren (.out j) r)⟩)::md):=by
     have hKa:=fa (w:=w') (γ:=γ) (rc:=.blk b) (r:=⟨true,cells'.map (T.ren (.out j) r)⟩) hnone
     rw [hupd] at hKa;have hKd:KeepsB (bv r) w γ s1.m w γ md:=by rw [<- hmd0]; exact db
     constructor
     ·intro q hbq hq;by_cases hqr:q.root=r
      ·obtain ⟨qr,qo,qp⟩:=q;dsimp only at hqr;subst hqr;simp only [gO,decide_true,TH,TW,Bool.not_eq_false',List.isEmpty_iff] at hbq;subst hbq;refine ⟨?_,by simp only [plA]⟩;rw [aj] at hq ⊢;obtain ⟨r0,q1,q2⟩:=hq;dsimp only at q1 q2;rw [hroot] at q1;obtain rfl:=Option.some.inj q1;refine ⟨⟨true,cells'.map (T.ren (.out j) qr)⟩,by simp only [aa,if_true],?_⟩;have q2':qo<cells.length:=q2
       show qo < (cells'.map (T.ren (.out j) qr)).length
       simp; omega
      ·obtain ⟨k1,k2⟩:=hKd.pl q (by simp [bv,hqr]) hq;obtain ⟨k3,k4⟩:=hKp.pl q k1;obtain ⟨k5,k6⟩:=hKa.pl q k3;exact ⟨k5,k6.trans (k4.trans k2)⟩
     ·intro q hbq hq;have hqr:q.root≠r:=by
       intro e;simp [gO,e] at hbq
      obtain ⟨k1,k2⟩:=hKd.rf q (by simp [bv,hqr]) hq;obtain ⟨k3,k4⟩:=hKp.rf q k1;obtain ⟨k5,k6⟩:=hKa.rf q k3;exact ⟨k5,k6.trans (k4.trans k2)⟩
    refine ⟨e2.df.1,y,e1,y,_,v.map T.canon,H2,γ,_,rfl,hk,cZ bK (gY (fun _ _ _ h=>h) e4 e3),dP h1 hM hFr (fun i=>?_) (fun _=>rfl)⟩;rw [iJ];exact mJ hKB hfr.hold (h1.t i)
   cases e with
   | normal=>exact fin hq
   | ret=>exact fin hq
   | _=>exact hq.elim
  ·refine ⟨hmc,⟨SN _,rfl,rfl,rfl,fun _ _ _=>rfl,fun _ _ _ h=>h,fun b o h2 h3=>absurd h3 h2,fun c hc=>.inl (by rw [htc] at hc; exact hc),gk⟩,?_,⟨rfl,fun i b' e=>?_,dc h1⟩,fun i=>?_⟩
   ·simp [g1]; omega
   ·simp only [g1] at e;split at e
    ·rename_i hj; subst hj; simp only [SJ] at e; subst e; exact hγc
    ·simp at e
   ·have hget:∀ x,(o::os)[i]? = some x->(((o::os).map a.eval).toArray++Array.replicate (fn.ntmps - ((o::os).map a.eval).toArray.size) undef).getD i undef=a.eval x:=by
     intro x hx;rw [S5,Tx (by simp; have:=ae hx; simp at this; omega)];have e:((o::os).map a.eval)[i]? = some (a.eval x):=by rw [SM,hx]; rfl
     rw [List.getElem?_toArray,e]; rfl
    cases i with
    | zero=>
     rw [G.tv_none rfl,hget o rfl,hval];simp only [aL,aE,if_true];refine ⟨fun _=>rfl,?_,⟨b,0,none⟩,?_,rfl⟩
     ·rw [aj];refine ⟨⟨true,cells.map (T.ren r (.out j))⟩,by simp [mc,aa],?_⟩;show 0 < (cells.map (T.ren r (.out j))).length
      simpa using hoff
     ·simp only [plA,hγc]
    | succ i=>
     have hent:aE (aL 0 (.one (.c (.pl ⟨.out j,0,[]⟩))::os.map fun x=>(ev s1 x).map T.canon)) (i+1)=((os.map fun x=>(ev s1 x).map T.canon)[i]?).getD .any:=by
      simp only [aL,aE];rw [if_neg (by omega)];rw [cv];simp
     show AR w H1 γc mc (aE (aL 0 (.one (.c (.pl ⟨.out j,0,[]⟩))::os.map fun x=>(ev s1 x).map T.canon)) (i+1)) _
     rw [hent,SM];cases hi:os[i]? with
     | none=>simp only [T4,Ud]; trivial
     | some x=>
      have hx:=aD h1 (SQ.1 hops'.2 x (Tb hi))
      simp only [Option.map_some,Option.getD_some];have hz:(ev s1 x).isFz=true:=SQ.1 hfz (ev s1 x) (Tc (Tb hi))
      rw [G.tv_none rfl,hget x (by simpa using hi)];exact cZ bK (gY (fun _ _ _ h=>h) hz hx)
end
end Go.Am
end

section
namespace Go.Am
section
variable {w:World} {H:FH} {γ:Gam} {m:Mm} {F:Nm->Fp}
theorem vB {α β:Type} {R:α->β->Fp->Value->Prop} {x':β}:∀ {ss:List α} {xs:List β} {f:Fp} {vs:List Value} {k:Nat} {x:β},xs[k]? = some x->(∀ s g v,R s x g v->R s x' g v)->Cs R ss xs f vs->Cs R ss (xs.set k x') f vs
 | [],[],_,_,_,_,hx,_,_=>by simp at hx
 | s::ss,y::xs,f,vs,0,x,hx,hR,h=>by
  obtain ⟨v,r,f1,f2,hv,hf,h1,h2⟩:=h;simp only [Tu,SJ] at hx;subst hx;exact ⟨v,r,f1,f2,hv,hf,hR _ _ _ h1,h2⟩
 | s::ss,y::xs,f,vs,k+1,x,hx,hR,h=>by
  obtain ⟨v,r,f1,f2,hv,hf,h1,h2⟩:=h;simp only [TG] at hx;exact ⟨v,r,f1,f2,hv,hf,h1,vB hx hR h2⟩
 | [],_::_,_,_,_,_,_,_,h=>h.elim
 | _::_,[],_,_,_,_,_,_,h=>h.elim
theorem Ci {n:Nm} {cells:List T} {bl:Bool} (hr:aa m n=some ⟨bl,cells⟩) {off:Nat} (hc:cells[off]? = some .nil) (sub:List Sh):Keeps w γ m w γ (bD m n ⟨bl,cells.set off (.ow sub [])⟩):=by
 constructor
 ·intro q hq;refine ⟨?_,rfl⟩;rw [aj] at hq ⊢;obtain ⟨r,h1,h2⟩:=hq;rw [dQ hr];by_cases hn:n=q.root
  ·subst hn;rw [if_pos rfl];rw [hr] at h1;obtain rfl:=Option.some.inj h1;refine ⟨_,rfl,?_⟩;obtain ⟨qr,qo,qp⟩:=q;cases qp with
   | nil=>
    have h2':qo<cells.length:=h2
    show qo < (cells.set off (.ow sub [])).length
    simpa using h2'
   | cons st u=>
    dsimp only [aG] at h2 ⊢;by_cases ho:off=qo
    ·subst ho; rw [hc] at h2; exact h2.elim
    ·rw [SW ho]; exact h2
  ·rw [if_neg hn]; exact ⟨r,h1,h2⟩
 ·intro q hq;refine ⟨?_,rfl⟩;rw [bn] at hq ⊢;obtain ⟨r,h1,h2⟩:=hq;rw [dQ hr];by_cases hn:n=q.root
  ·subst hn;rw [if_pos rfl];rw [hr] at h1;obtain rfl:=Option.some.inj h1;refine ⟨_,rfl,?_⟩;obtain ⟨qr,qo,qp⟩:=q;dsimp only [bm] at h2 ⊢;by_cases ho:off=qo
   ·subst ho; rw [hc] at h2; cases qp <;> exact h2.elim
   ·rw [SW ho]; exact h2
  ·rw [if_neg hn]; exact ⟨r,h1,h2⟩
end
def S.ownR (n:Nm) (off:Nat) (sub:List Sh) (s:S):S:=
 match aa s.m n with
 | some ⟨true,cells⟩=>match cells[off]? with
  | some .nil=>⟨s.t,bD s.m n ⟨true,cells.set off (.ow sub [])⟩⟩
  | _=>s
 | _=>s
theorem Ij {g:G} {s:S} {a:Act} {w:World} {H:FH} {γ:Gam} {F:Nm->Fp} (h:RX g s a w H γ F) (n:Nm) (off:Nat) (sub:List Sh):RX g (s.ownR n off sub) a w H γ F:=by
 unfold S.ownR;split
 ·rename_i cells hr;split
  ·rename_i hc;have hK:=Ci (w:=w) (γ:=γ) hr hc sub
   have hm:=h.mem
   refine ⟨⟨hm.agree,fun x hx=>?_,?_,fun b=>?_,fun b hb=>?_,fun b hb=>?_⟩,⟨h.fr.size,h.fr.os,h.fr.tape,h.fr.output,h.fr.block,h.fr.hold,h.fr.hnew,fun b hb=>?_,h.fr.nz⟩,h.nt,h.df,fun i=>bu hK (fun _ _ _ h=>h) (h.t i)⟩
   ·rcases lI hm.keys hx with ⟨_,hy⟩ | rfl
    ·exact aF hK (fun _ _ _ h=>h) rfl (fun _ _=>rfl) (hm.roots x hy)
    ·have h1:=aF hK (fun _ _ _ h=>h) rfl (fun _ _=>rfl) (hm.roots _ (ab hr))
     unfold aV at h1 ⊢;dsimp only at h1 ⊢;rw [if_pos rfl] at h1 ⊢;obtain ⟨b,cs,ty,fz,g',k1,k2,k3,k4,k5,k6⟩:=h1;refine ⟨b,cs,ty,fz,g',k1,k2,k3,by simpa using k4,?_,k6⟩;unfold Ts at k5 ⊢;rw [S3];refine vB hc (fun _ f v hv=>?_) k5;obtain ⟨z,rfl⟩:=hv;exact ⟨1,cM.2 (.inl ⟨rfl,rfl,z⟩)⟩
   ·rw [kc]; exact hm.keys
   ·rw [cu]; exact hm.le1 b
   ·rw [cu] at hb; exact hm.lt b hb
   ·rw [cu] at hb; exact hm.nofz b hb
   ·rw [cu] at hb; exact h.fr.tt b hb
  ·exact h
 ·exact h
def S.mvR (n:Nm) (s:S):S:=
 match aa s.m n with
 | some r=>⟨s.t,(n,r)::aW s.m n⟩
 | none=>s
theorem OK {m:Mm} {n k:Nm} {r:Root} (h:aa m n=some r):aa ((n,r)::aW m n) k=aa m k:=by
 by_cases hk:n=k
 ·subst hk; rw [h]; simp [aa]
 ·simp only [aa,if_neg hk]; exact fh (Ne.symm hk)
theorem QJ {g:G} {s:S} {a:Act} {w:World} {H:FH} {γ:Gam} {F:Nm->Fp} (h:RX g s a w H γ F) (n:Nm):RX g (s.mvR n) a w H γ F:=by
 unfold S.mvR;split
 ·rename_i r hr;have hget:∀ k,aa ((n,r)::aW s.m n) k=aa s.m k:=fun k=>OK hr
  have hK:Keeps w γ s.m w γ ((n,r)::aW s.m n):=⟨fun q hq=>⟨by rw [aj] at hq ⊢; rw [hget]; exact hq,rfl⟩,fun q hq=>⟨by rw [bn] at hq ⊢; rw [hget]; exact hq,rfl⟩⟩
  have htot:∀ b,tot F ((n,r)::aW s.m n) b=tot F s.m b:=fun b=>by
   have:=fi (F:=F) hr b
   show F n b+tot F (aW s.m n) b=_
   omega
  have hm:=h.mem
  refine ⟨⟨hm.agree,fun x hx=>?_,?_,fun b=>?_,fun b hb=>?_,fun b hb=>?_⟩,⟨h.fr.size,h.fr.os,h.fr.tape,h.fr.output,h.fr.block,h.fr.hold,h.fr.hnew,fun b hb=>?_,h.fr.nz⟩,h.nt,h.df,fun i=>bu hK (fun _ _ _ h=>h) (h.t i)⟩
  ·refine aF hK (fun _ _ _ h=>h) rfl (fun _ _=>rfl) (hm.roots x ?_);rcases SS.1 hx with rfl | hx
   ·exact ab hr
   ·exact pH hx
  ·rw [List.map_cons,Ti];exact ⟨iu hm.keys,nG hm.keys⟩
  ·rw [htot]; exact hm.le1 b
  ·rw [htot] at hb; exact hm.lt b hb
  ·rw [htot] at hb; exact hm.nofz b hb
  ·rw [htot] at hb; exact h.fr.tt b hb
 ·exact h
def Io (t:Nat) (n':Nm) (sub:List Sh) (s:S):S:=
 match aE s.t t with
 | .one (.c .nil)=>match aa (s.fresh n').m n',n'.isOut with
  | none,false=>⟨lq (s.fresh n').t t (.one (.c (.rf ⟨n',0,[]⟩))),(n',⟨false,[.ow sub []]⟩)::(s.fresh n').m⟩
  | _,_=>s
 | .one (.c (.rf ⟨n,0,[]⟩))=>match aa s.m n with
  | some ⟨false,[.ow sub' l]⟩=>match n'.isOut with
   | false=>⟨lq ((s.drop n).fresh n').t t (.one (.c (.rf ⟨n',0,[]⟩))),(n',⟨false,[.ow sub' l]⟩)::((s.drop n).fresh n').m⟩
   | _=>s
  | _=>s
 | _=>s
def S.own:List (Nat×Nm×List Sh)->S->S
 | [],s=>s
 | (t,n,sub)::r,s=>S.own r (if 2000000<=t then s.mvR n else if 1000000<=t then s.ownR n (t - 1000000) sub else Io t n sub s)
section
variable {g:G} {s:S} {a:Act} {w:World} {H:FH} {γ:Gam} {F:Nm->Fp}
theorem Gb (h:RX g s a w H γ F) {t:Nat} {v:AV} (hv:AR w H γ s.m v (g.tv a t)):RX g ⟨lq s.t t v,s.m⟩ a w H γ F:=by
 refine ⟨h.mem,h.fr,h.nt,h.df,fun i=>?_⟩;show AR w H γ s.m (aE (lq s.t t v) i) _
 rw [fU];split
 ·rename_i e; subst e; exact hv
 ·exact h.t i
theorem KN {m:Mm} {n:Nm} {r:Root} {sub:List Sh} {l:List (List D)} {v:Value} (hr:r=⟨false,[.ow sub l]⟩) (hγ:γ n=.gh v):AR w H γ ((n,r)::m) (.one (.c (.rf ⟨n,0,[]⟩))) v:=by
 subst hr;refine ⟨fun _=>rfl,?_,?_⟩
 ·rw [bn];refine ⟨⟨false,[.ow sub l]⟩,by simp only [aa,if_true],?_⟩;show bm [T.ow sub l] 0 []
  simp [bm]
 ·show ao w (γ n) 0=some v
  rw [hγ]; rfl
theorem yA (h:RX g s a w H γ F) (t:Nat) (n':Nm) (sub:List Sh):∃ γ' F',RX g (Io t n' sub s) a w H γ' F':=by
 unfold Io;split
 ·rename_i hnil;split
  ·rename_i hnone hno;have h1:=bU h n'
   have hv:=h.t t
   rw [hnil] at hv;obtain ⟨_,hv⟩:=hv;obtain ⟨γ',F',h2,hγ⟩:=di h1 hno hnone (v:=.slice none 0 0) (t:=.ow sub []) (f:=fun _=>0) ⟨1,cM.2 (.inl ⟨rfl,rfl,fun _=>rfl⟩)⟩ (fun b=>by have:=h1.mem.le1 b; omega) (fun b hb=>absurd rfl hb) (fun b hb=>absurd rfl hb);exact ⟨γ',F',Gb h2 (by rw [hv]; exact KN rfl hγ)⟩
  ·exact ⟨γ,F,h⟩
 ·rename_i n hrf
  ·split
   ·rename_i sub' l hroot;split
    ·rename_i hno;obtain ⟨v,f,hγn,hTR,hd,htot⟩:=Ao h hroot;have h1:=bU hd n'
     have hle:∀ b,tot F ((s.drop n).fresh n').m b<=tot F (s.drop n).m b:=by
      intro b;unfold S.fresh;split
      ·exact SN _
      ·show tot F (au _ _) b<=_
       rw [aM]; exact dh
     have hv:=h.t t
     rw [hrf] at hv;obtain ⟨_,_,hv⟩:=hv;have hv':v=g.tv a t:=by
      simp only [plV,hγn,ao,if_true,SJ] at hv;exact hv
     obtain ⟨γ',F',h2,hγ⟩:=di h1 hno (bA hd n') (v:=v) (t:=.ow sub' l) (f:=f) (hTR _) (fun b=>by have:=hle b; have:=htot b; have:=h.mem.le1 b; omega)
      (fun b hb=>⟨h.mem.lt b (by have:=htot b; omega),h.mem.nofz b (by have:=htot b; omega)⟩) (fun b hb=>h.fr.tt b (by have:=htot b; omega))
     exact ⟨γ',F',Gb h2 (by rw [<- hv']; exact KN rfl hγ)⟩
    ·exact ⟨γ,F,h⟩
   ·exact ⟨γ,F,h⟩
 ·exact ⟨γ,F,h⟩
theorem G8:∀ (ns:List (Nat×Nm×List Sh)) {s:S},R g s a w->R g (s.own ns) a w
 | [],_,h=>h
 | (t,n,sub)::r,s,h=>by
  obtain ⟨H,γ,F,h⟩:=h;simp only [S.own];split
  ·exact G8 r ⟨H,γ,F,QJ h n⟩
  split
  ·exact G8 r ⟨H,γ,F,Ij h n _ sub⟩
  ·obtain ⟨γ',F',h'⟩:=yA h t n sub;exact G8 r ⟨H,γ',F',h'⟩
def S.cutO (ns:List (Nat×Nm×List Sh)) (ks:List Nat) (ds:List Nm) (s:S):S:=(s.own ns).cut ks ds
theorem Qy {ns:List (Nat×Nm×List Sh)} {ks:List Nat} {ds:List Nm} (h:R g s a w):R g (s.cutO ns ks ds) a w:=Po ks ds (G8 ns h)
variable {P:Program} {Q:Exit->S->Prop}
theorem FV {c:Code} (ns:List (Nat×Nm×List Sh)) (ks:List Nat) (ds:List Nm) (h:AW P g c Q (s.cutO ns ks ds)):AW P g c Q s:=fun a w hR=>h a w (Qy hR)
theorem vJ {x y:Code} {α:Type} (ns:List (Nat×Nm×List Sh)) (ks:List Nat) (ds:List Nm) (st:α->S) (inv:α->Prop) (h1:AW P g x (xa (fun s=>∃ y,s.cutO ns ks ds=st y/\inv y) Q) s) (h2:∀ y0,inv y0->AW P g y Q (st y0)):AW P g (.seq x y) Q s:=
 lM (AW.mono h1 (fun e s h=>by
  cases e with
  | normal=>obtain ⟨y0,e,hy⟩:=h; exact FV ns ks ds (by rw [e]; exact h2 y0 hy)
  | _=>exact h))
theorem LJ {c:Code} {α:Type} (ns:List (Nat×Nm×List Sh)) (ks:List Nat) (ds:List Nm) (st:α->S) (inv:α->Prop) (μ:α->Nat) (x0:α) (h0:s.cutO ns ks ds=st x0) (hi:inv x0)
  (round:∀ x,inv x->∀ K:S->Prop,(∀ s' x',s'.cutO ns ks ds=st x'->inv x'->μ x'<μ x->K s')->AW P g c (xa K Q) (st x)):AW P g (.loop c) Q s:=by
 refine yP (fun n s=>∃ x,s.cutO ns ks ds=st x/\inv x/\μ x=n) (μ x0) ⟨x0,h0,hi,rfl⟩ (fun n s ⟨x,h1,h2,h3⟩=>?_);refine FV ns ks ds ?_;rw [h1];exact round x h2 _ (fun s' x' k0 k2 k3=>⟨μ x',by omega,x',k0,k2,rfl⟩)
theorem Ol {α β:Type} (f:α->β) (a:List α) (n:Nat):(a.map f).drop n=(a.drop n).map f:=by simp
theorem OS {α β:Type} (f:α->β) (a:List α) (n:Nat):(a.map f).take n=(a.take n).map f:=by simp
def PL:List D->Option UInt8
 | [.int .u8 n]=>if 0<=n/\n < 256 then some (UInt8.ofNat n.toNat) else none
 | _=>none
def rB:Rw UInt8 where
 enc b:=[.int .u8 (b.toNat:Int)]
 dec:=PL
 inv l x h:=by
  unfold PL at h;split at h
  ·split at h
   ·rename_i n hn;simp only [SJ] at h;subst h
    congr 2
    have:n.toNat < 256:=by omega
    simp only [UInt8.toNat_ofNat',Nat.reducePow];omega
   ·simp at h
  ·simp at h
theorem ON (b:List UInt8):(b.map fun c=>[D.int .u8 (c.toNat:Int)])=b.map rB.enc:=rfl
theorem zb (a:Nat) (l:List Nat):(([]:List Nat)==a::l)=false:=rfl
theorem zS (a:Nat) (l:List Nat):((a::l)==([]:List Nat))=false:=rfl
attribute [push_cast] zb zS Ol OS ON S.own Io S.ownR S.mvR aW S.cutO Nm.isOut D.sure
end
end Go.Am
end

section
namespace Go.Am
def FR (cells:List T) (off:Nat) (sub:List Sh):List T:=
 match cells[off]? with
 | some .nil=>cells.set off (.ow sub [])
 | _=>cells
def ue:List (Nat×List Sh)->List T->List T
 | [],cells=>cells
 | (off,sub)::r,cells=>ue r (FR cells off sub)
section
variable {w:World} {H:FH} {γ:Gam} {m:Mm} {F:Nm->Fp}
end
section
variable {g:G} {a:Act} {w:World} {H:FH} {γ:Gam} {F:Nm->Fp}
end
structure Cs1 (σ:Type) where
 j:Nat
 enc:σ->List T
 dec:List T->Option σ
 offs:List (Nat×List Sh)
 inv:∀ l x,dec l=some x->ue offs l=enc x
 self:∀ x,(enc x).all (T.self (.out j))=true
 ren:∀ l x n,dec l=some x->dec (l.map (T.ren n (.out j)))=some x
section
variable {α β γ' ρ σ:Type}
def fp0 (c:Cs1 σ) (r:ρ->AV) (pre:σ->Prop) (f:σ->ρ×σ):List AV->List T->(AV->List T->Prop)->Prop
 | [],cells,K=>match c.dec cells with
  | some s=>pre s/\K (r (f s).1) (c.enc (f s).2)
  | none=>False
 | _,_,_=>False
def fp1 (c:Cs1 σ) (a:Cd α) (r:ρ->AV) (pre:σ->α->Prop) (f:σ->α->ρ×σ):List AV->List T->(AV->List T->Prop)->Prop
 | [.one x],cells,K=>match c.dec cells,a.dec x with
  | some s,some x=>pre s x/\K (r (f s x).1) (c.enc (f s x).2)
  | _,_=>False
 | _,_,_=>False
def fp2 (c:Cs1 σ) (a:Cd α) (b:Cd β) (r:ρ->AV) (pre:σ->α->β->Prop) (f:σ->α->β->ρ×σ):List AV->List T->(AV->List T->Prop)->Prop
 | [.one x,.one y],cells,K=>match c.dec cells,a.dec x,b.dec y with
  | some s,some x,some y=>pre s x y/\K (r (f s x y).1) (c.enc (f s x y).2)
  | _,_,_=>False
 | _,_,_=>False
variable {P:Program} {f:Nat} {fn:Func} {co:Code}
end
attribute [push_cast] SN List.isEmpty_nil List.isEmpty_cons MU fp0 fp1 fp2 T.ren T.self gO FR ue sP Re
end Go.Am
end

section
namespace Go.Am
attribute [push_cast] jf Nm.tyd
structure RK (P:Program) (cs:CT) (all:List Oper) (r:List Oper) (s:S) (k:S->Prop):Prop where
 out:qR P cs all r s k
section
variable {P:Program} {cs:CT} {all:List Oper} {g:G} {Q:Exit->S->Prop}
theorem stA {o:Oper} {r:List Oper} {s s':S} {k:S->Prop} (h:RK P cs all r s' k)
  (e:∀ K:S->Prop,K s'->FM P cs all o s K:=by intro K hK; simp only [push_cast,↓reduceIte,Nat.reduceAdd,Nat.reduceSub,Nat.reduceMul,Nat.reduceEqDiff,Nat.reduceLeDiff,reduceCtorEq,Nat.reduceBEq,Nat.reduceLT,Int.reduceToNat,Int.reduceLE,hx]; intros; exact hK):RK P cs all (o::r) s k:=
 ⟨I2 fun K hK=>e K (hK _ h.out)⟩
theorem enA {s s1:S} {ks:List Nat} {ds:List Nm} (h:Q .normal s1)
  (e:∀ K:S->Prop,K s1->K (s.cut ks ds):=by intro K hK; simp only [push_cast,↓reduceIte,Nat.reduceAdd,Nat.reduceSub,Nat.reduceMul,Nat.reduceEqDiff,Nat.reduceLeDiff,reduceCtorEq,Nat.reduceBEq,Nat.reduceLT,Int.reduceToNat,Int.reduceLE]; exact hK):RK P cs all [] s (fun s'=>Q .normal (s'.cut ks ds)):=⟨e (Q .normal) h⟩
theorem rgA (ks:List Nat) (ds:List Nm) {s:S} {id:Nat} {l:List Oper} (h:RK P cs l l s (fun s'=>Q .normal (s'.cut ks ds)))
  (hcs:cs.Ok P:=by exact hcs)
  (hc:zc g.nt l l=true:=by rw [hn]; rfl):AW P g (.region id l.toArray false) Q s:=
 QV ks ds hcs hc h.out
theorem cdA {t:Tmp} {x y:Code} {s:S} {b:Bool} {A B:Prop} (h:if b=true then A else B) (hc:aE s.t t=.one (.c (.d (.bool b)))) (h1:A->AW P g x Q s) (h2:B->AW P g y Q s) (htb:t<TB:=by decide):AW P g (.cond (.tmp t) x y) Q s:=
 sN hc (fun hb=>h1 (by rw [if_pos hb] at h; exact h)) (fun hb=>h2 (by rw [if_neg (by rw [hb]; exact Bool.false_ne_true)] at h; exact h)) htb
theorem Qd (b:UInt8):rB.enc b=[D.int .u8 ((b.toNat:Nat):Int)]:=rfl
theorem siA {a b:S}
  (e:a=b:=by first | (simp only [push_cast,↓reduceIte,Nat.reduceAdd,Nat.reduceSub,Nat.reduceMul,Nat.reduceEqDiff,Nat.reduceLeDiff,reduceCtorEq,Nat.reduceBEq,Nat.reduceLT,Int.reduceToNat,Int.reduceLE]; done) | simp only [push_cast,TP,List.map_cons,List.map_nil,Qd,↓reduceIte,Nat.reduceAdd,Nat.reduceSub,Nat.reduceMul,Nat.reduceEqDiff,Nat.reduceLeDiff,reduceCtorEq,Nat.reduceBEq,Nat.reduceLT,Int.reduceToNat,Int.reduceLE]):a=b:=e
theorem fiA {p q:Prop} (h:q)
  (e:q->p:=by intro h; first | ((try simp only [push_cast,↓reduceIte,Nat.reduceAdd,Nat.reduceSub,Nat.reduceMul,Nat.reduceEqDiff,Nat.reduceLeDiff,reduceCtorEq,Nat.reduceBEq,Nat.reduceLT,Int.reduceToNat,Int.reduceLE]); intros; exact h) | (simp only [push_cast,↓reduceIte,Nat.reduceAdd,Nat.reduceSub,Nat.reduceMul,Nat.reduceEqDiff,Nat.reduceLeDiff,reduceCtorEq,Nat.reduceBEq,Nat.reduceLT,Int.reduceToNat,Int.reduceLE] at h ⊢; exact h)):p:=e h
theorem AC {p q F:Prop} (ho:p) (hx:F)
  (e:p->q:=by intro h; first | (simp only [push_cast,↓reduceIte,Nat.reduceAdd,Nat.reduceSub,Nat.reduceMul,Nat.reduceEqDiff,Nat.reduceLeDiff,reduceCtorEq,Nat.reduceBEq,Nat.reduceLT,Int.reduceToNat,Int.reduceLE] at h; exact h) | exact h):q/\p/\F:=⟨e ho,ho,hx⟩
end
end Go.Am
end

section
namespace Go.Am
def T.isD:T->Bool
 | .d _=>true
 | _=>false
def T.frB (n:Nm) (row:List D):T->T
 | .pl p=>match p.path with
  | []=>if p.root=n then .el row p.off else .pl p
  | _=>(T.pl p).kill (bv n)
 | t=>t.kill (bv n)
def S.frzB (n:Nm) (s:S):S:=
 match aa s.m n with
 | some ⟨true,cells⟩=>if cells.all T.isD=true then ⟨uD (AV.map (T.frB n (cells.map T.toD))) s.t,au (bv n) (aW s.m n)⟩ else s
 | _=>s
theorem JO {H:FH} {row:List D} {b o:Nat} (h:∀ j,j<row.length->∃ y,H b (o+j)=some y/\FDx H (row.getD j default) y):∃ m,we H m row b o:=by
 have key:∀ n,n<=row.length->∃ m,∀ j,j<n->∃ y,H b (o+j)=some y/\FD H m (row.getD j default) y:=by
  intro n;induction n with
  | zero=>exact fun _=>⟨0,fun j hj=>by omega⟩
  | succ n ih=>
   intro hn;obtain ⟨m1,h1⟩:=ih (by omega);obtain ⟨y,hy,m2,hf⟩:=h n (by omega);refine ⟨m1+m2,fun j hj=>?_⟩;by_cases hjn:j=n
   ·subst hjn; exact ⟨y,hy,jD (fun _ _ _ h=>h) _ _ _ _ (by omega) hf⟩
   ·obtain ⟨z,hz,hf⟩:=h1 j (by omega);exact ⟨z,hz,jD (fun _ _ _ h=>h) _ _ _ _ (by omega) hf⟩
 exact key row.length (SN _)
section
variable {P:Program} {g:G} {s:S} {a:Act} {w:World} {H:FH} {γ:Gam} {F:Nm->Fp}
theorem Fg {F:Nm->Fp} {m:Mm} {n:Nm} {r:Root} (hk:aa m n=some r) (c:Nat):tot F (aW m n) c+F n c=tot F m c:=by
 induction m with
 | nil=>simp [aa] at hk
 | cons x m ih=>
  obtain ⟨k,y⟩:=x;simp only [aa,aW] at hk ⊢;by_cases hkn:k=n
  ·subst hkn; rw [if_pos rfl,bg]; dsimp only; omega
  ·rw [if_neg hkn] at hk;rw [if_neg hkn,bg,bg];have:=ih hk
   dsimp only at this ⊢;omega
theorem O2 (h:RX g s a w H γ F) (n:Nm):∃ H',RX g (s.frzB n) a w H' γ F:=by
 unfold S.frzB;split
 rotate_left
 ·exact ⟨H,h⟩
 rename_i cells hr;split
 rotate_left
 ·exact ⟨H,h⟩
 rename_i hall;have hR:=h.mem.roots _ (ab hr)
 unfold aV at hR;rw [if_pos rfl] at hR;obtain ⟨b,cs,ty,fz,f,e1,e2,e3,e4,e5,e6⟩:=hR;dsimp only at e1 e4 e5 e6;have hd:=lb h n
 have hdm:(s.drop n).m=au (bv n) (aW s.m n):=rfl
 have tdel:∀ c,tot F (au (bv n) (aW s.m n)) c+F n c=tot F s.m c:=fun c=>by rw [aM]; exact Fg hr c
 let H':FH:=fun k o=>if k=b then w.cell? ⟨k,o,none⟩ else H k o
 have hFb:F n b≠0:=by
  have:=e6 b; rw [if_pos rfl] at this; omega
 have htb:tot F s.m b≠0:=by have:=tdel b; omega
 have hH:∀ k o y,H k o=some y->H' k o=some y:=by
  intro k o y hy;simp only [H'];split
  ·exact h.mem.agree k o y hy
  ·exact hy
 have hag:∀ k o y,H' k o=some y->w.cell? ⟨k,o,none⟩=some y:=by
  intro k o y hy;simp only [H'] at hy;split at hy
  ·exact hy
  ·exact h.mem.agree k o y hy
 have hmem:=hd.mem
 rw [hdm] at hmem;have hKr:Keeps w γ (au (bv n) (aW s.m n)) w γ (au (bv n) (aW s.m n)):=⟨fun q hq=>⟨hq,rfl⟩,fun q hq=>⟨hq,rfl⟩⟩
 have hcell:∀ j,w.cell? ⟨b,j,none⟩=cs[j]? := fun j=>by simp [World.cell?,e2]
 have hrow:∃ m,we H' m (cells.map T.toD) b 0:=by
  refine JO (fun j hj=>?_);rw [List.length_map] at hj;have hcj:cells[j]? = some cells[j]:=SK hj
  obtain ⟨v,q,v1,v2,_⟩:=zA e5 hcj;have hisD:=SQ.1 hall cells[j] (Tk hj)
  refine ⟨v,?_,?_⟩
  ·simp only [H',if_true,TJ];rw [hcell];simpa using v1
  ·rw [List.getD,SM,hcj];simp only [Option.map_some,Option.getD_some];generalize cells[j]=t at v2 hisD;cases t with
   | d x=>exact ef hH v2.2
   | _=>simp [T.isD] at hisD
 refine ⟨H',⟨?_,?_,h.nt,h.df,fun i=>?_⟩⟩
 ·refine ⟨hag,fun x hx=>aF hKr hH rfl (fun _ _=>rfl) (hmem.roots x hx),hmem.keys,hmem.le1,hmem.lt,fun k hk o=>?_⟩;have hkb:k≠b:=by
   intro e; subst e;have h1:=tdel k; have h2:=h.mem.le1 k; dsimp only at hk; omega
  simp only [H'];rw [if_neg hkb];exact hmem.nofz k hk o
 ·refine ⟨h.fr.size,h.fr.os,h.fr.tape,h.fr.output,h.fr.block,fun k o y hy=>hH _ _ _ (h.fr.hold k o y hy),fun k o h1 h2=>?_,fun k hk=>h.fr.tt k ?_,h.fr.nz.1,fun k o x l c h1 h2=>?_⟩
  rotate_left 2
  ·by_cases hkb:k=b
   ·subst hkb;have e0:fz=(0,0):=e3.1
    subst e0;exact ⟨_,_,e2⟩
   ·simp only [H'] at h1;rw [if_neg hkb] at h1;exact h.fr.nz.2 k o x l c h1 h2
  ·by_cases hkb:k=b
   ·subst hkb; exact h.fr.tt k htb
   ·simp only [H'] at h1;rw [if_neg hkb] at h1;exact h.fr.hnew k o h1 h2
  ·have h1:=tdel k; dsimp only at hk; omega
 ·show AR w H' γ _ (aE (uD _ s.t) i) _
  rw [qN rfl];refine cZ (fun t y ht=>?_) (h.t i);have hk:=fun (t:T) (ht:TR w H γ s.m t (fun _=>0) y)=>pA (db (n:=n)) hH (fun _ hb=>absurd rfl hb) ht
  cases t with
  | pl p=>
   obtain ⟨pn,po,pp⟩:=p;cases pp with
   | nil=>
    simp only [T.frB];split
    ·rename_i hc;subst hc;obtain ⟨_,_,ad,had,hy⟩:=ht;obtain ⟨m,hm⟩:=hrow;have:ad=⟨b,po,none⟩:=by
      simp only [plA,e1,SJ] at had; exact had.symm
     subst this;exact ⟨fun _=>rfl,b,0,m,by rw [hy,TJ],hm⟩
    ·rename_i hc;have:=hk _ ht
     have hb:bv n false ⟨pn,po,[]⟩=false:=by simp [bv,hc]
     simp only [T.kill,hb,SV,if_false] at this;exact this
   | cons st q=>exact hk _ ht
  | _=>exact hk _ ht
theorem QK (h:R g s a w) (n:Nm):R g (s.frzB n) a w:=by
 obtain ⟨H,γ,F,h⟩:=h;obtain ⟨H',h'⟩:=O2 h n;exact ⟨H',γ,F,h'⟩
variable {Q:Exit->S->Prop}
theorem frB (n:Nm) {c:Code} {s s1:S} (h:AW P g c Q s1)
  (e:∀ K:S->Prop,K s1->K (s.frzB n):=by intro K hK; simp only [push_cast,↓reduceIte,Nat.reduceAdd,Nat.reduceSub,Nat.reduceMul,Nat.reduceEqDiff,Nat.reduceLeDiff,reduceCtorEq,Nat.reduceBEq,Nat.reduceLT,Int.reduceToNat,Int.reduceLE]; exact hK):AW P g c Q s:=by
 have h2:=e (fun s'=>AW P g c Q s') h
 intro a w hR;exact h2 a w (QK hR n)
end
def tI (k:IntKind) (n:Int):T:=.d (.int k n)
def dI (k:IntKind) (n:Int):D:=.int k n
theorem Lu (k:IntKind) (n:Int):(tI k n).owned=false:=rfl
theorem Qx (k:IntKind) (L:List Int):(L.map (tI k)).all T.isD=true:=by
 rw [SQ]; intro x hx; rw [S9] at hx; obtain ⟨n,_,rfl⟩:=hx; rfl
theorem PT (k:IntKind) (L:List Int):(L.map (tI k)).map T.toD=L.map (dI k):=by
 rw [SX]; rfl
theorem QC (k:IntKind) (L:List Int) (n:Nat) (v:Int):(L.map (tI k)).set n (.d (.int k v))=(L.set n v).map (tI k):=by
 rw [Tv]; rfl
theorem LL (L:List Int):ji (L.map fun n=>[dI .u8 n])=some (L.map fun n=>UInt8.ofNat n.toNat):=by
 induction L with
 | nil=>rfl
 | cons n L ih=>rw [List.map_cons,dI,ji,ih]; rfl
theorem Ln (L:List Int):ji ((L.map (dI .u8)).map fun x=>[x])=some (L.map fun n=>UInt8.ofNat n.toNat):=by
 rw [SX]; exact LL L
attribute [push_cast] Pl.at rm bb bz okO
attribute [push_cast high] Lu
attribute [push_cast] T.isD T.frB S.frzB uD lc Qx PT QC Ln TJ Uf Nat.mul_one Ux T.toD TX List.replicate_zero
end Go.Am
end

section
namespace Go.Am
section
variable {P:Program} {cs:CT} {all:List Oper} {g:G} {Q:Exit->S->Prop}
end
end Go.Am
end

section
open Go Go.Am
namespace Lt
structure Var where
 Name:List UInt8
 Type_:List UInt8
 deriving Inhabited,DecidableEq
def Var.enc (x:Var):List D:=[.str x.Name,.str x.Type_]
def Var.dec:List D->Option Var
 | [.str v0,.str v1]=>some ⟨v0,v1⟩
 | _=>none
theorem Var.dec_inv:∀ (l:List D) (x:Var),Var.dec l=some x->l=x.enc:=by
 intro l x h;unfold Var.dec at h;split at h
 ·simp only [SJ] at h; subst h; rfl
 ·simp at h
def Var.rw:Rw Var:=⟨Var.enc,Var.dec,Var.dec_inv⟩
theorem Var.rows (l:List Var):(∀ x∈l.map Var.enc,x.length=2)=True:=by
 simp [Var.enc]
attribute [push_cast] Var.enc Var.dec Var.rows
structure Arg where
 Kind:Int
 S:List UInt8
 N:Int
 deriving Inhabited,DecidableEq
def Arg.enc (x:Arg):List D:=[.int .i64 x.Kind,.str x.S,.int .i64 x.N]
def Arg.dec:List D->Option Arg
 | [.int .i64 v0,.str v1,.int .i64 v2]=>some ⟨v0,v1,v2⟩
 | _=>none
theorem Arg.dec_inv:∀ (l:List D) (x:Arg),Arg.dec l=some x->l=x.enc:=by
 intro l x h;unfold Arg.dec at h;split at h
 ·simp only [SJ] at h; subst h; rfl
 ·simp at h
def Arg.rw:Rw Arg:=⟨Arg.enc,Arg.dec,Arg.dec_inv⟩
theorem Arg.rows (l:List Arg):(∀ x∈l.map Arg.enc,x.length=3)=True:=by
 simp [Arg.enc]
attribute [push_cast] Arg.enc Arg.dec Arg.rows
structure In where
 Block:List UInt8
 A:Arg
 deriving Inhabited,DecidableEq
def In.enc (x:In):List D:=[.str x.Block,.int .i64 x.A.Kind,.str x.A.S,.int .i64 x.A.N]
def In.dec:List D->Option In
 | [.str v0,.int .i64 v1,.str v2,.int .i64 v3]=>some ⟨v0,⟨v1,v2,v3⟩⟩
 | _=>none
theorem In.dec_inv:∀ (l:List D) (x:In),In.dec l=some x->l=x.enc:=by
 intro l x h;unfold In.dec at h;split at h
 ·simp only [SJ] at h; subst h; rfl
 ·simp at h
def In.rw:Rw In:=⟨In.enc,In.dec,In.dec_inv⟩
theorem In.rows (l:List In):(∀ x∈l.map In.enc,x.length=4)=True:=by
 simp [In.enc]
attribute [push_cast] In.enc In.dec In.rows
structure Phi where
 Dst:List UInt8
 Ins:List In
 deriving Inhabited,DecidableEq
def Phi.enc (x:Phi):List D:=[.str x.Dst,.li (x.Ins.map In.enc)]
def Phi.dec:List D->Option Phi
 | [.str v0,.li v1]=>(dX In.rw v1).bind fun w1=>some ⟨v0,w1⟩
 | _=>none
theorem Phi.dec_inv:∀ (l:List D) (x:Phi),Phi.dec l=some x->l=x.enc:=by
 intro l x h;unfold Phi.dec at h;split at h
 ·simp only [Tn,SJ] at h;obtain ⟨w1,hw1,rfl⟩:=h;rw [aY hw1]; rfl
 ·simp at h
def Phi.rw:Rw Phi:=⟨Phi.enc,Phi.dec,Phi.dec_inv⟩
theorem Phi.rows (l:List Phi):(∀ x∈l.map Phi.enc,x.length=2)=True:=by
 simp [Phi.enc]
attribute [push_cast] Phi.enc Phi.dec Phi.rows
structure Bind where
 Name:List UInt8
 A:Arg
 deriving Inhabited,DecidableEq
def Bind.enc (x:Bind):List D:=[.str x.Name,.int .i64 x.A.Kind,.str x.A.S,.int .i64 x.A.N]
def Bind.dec:List D->Option Bind
 | [.str v0,.int .i64 v1,.str v2,.int .i64 v3]=>some ⟨v0,⟨v1,v2,v3⟩⟩
 | _=>none
theorem Bind.dec_inv:∀ (l:List D) (x:Bind),Bind.dec l=some x->l=x.enc:=by
 intro l x h;unfold Bind.dec at h;split at h
 ·simp only [SJ] at h; subst h; rfl
 ·simp at h
def Bind.rw:Rw Bind:=⟨Bind.enc,Bind.dec,Bind.dec_inv⟩
theorem Bind.rows (l:List Bind):(∀ x∈l.map Bind.enc,x.length=4)=True:=by
 simp [Bind.enc]
attribute [push_cast] Bind.enc Bind.dec Bind.rows
structure Frame where
 Func:List UInt8
 Block:List UInt8
 At:Int
 Vars:List Bind
 deriving Inhabited,DecidableEq
def Frame.enc (x:Frame):List D:=[.str x.Func,.str x.Block,.int .i64 x.At,.li (x.Vars.map Bind.enc)]
def Frame.dec:List D->Option Frame
 | [.str v0,.str v1,.int .i64 v2,.li v3]=>(dX Bind.rw v3).bind fun w3=>some ⟨v0,v1,v2,w3⟩
 | _=>none
theorem Frame.dec_inv:∀ (l:List D) (x:Frame),Frame.dec l=some x->l=x.enc:=by
 intro l x h;unfold Frame.dec at h;split at h
 ·simp only [Tn,SJ] at h;obtain ⟨w3,hw3,rfl⟩:=h;rw [aY hw3]; rfl
 ·simp at h
def Frame.rw:Rw Frame:=⟨Frame.enc,Frame.dec,Frame.dec_inv⟩
theorem Frame.rows (l:List Frame):(∀ x∈l.map Frame.enc,x.length=4)=True:=by
 simp [Frame.enc]
attribute [push_cast] Frame.enc Frame.dec Frame.rows
structure Virt where
 Class:List UInt8
 Vals:List Arg
 deriving Inhabited,DecidableEq
def Virt.enc (x:Virt):List D:=[.str x.Class,.li (x.Vals.map Arg.enc)]
def Virt.dec:List D->Option Virt
 | [.str v0,.li v1]=>(dX Arg.rw v1).bind fun w1=>some ⟨v0,w1⟩
 | _=>none
theorem Virt.dec_inv:∀ (l:List D) (x:Virt),Virt.dec l=some x->l=x.enc:=by
 intro l x h;unfold Virt.dec at h;split at h
 ·simp only [Tn,SJ] at h;obtain ⟨w1,hw1,rfl⟩:=h;rw [aY hw1]; rfl
 ·simp at h
def Virt.rw:Rw Virt:=⟨Virt.enc,Virt.dec,Virt.dec_inv⟩
theorem Virt.rows (l:List Virt):(∀ x∈l.map Virt.enc,x.length=2)=True:=by
 simp [Virt.enc]
attribute [push_cast] Virt.enc Virt.dec Virt.rows
structure Instr where
 Op:Int
 Dst:List UInt8
 Name:List UInt8
 Args:List Arg
 Frames:List Frame
 Objs:List Virt
 deriving Inhabited,DecidableEq
def Instr.enc (x:Instr):List D:=[.int .i64 x.Op,.str x.Dst,.str x.Name,.li (x.Args.map Arg.enc),.li (x.Frames.map Frame.enc),.li (x.Objs.map Virt.enc)]
def Instr.dec:List D->Option Instr
 | [.int .i64 v0,.str v1,.str v2,.li v3,.li v4,.li v5]=>(dX Arg.rw v3).bind fun w3=>(dX Frame.rw v4).bind fun w4=>(dX Virt.rw v5).bind fun w5=>some ⟨v0,v1,v2,w3,w4,w5⟩
 | _=>none
theorem Instr.dec_inv:∀ (l:List D) (x:Instr),Instr.dec l=some x->l=x.enc:=by
 intro l x h;unfold Instr.dec at h;split at h
 ·simp only [Tn,SJ] at h;obtain ⟨w3,hw3,w4,hw4,w5,hw5,rfl⟩:=h;rw [aY hw3,aY hw4,aY hw5]; rfl
 ·simp at h
def Instr.rw:Rw Instr:=⟨Instr.enc,Instr.dec,Instr.dec_inv⟩
theorem Instr.rows (l:List Instr):(∀ x∈l.map Instr.enc,x.length=6)=True:=by
 simp [Instr.enc]
attribute [push_cast] Instr.enc Instr.dec Instr.rows
structure Term where
 Kind:Int
 A:Arg
 To:List (List UInt8)
 N:Int
 deriving Inhabited,DecidableEq
def Term.enc (x:Term):List D:=[.int .i64 x.Kind,.int .i64 x.A.Kind,.str x.A.S,.int .i64 x.A.N,.li (x.To.map rS.enc),.int .i64 x.N]
def Term.dec:List D->Option Term
 | [.int .i64 v0,.int .i64 v1,.str v2,.int .i64 v3,.li v4,.int .i64 v5]=>(dX rS v4).bind fun w4=>some ⟨v0,⟨v1,v2,v3⟩,w4,v5⟩
 | _=>none
theorem Term.dec_inv:∀ (l:List D) (x:Term),Term.dec l=some x->l=x.enc:=by
 intro l x h;unfold Term.dec at h;split at h
 ·simp only [Tn,SJ] at h;obtain ⟨w4,hw4,rfl⟩:=h;rw [aY hw4]; rfl
 ·simp at h
def Term.rw:Rw Term:=⟨Term.enc,Term.dec,Term.dec_inv⟩
theorem Term.rows (l:List Term):(∀ x∈l.map Term.enc,x.length=6)=True:=by
 simp [Term.enc]
attribute [push_cast] Term.enc Term.dec Term.rows
structure Block where
 Name:List UInt8
 Phis:List Phi
 Code:List Instr
 End:Term
 deriving Inhabited,DecidableEq
def Block.enc (x:Block):List D:=[.str x.Name,.li (x.Phis.map Phi.enc),.li (x.Code.map Instr.enc),.int .i64 x.End.Kind,.int .i64 x.End.A.Kind,.str x.End.A.S,.int .i64 x.End.A.N,.li (x.End.To.map rS.enc),.int .i64 x.End.N]
def Block.dec:List D->Option Block
 | [.str v0,.li v1,.li v2,.int .i64 v3,.int .i64 v4,.str v5,.int .i64 v6,.li v7,.int .i64 v8]=>(dX Phi.rw v1).bind fun w1=>(dX Instr.rw v2).bind fun w2=>(dX rS v7).bind fun w7=>some ⟨v0,w1,w2,⟨v3,⟨v4,v5,v6⟩,w7,v8⟩⟩
 | _=>none
theorem Block.dec_inv:∀ (l:List D) (x:Block),Block.dec l=some x->l=x.enc:=by
 intro l x h;unfold Block.dec at h;split at h
 ·simp only [Tn,SJ] at h;obtain ⟨w1,hw1,w2,hw2,w7,hw7,rfl⟩:=h;rw [aY hw1,aY hw2,aY hw7]; rfl
 ·simp at h
def Block.rw:Rw Block:=⟨Block.enc,Block.dec,Block.dec_inv⟩
theorem Block.rows (l:List Block):(∀ x∈l.map Block.enc,x.length=9)=True:=by
 simp [Block.enc]
attribute [push_cast] Block.enc Block.dec Block.rows
structure Func where
 Name:List UInt8
 Result:List UInt8
 Params:List Var
 Vars:List Var
 Blocks:List Block
 deriving Inhabited,DecidableEq
def Func.enc (x:Func):List D:=[.str x.Name,.str x.Result,.li (x.Params.map Var.enc),.li (x.Vars.map Var.enc),.li (x.Blocks.map Block.enc)]
def Func.dec:List D->Option Func
 | [.str v0,.str v1,.li v2,.li v3,.li v4]=>(dX Var.rw v2).bind fun w2=>(dX Var.rw v3).bind fun w3=>(dX Block.rw v4).bind fun w4=>some ⟨v0,v1,w2,w3,w4⟩
 | _=>none
theorem Func.dec_inv:∀ (l:List D) (x:Func),Func.dec l=some x->l=x.enc:=by
 intro l x h;unfold Func.dec at h;split at h
 ·simp only [Tn,SJ] at h;obtain ⟨w2,hw2,w3,hw3,w4,hw4,rfl⟩:=h;rw [aY hw2,aY hw3,aY hw4]; rfl
 ·simp at h
def Func.rw:Rw Func:=⟨Func.enc,Func.dec,Func.dec_inv⟩
theorem Func.rows (l:List Func):(∀ x∈l.map Func.enc,x.length=5)=True:=by
 simp [Func.enc]
attribute [push_cast] Func.enc Func.dec Func.rows
structure Class where
 Name:List UInt8
 Fields:List Var
 deriving Inhabited,DecidableEq
def Class.enc (x:Class):List D:=[.str x.Name,.li (x.Fields.map Var.enc)]
def Class.dec:List D->Option Class
 | [.str v0,.li v1]=>(dX Var.rw v1).bind fun w1=>some ⟨v0,w1⟩
 | _=>none
theorem Class.dec_inv:∀ (l:List D) (x:Class),Class.dec l=some x->l=x.enc:=by
 intro l x h;unfold Class.dec at h;split at h
 ·simp only [Tn,SJ] at h;obtain ⟨w1,hw1,rfl⟩:=h;rw [aY hw1]; rfl
 ·simp at h
def Class.rw:Rw Class:=⟨Class.enc,Class.dec,Class.dec_inv⟩
theorem Class.rows (l:List Class):(∀ x∈l.map Class.enc,x.length=2)=True:=by
 simp [Class.enc]
attribute [push_cast] Class.enc Class.dec Class.rows
structure Extern where
 Name:List UInt8
 N:Int
 deriving Inhabited,DecidableEq
def Extern.enc (x:Extern):List D:=[.str x.Name,.int .i64 x.N]
def Extern.dec:List D->Option Extern
 | [.str v0,.int .i64 v1]=>some ⟨v0,v1⟩
 | _=>none
theorem Extern.dec_inv:∀ (l:List D) (x:Extern),Extern.dec l=some x->l=x.enc:=by
 intro l x h;unfold Extern.dec at h;split at h
 ·simp only [SJ] at h; subst h; rfl
 ·simp at h
def Extern.rw:Rw Extern:=⟨Extern.enc,Extern.dec,Extern.dec_inv⟩
theorem Extern.rows (l:List Extern):(∀ x∈l.map Extern.enc,x.length=2)=True:=by
 simp [Extern.enc]
attribute [push_cast] Extern.enc Extern.dec Extern.rows
structure Program where
 SSA:Bool
 Classes:List Class
 Globals:List Var
 Externs:List Extern
 Funcs:List Func
 deriving Inhabited,DecidableEq
def Program.enc (x:Program):List D:=[.bool x.SSA,.li (x.Classes.map Class.enc),.li (x.Globals.map Var.enc),.li (x.Externs.map Extern.enc),.li (x.Funcs.map Func.enc)]
def Program.dec:List D->Option Program
 | [.bool v0,.li v1,.li v2,.li v3,.li v4]=>(dX Class.rw v1).bind fun w1=>(dX Var.rw v2).bind fun w2=>(dX Extern.rw v3).bind fun w3=>(dX Func.rw v4).bind fun w4=>some ⟨v0,w1,w2,w3,w4⟩
 | _=>none
theorem Program.dec_inv:∀ (l:List D) (x:Program),Program.dec l=some x->l=x.enc:=by
 intro l x h;unfold Program.dec at h;split at h
 ·simp only [Tn,SJ] at h;obtain ⟨w1,hw1,w2,hw2,w3,hw3,w4,hw4,rfl⟩:=h;rw [aY hw1,aY hw2,aY hw3,aY hw4]; rfl
 ·simp at h
def Program.rw:Rw Program:=⟨Program.enc,Program.dec,Program.dec_inv⟩
theorem Program.rows (l:List Program):(∀ x∈l.map Program.enc,x.length=5)=True:=by
 simp [Program.enc]
attribute [push_cast] Program.enc Program.dec Program.rows
structure Pair where
 F0:List UInt8
 F1:List UInt8
 deriving Inhabited,DecidableEq
def Pair.enc (x:Pair):List D:=[.str x.F0,.str x.F1]
def Pair.dec:List D->Option Pair
 | [.str v0,.str v1]=>some ⟨v0,v1⟩
 | _=>none
theorem Pair.dec_inv:∀ (l:List D) (x:Pair),Pair.dec l=some x->l=x.enc:=by
 intro l x h;unfold Pair.dec at h;split at h
 ·simp only [SJ] at h; subst h; rfl
 ·simp at h
def Pair.rw:Rw Pair:=⟨Pair.enc,Pair.dec,Pair.dec_inv⟩
theorem Pair.rows (l:List Pair):(∀ x∈l.map Pair.enc,x.length=2)=True:=by
 simp [Pair.enc]
attribute [push_cast] Pair.enc Pair.dec Pair.rows
structure way where
 from_:Int
 at_:Int
 to:Int
 deriving Inhabited,DecidableEq
def way.enc (x:way):List D:=[.int .i64 x.from_,.int .i64 x.at_,.int .i64 x.to]
def way.dec:List D->Option way
 | [.int .i64 v0,.int .i64 v1,.int .i64 v2]=>some ⟨v0,v1,v2⟩
 | _=>none
theorem way.dec_inv:∀ (l:List D) (x:way),way.dec l=some x->l=x.enc:=by
 intro l x h;unfold way.dec at h;split at h
 ·simp only [SJ] at h; subst h; rfl
 ·simp at h
def way.rw:Rw way:=⟨way.enc,way.dec,way.dec_inv⟩
theorem way.rows (l:List way):(∀ x∈l.map way.enc,x.length=3)=True:=by
 simp [way.enc]
attribute [push_cast] way.enc way.dec way.rows
structure Reader where
 p:Program
 at_:Int
 where_:Int
 first:Bool
 long:Int
 deriving Inhabited,DecidableEq
def Reader.enc (x:Reader):List D:=[.bool x.p.SSA,.li (x.p.Classes.map Class.enc),.li (x.p.Globals.map Var.enc),.li (x.p.Externs.map Extern.enc),.li (x.p.Funcs.map Func.enc),.int .i64 x.at_,.int .i64 x.where_,.bool x.first,.int .i64 x.long]
def Reader.dec:List D->Option Reader
 | [.bool v0,.li v1,.li v2,.li v3,.li v4,.int .i64 v5,.int .i64 v6,.bool v7,.int .i64 v8]=>(dX Class.rw v1).bind fun w1=>(dX Var.rw v2).bind fun w2=>(dX Extern.rw v3).bind fun w3=>(dX Func.rw v4).bind fun w4=>some ⟨⟨v0,w1,w2,w3,w4⟩,v5,v6,v7,v8⟩
 | _=>none
theorem Reader.dec_inv:∀ (l:List D) (x:Reader),Reader.dec l=some x->l=x.enc:=by
 intro l x h;unfold Reader.dec at h;split at h
 ·simp only [Tn,SJ] at h;obtain ⟨w1,hw1,w2,hw2,w3,hw3,w4,hw4,rfl⟩:=h;rw [aY hw1,aY hw2,aY hw3,aY hw4]; rfl
 ·simp at h
def Reader.rw:Rw Reader:=⟨Reader.enc,Reader.dec,Reader.dec_inv⟩
theorem Reader.rows (l:List Reader):(∀ x∈l.map Reader.enc,x.length=9)=True:=by
 simp [Reader.enc]
attribute [push_cast] Reader.enc Reader.dec Reader.rows
structure Fault where
 e:Int
 deriving Inhabited,DecidableEq
def Fault.enc (x:Fault):List D:=[.int .i64 x.e]
def Fault.dec:List D->Option Fault
 | [.int .i64 v0]=>some ⟨v0⟩
 | _=>none
theorem Fault.dec_inv:∀ (l:List D) (x:Fault),Fault.dec l=some x->l=x.enc:=by
 intro l x h;unfold Fault.dec at h;split at h
 ·simp only [SJ] at h; subst h; rfl
 ·simp at h
def Fault.rw:Rw Fault:=⟨Fault.enc,Fault.dec,Fault.dec_inv⟩
theorem Fault.rows (l:List Fault):(∀ x∈l.map Fault.enc,x.length=1)=True:=by
 simp [Fault.enc]
attribute [push_cast] Fault.enc Fault.dec Fault.rows
structure Line where
 N:Int
 Words:List (List UInt8)
 deriving Inhabited,DecidableEq
def Line.enc (x:Line):List D:=[.int .i64 x.N,.li (x.Words.map rS.enc)]
def Line.dec:List D->Option Line
 | [.int .i64 v0,.li v1]=>(dX rS v1).bind fun w1=>some ⟨v0,w1⟩
 | _=>none
theorem Line.dec_inv:∀ (l:List D) (x:Line),Line.dec l=some x->l=x.enc:=by
 intro l x h;unfold Line.dec at h;split at h
 ·simp only [Tn,SJ] at h;obtain ⟨w1,hw1,rfl⟩:=h;rw [aY hw1]; rfl
 ·simp at h
def Line.rw:Rw Line:=⟨Line.enc,Line.dec,Line.dec_inv⟩
theorem Line.eta (x:Line):(⟨x.N,x.Words⟩:Line)=x:=rfl
theorem Line.rwe (x:Line):Line.rw.enc x=x.enc:=rfl
theorem Line.rwd (l:List D):Line.rw.dec l=Line.dec l:=rfl
theorem Line.rwm:Line.rw.enc=Line.enc:=rfl
theorem Line.rows (l:List Line):(∀ x∈l.map Line.enc,x.length=2)=True:=by
 simp [Line.enc]
attribute [push_cast] Line.enc Line.dec Line.eta Line.rwe Line.rwd Line.rwm Line.rows
structure RForm where
 Word:List UInt8
 Dst:Bool
 Named:Bool
 Least:Int
 Most:Int
 deriving Inhabited,DecidableEq
def RForm.enc (x:RForm):List D:=[.str x.Word,.bool x.Dst,.bool x.Named,.int .i64 x.Least,.int .i64 x.Most]
def RForm.dec:List D->Option RForm
 | [.str v0,.bool v1,.bool v2,.int .i64 v3,.int .i64 v4]=>some ⟨v0,v1,v2,v3,v4⟩
 | _=>none
theorem RForm.dec_inv:∀ (l:List D) (x:RForm),RForm.dec l=some x->l=x.enc:=by
 intro l x h;unfold RForm.dec at h;split at h
 ·simp only [SJ] at h; subst h; rfl
 ·simp at h
def RForm.rw:Rw RForm:=⟨RForm.enc,RForm.dec,RForm.dec_inv⟩
theorem RForm.rows (l:List RForm):(∀ x∈l.map RForm.enc,x.length=5)=True:=by
 simp [RForm.enc]
attribute [push_cast] RForm.enc RForm.dec RForm.rows
structure Form where
 Word:List UInt8
 Dst:Bool
 Named:Bool
 Least:Int
 Most:Int
 deriving Inhabited,DecidableEq
def Form.enc (x:Form):List D:=[.str x.Word,.bool x.Dst,.bool x.Named,.int .i64 x.Least,.int .i64 x.Most]
def Form.dec:List D->Option Form
 | [.str v0,.bool v1,.bool v2,.int .i64 v3,.int .i64 v4]=>some ⟨v0,v1,v2,v3,v4⟩
 | _=>none
theorem Form.dec_inv:∀ (l:List D) (x:Form),Form.dec l=some x->l=x.enc:=by
 intro l x h;unfold Form.dec at h;split at h
 ·simp only [SJ] at h; subst h; rfl
 ·simp at h
def Form.rw:Rw Form:=⟨Form.enc,Form.dec,Form.dec_inv⟩
theorem Form.rows (l:List Form):(∀ x∈l.map Form.enc,x.length=5)=True:=by
 simp [Form.enc]
attribute [push_cast] Form.enc Form.dec Form.rows
end Lt
end

section
namespace Go.Am
open Go
inductive Sn where
 | Var | Arg | In | Phi | Bind | Frame | Virt | Instr | Term | Block | Func | Class | Extern | Program | Pair | way | Reader | Fault | Line | RForm | Form
 deriving DecidableEq,Inhabited
inductive U where
 | i (k:IntKind) | b8 | bo | s | sl (u:U) | st (n:Sn)
 deriving DecidableEq,Inhabited
abbrev wA:Sn->Type
 | .Var=>Lt.Var
 | .Arg=>Lt.Arg
 | .In=>Lt.In
 | .Phi=>Lt.Phi
 | .Bind=>Lt.Bind
 | .Frame=>Lt.Frame
 | .Virt=>Lt.Virt
 | .Instr=>Lt.Instr
 | .Term=>Lt.Term
 | .Block=>Lt.Block
 | .Func=>Lt.Func
 | .Class=>Lt.Class
 | .Extern=>Lt.Extern
 | .Program=>Lt.Program
 | .Pair=>Lt.Pair
 | .way=>Lt.way
 | .Reader=>Lt.Reader
 | .Fault=>Lt.Fault
 | .Line=>Lt.Line
 | .RForm=>Lt.RForm
 | .Form=>Lt.Form
abbrev El:U->Type
 | .i _=>Int
 | .b8=>UInt8
 | .bo=>Bool
 | .s=>List UInt8
 | .sl u=>List (El u)
 | .st n=>wA n
abbrev Fl:List U->Type
 | []=>Unit
 | [u]=>El u
 | u::v::r=>El u×Fl (v::r)
def Fl.cons:(u:U)->(us:List U)->El u->Fl us->Fl (u::us)
 | _,[],x,_=>x
 | _,_::_,x,y=>(x,y)
def Fl.hd:(u:U)->(us:List U)->Fl (u::us)->El u
 | _,[],x=>x
 | _,_::_,x=>x.1
def Fl.tl:(u:U)->(us:List U)->Fl (u::us)->Fl us
 | _,[],_=>()
 | _,_::_,x=>x.2
structure SD (α:Type) where
 fs:List U
 mkF:Fl fs->α
 un:α->Fl fs
 l1:∀ x,mkF (un x)=x
 l2:∀ y,un (mkF y)=y
 enc:α->List D
 df:α
def sd:(n:Sn)->SD (wA n)
 | .Var=>⟨[.s,.s],fun x=>⟨x.1,x.2⟩,fun x=>(x.Name,x.Type_),fun _=>rfl,fun _=>rfl,Lt.Var.enc,default⟩
 | .Arg=>⟨[(.i .i64),.s,(.i .i64)],fun x=>⟨x.1,x.2.1,x.2.2⟩,fun x=>(x.Kind,x.S,x.N),fun _=>rfl,fun _=>rfl,Lt.Arg.enc,default⟩
 | .In=>⟨[.s,(.i .i64),.s,(.i .i64)],fun x=>⟨x.1,⟨x.2.1,x.2.2.1,x.2.2.2⟩⟩,fun x=>(x.Block,x.A.Kind,x.A.S,x.A.N),fun _=>rfl,fun _=>rfl,Lt.In.enc,default⟩
 | .Phi=>⟨[.s,(.sl (.st .In))],fun x=>⟨x.1,x.2⟩,fun x=>(x.Dst,x.Ins),fun _=>rfl,fun _=>rfl,Lt.Phi.enc,default⟩
 | .Bind=>⟨[.s,(.i .i64),.s,(.i .i64)],fun x=>⟨x.1,⟨x.2.1,x.2.2.1,x.2.2.2⟩⟩,fun x=>(x.Name,x.A.Kind,x.A.S,x.A.N),fun _=>rfl,fun _=>rfl,Lt.Bind.enc,default⟩
 | .Frame=>⟨[.s,.s,(.i .i64),(.sl (.st .Bind))],fun x=>⟨x.1,x.2.1,x.2.2.1,x.2.2.2⟩,fun x=>(x.Func,x.Block,x.At,x.Vars),fun _=>rfl,fun _=>rfl,Lt.Frame.enc,default⟩
 | .Virt=>⟨[.s,(.sl (.st .Arg))],fun x=>⟨x.1,x.2⟩,fun x=>(x.Class,x.Vals),fun _=>rfl,fun _=>rfl,Lt.Virt.enc,default⟩
 | .Instr=>⟨[(.i .i64),.s,.s,(.sl (.st .Arg)),(.sl (.st .Frame)),(.sl (.st .Virt))],fun x=>⟨x.1,x.2.1,x.2.2.1,x.2.2.2.1,x.2.2.2.2.1,x.2.2.2.2.2⟩,fun x=>(x.Op,x.Dst,x.Name,x.Args,x.Frames,x.Objs),fun _=>rfl,fun _=>rfl,Lt.Instr.enc,default⟩
 | .Term=>⟨[(.i .i64),(.i .i64),.s,(.i .i64),(.sl .s),(.i .i64)],fun x=>⟨x.1,⟨x.2.1,x.2.2.1,x.2.2.2.1⟩,x.2.2.2.2.1,x.2.2.2.2.2⟩,fun x=>(x.Kind,x.A.Kind,x.A.S,x.A.N,x.To,x.N),fun _=>rfl,fun _=>rfl,Lt.Term.enc,default⟩
 | .Block=>⟨[.s,(.sl (.st .Phi)),(.sl (.st .Instr)),(.i .i64),(.i .i64),.s,(.i .i64),(.sl .s),(.i .i64)],fun x=>⟨x.1,x.2.1,x.2.2.1,⟨x.2.2.2.1,⟨x.2.2.2.2.1,x.2.2.2.2.2.1,x.2.2.2.2.2.2.1⟩,x.2.2.2.2.2.2.2.1,x.2.2.2.2.2.2.2.2⟩⟩,fun x=>(x.Name,x.Phis,x.Code,x.End.Kind,x.End.A.Kind,x.End.A.S,x.End.A.N,x.End.To,x.End.N),fun _=>rfl,fun _=>rfl,Lt.Block.enc,default⟩
 | .Func=>⟨[.s,.s,(.sl (.st .Var)),(.sl (.st .Var)),(.sl (.st .Block))],fun x=>⟨x.1,x.2.1,x.2.2.1,x.2.2.2.1,x.2.2.2.2⟩,fun x=>(x.Name,x.Result,x.Params,x.Vars,x.Blocks),fun _=>rfl,fun _=>rfl,Lt.Func.enc,default⟩
 | .Class=>⟨[.s,(.sl (.st .Var))],fun x=>⟨x.1,x.2⟩,fun x=>(x.Name,x.Fields),fun _=>rfl,fun _=>rfl,Lt.Class.enc,default⟩
 | .Extern=>⟨[.s,(.i .i64)],fun x=>⟨x.1,x.2⟩,fun x=>(x.Name,x.N),fun _=>rfl,fun _=>rfl,Lt.Extern.enc,default⟩
 | .Program=>⟨[.bo,(.sl (.st .Class)),(.sl (.st .Var)),(.sl (.st .Extern)),(.sl (.st .Func))],fun x=>⟨x.1,x.2.1,x.2.2.1,x.2.2.2.1,x.2.2.2.2⟩,fun x=>(x.SSA,x.Classes,x.Globals,x.Externs,x.Funcs),fun _=>rfl,fun _=>rfl,Lt.Program.enc,default⟩
 | .Pair=>⟨[.s,.s],fun x=>⟨x.1,x.2⟩,fun x=>(x.F0,x.F1),fun _=>rfl,fun _=>rfl,Lt.Pair.enc,default⟩
 | .way=>⟨[(.i .i64),(.i .i64),(.i .i64)],fun x=>⟨x.1,x.2.1,x.2.2⟩,fun x=>(x.from_,x.at_,x.to),fun _=>rfl,fun _=>rfl,Lt.way.enc,default⟩
 | .Reader=>⟨[.bo,(.sl (.st .Class)),(.sl (.st .Var)),(.sl (.st .Extern)),(.sl (.st .Func)),(.i .i64),(.i .i64),.bo,(.i .i64)],fun x=>⟨⟨x.1,x.2.1,x.2.2.1,x.2.2.2.1,x.2.2.2.2.1⟩,x.2.2.2.2.2.1,x.2.2.2.2.2.2.1,x.2.2.2.2.2.2.2.1,x.2.2.2.2.2.2.2.2⟩,fun x=>(x.p.SSA,x.p.Classes,x.p.Globals,x.p.Externs,x.p.Funcs,x.at_,x.where_,x.first,x.long),fun _=>rfl,fun _=>rfl,Lt.Reader.enc,default⟩
 | .Fault=>⟨[(.i .i64)],fun x=>⟨x⟩,fun x=>x.e,fun _=>rfl,fun _=>rfl,Lt.Fault.enc,default⟩
 | .Line=>⟨[(.i .i64),(.sl .s)],fun x=>⟨x.1,x.2⟩,fun x=>(x.N,x.Words),fun _=>rfl,fun _=>rfl,Lt.Line.enc,default⟩
 | .RForm=>⟨[.s,.bo,.bo,(.i .i64),(.i .i64)],fun x=>⟨x.1,x.2.1,x.2.2.1,x.2.2.2.1,x.2.2.2.2⟩,fun x=>(x.Word,x.Dst,x.Named,x.Least,x.Most),fun _=>rfl,fun _=>rfl,Lt.RForm.enc,default⟩
 | .Form=>⟨[.s,.bo,.bo,(.i .i64),(.i .i64)],fun x=>⟨x.1,x.2.1,x.2.2.1,x.2.2.2.1,x.2.2.2.2⟩,fun x=>(x.Word,x.Dst,x.Named,x.Least,x.Most),fun _=>rfl,fun _=>rfl,Lt.Form.enc,default⟩
end Go.Am
end

section
namespace Go.Am
open Go.MapKept
def jh:D->D->Bool
 | .int k a,.int k' b=>decide (k=k')&&decide (a=b)
 | .bool a,.bool b=>a==b
 | .str a,.str b=>decide (a=b)
 | _,_=>false
def iD:TK->D->Bool
 | .int k,.int k' _=>decide (k'=k)
 | .bool,.bool _=>true
 | .str,.str _=>true
 | _,_=>false
def ll:List (D×Sh×D)->D->Option (Sh×D)
 | [],_=>none
 | x::l,k=>match jh x.1 k with
  | true=>some x.2
  | false=>ll l k
def gF:List (D×Sh×D)->D->Sh×D->List (D×Sh×D)
 | [],k,v=>[(k,v)]
 | x::l,k,v=>match jh x.1 k with
  | true=>(k,v)::l
  | false=>x::gF l k v
def yy:List (D×Sh×D)->D->List (D×Sh×D)
 | [],_=>[]
 | x::l,k=>match jh x.1 k with
  | true=>l
  | false=>x::yy l k
theorem lF {P:Program} {d:TypeDesc} {k k':D} {v v':Value} {H:FH} (hk:iD (fw P d) k=true) (hk':iD (fw P d) k'=true) (h:FDx H k v) (h':FDx H k' v'):IsKey d v/\(jh k k'=true ↔ v=v'):=by
 cases d <;> simp only [fw] at hk hk' <;> cases k <;> simp only [iD] at hk <;> (first | (cases hk; done) | skip) <;> cases k' <;> simp only [iD] at hk' <;> (first | (cases hk'; done) | skip)
 ·obtain rfl:=gP h; obtain rfl:=gP h'; exact ⟨trivial,by simp [jh]⟩
 ·obtain ⟨rfl,_⟩:=dT h; obtain ⟨rfl,_⟩:=dT h';simp only [decide_eq_true_eq] at hk hk';subst hk; subst hk';exact ⟨rfl,by simp [jh]⟩
 ·obtain ⟨rfl,_⟩:=fH h; obtain ⟨rfl,_⟩:=fH h'; exact ⟨trivial,by simp [jh]⟩
theorem vf {κ:TK} {k:D} (h:iD κ k=true):k.isKey=true:=by
 cases κ <;> cases k <;> first | rfl | cases h
theorem sD {P:Program} {d:TypeDesc} {w:World} {H:FH} {k:D} {kv:Value} (hk:iD (fw P d) k=true) (hkv:FDx H k kv):∀ (l:List (D×Sh×D)) (es:List MapEntry) (i:Nat) (f:Fp),MpO w H l es f->(l.all fun x=>iD (fw P d) x.1)=true ->
  (ll l k=none/\yy l k=l/\Instr.findNow d kv es i=some none/\(∀ e∈es,e.key≠kv)/\∀ w' v vv b n (fv:Fp),(∀ b,f b≠0->w'.heap[b]? = w.heap[b]?)->OD w' H n v.1 v.2 fv vv->MpO w' H (gF l k v) (es++[⟨kv,vv,b⟩]) (fun b=>fv b+f b)) \/
  ∃ j x e n,∃ f1 f2:Fp,ll l k=some x/\Instr.findNow d kv es i=some (some (i+j,e.val))/\OD w H n x.1 x.2 f1 e.val/\(∀ b,f b=f1 b+f2 b)/\es[j]? = some e/\e.key=kv /\
   (∀ w' v vv n (fv:Fp),(∀ b,f2 b≠0->w'.heap[b]? = w.heap[b]?)->OD w' H n v.1 v.2 fv vv->MpO w' H (gF l k v) (es.set j { e with key:=kv,val:=vv }) (fun b=>fv b+f2 b))/\MpO w H (yy l k) (es.eraseIdx j) f2
 | [],[],i,f,h,_=>.inl ⟨rfl,rfl,rfl,by simp,fun w' v vv b n fv hw h'=>⟨⟨vf hk,hkv⟩,fv,f,n,fun _=>rfl,h',h⟩⟩
 | x::l,e::es,i,f,h,ha=>by
  simp only [S6,SL] at ha;obtain ⟨⟨h1,h2⟩,g1,g2,n,h3,h4,hr⟩:=h;obtain ⟨q1,q2⟩:=lF (P:=P) ha.1 hk h2 hkv;obtain ⟨p1,_⟩:=lF (P:=P) hk hk hkv hkv;obtain ⟨r,e1,e2⟩:=sameNow_of_keys p1 q1;cases r with
  | true=>
   have hke:=e2.1 rfl
   have hq:=q2.2 hke.symm
   refine .inr ⟨0,x.2,e,n,g1,g2,by simp only [ll,hq],by simp [Instr.findNow,e1],h4,h3,rfl,hke.symm,fun w' v vv n fv hw hv=>?_,?_⟩
   ·simp only [gF,hq,List.set_cons_zero];exact ⟨⟨vf hk,hkv⟩,fv,g2,n,fun _=>rfl,hv,kn (fun _ _ _ h=>h) hw hr⟩
   ·simp only [yy,hq,List.eraseIdx_cons_zero]; exact hr
  | false=>
   have hne:kv≠e.key:=fun q=>by have:=e2.2 q; cases this
   have hq:jh x.1 k=false:=by
    cases hb:jh x.1 k with
    | false=>rfl
    | true=>exact absurd (q2.1 hb).symm hne
   rcases sD hk hkv l es (i+1) g2 hr ha.2 with ⟨k1,k0,k2,k3,k4⟩ | ⟨j,x',e',n',f1,f2,k1,k2,k3,k4,k5,k6,k7,k8⟩
   ·refine .inl ⟨by simp only [ll,hq,k1],by simp only [yy,hq,k0],by simp [Instr.findNow,e1,k2],fun y hy=>?_,fun w' v vv b n' fv hw hv=>?_⟩
    ·rcases SS.1 hy with rfl | hy
     ·exact fun q=>hne q.symm
     ·exact k3 y hy
    ·simp only [gF,hq];exact ⟨⟨h1,h2⟩,g1,fun b=>fv b+g2 b,n,fun b=>by have:=h3 b; dsimp only; omega,be (fun _ _ _ h=>h) n n _ _ _ _ (SN _) (fun b hb=>hw b (by have:=h3 b; omega)) h4,k4 w' v vv b n' fv (fun b hb=>hw b (by have:=h3 b; omega)) hv⟩
   ·refine .inr ⟨j+1,x',e',n',f1,fun b=>g1 b+f2 b,by simp only [ll,hq,k1],by simp [Instr.findNow,e1,k2]; omega,k3,fun b=>by have:=h3 b; have:=k4 b; dsimp only; omega,by simpa using k5,k6,fun w' v vv n'' fv hw hv=>?_,?_⟩
    ·simp only [gF,hq,List.set_cons_succ];exact ⟨⟨h1,h2⟩,g1,fun b=>fv b+f2 b,n,fun b=>by dsimp only; omega,be (fun _ _ _ h=>h) n n _ _ _ _ (SN _) (fun b hb=>hw b (by dsimp only; omega)) h4,k7 w' v vv n'' fv (fun b hb=>hw b (by dsimp only; omega)) hv⟩
    ·simp only [yy,hq,List.eraseIdx_cons_succ];exact ⟨⟨h1,h2⟩,g1,f2,n,fun _=>rfl,h4,k8⟩
 | [],_::_,_,_,h,_=>h.elim
 | _::_,[],_,_,h,_=>h.elim
section
variable {P:Program} {w:World} {H:FH}
theorem Eb {es:Array MapEntry} {j:Nat} {e:MapEntry} (h:es[j]? = some e) (f:MapEntry->MapEntry):(es.modify j f).toList=es.toList.set j (f e):=by
 apply Tw
 intro i;rw [Array.getElem?_toList,Array.getElem?_modify,Tp];by_cases hi:j=i
 ·subst hi;have hl:j<es.toList.length:=by simpa using (T9.1 h).1
  rw [if_pos rfl,if_pos rfl,if_pos hl,h]; rfl
 ·rw [if_neg hi,if_neg hi]; simp
theorem u9 {mt kt et:TypeId} {d:TypeDesc} {b ck:Nat} {es:Array MapEntry} {l:List (D×Sh×D)} {f:Fp} {k:D} {kv vv:Value} (hm:P.underlying mt=some (.map kt et)) (hd:P.underlying kt=some d) (hb:w.heap[b]? = some (.map es ck)) (hs:Stamped es ck)
  (hl:MpO w H l es.toList f) (hfb:f b=0) (ha:(l.all fun x=>iD (fw P d) x.1)=true) (hk:iD (fw P d) k=true) (hkv:FDx H k kv) {v:Sh×D} {n:Nat} {fv:Fp} (hvb:fv b=0) (hv:OD w H n v.1 v.2 fv vv) :
  ∃ es' ck',∃ f2:Fp,(Instr.mapUpdate mt (.map (some b)) kv vv).run P w=.ok () { w with heap:=w.heap.setIfInBounds b (.map es' ck') }/\Stamped es' ck'/\(∀ c,f2 c<=f c)/\MpO { w with heap:=w.heap.setIfInBounds b (.map es' ck') } H (gF l k v) es'.toList (fun c=>fv c+f2 c):=by
 have hkey:IsKey d kv:=(lF (P:=P) hk hk hkv hkv).1
 have hne:∀ es' ck' c,c≠b->({ w with heap:=w.heap.setIfInBounds b (.map es' ck') }:World).heap[c]? = w.heap[c]? := fun es' ck' c hc=>(heap_set hb).2 c hc
 have hod:∀ es' ck',OD { w with heap:=w.heap.setIfInBounds b (.map es' ck') } H n v.1 v.2 fv vv:=fun es' ck'=>be (fun _ _ _ h=>h) n n _ _ _ _ (SN _) (fun c hc=>hne es' ck' c (fun e=>by subst e; exact hc hvb)) hv
 rcases sD hk hkv l es.toList 0 f hl ha with ⟨_,_,g2,g3,g4⟩ | ⟨j,x,e,n',f1,f2,_,g2,_,g3,g4,g5,g6,_⟩
 ·refine ⟨es.push ⟨kv,vv,ck⟩,ck+1,f,?_,stamped_push hs g3,fun _=>SN _,?_⟩
  ·simp [Instr.mapUpdate,run_underlying hm,MapKept.run_getObj_map hb,run_checkKey hd hkey,run_findKey hd g2,run_setObj_map _ hb,Result.andThen]
  ·rw [Array.toList_push]; exact g4 _ v vv ck n fv (fun c hc=>hne _ _ c (fun e=>by subst e; exact hc hfb)) (hod _ _)
 ·have hj:es[j]? = some e:=by simpa using g4
  rw [TJ] at g2;refine ⟨es.modify j fun e=>{ e with key:=kv,val:=vv },ck,f2,?_,stamped_modify hs _ _ (fun _ _=>rfl) (fun e' _ he'=>by rw [hj] at he'; obtain rfl:=Option.some.inj he'; exact g5.symm),fun c=>by have:=g3 c; omega,?_⟩
  ·simp [Instr.mapUpdate,run_underlying hm,MapKept.run_getObj_map hb,run_checkKey hd hkey,run_findKey hd g2,hj,g5,run_keyThatStays hkey,run_setObj_map _ hb,Result.andThen]
  ·rw [Eb hj]; exact g6 _ v vv n fv (fun c hc=>hne _ _ c (fun e=>by subst e; have:=g3 c; omega)) (hod _ _)
theorem ER {mt kt et ty:TypeId} {d:TypeDesc} {b ck:Nat} {es:Array MapEntry} {l:List (D×Sh×D)} {f:Fp} {k:D} {kv:Value} (hm:P.underlying mt=some (.map kt et)) (hd:P.underlying kt=some d) (hb:w.heap[b]? = some (.map es ck)) (hs:Stamped es ck)
  (hl:MpO w H l es.toList f) (hfb:f b=0) (ha:(l.all fun x=>iD (fw P d) x.1)=true) (hk:iD (fw P d) k=true) (hkv:FDx H k kv) (ats:Array TypeId) (hat:ats[0]? = some mt) :
  ∃ es',∃ f2:Fp,(Builtin.delete_ ats ty #[.map (some b),kv]).run P w=.ok (.tuple #[]) { w with heap:=w.heap.setIfInBounds b (.map es' ck) }/\Stamped es' ck/\(∀ c,f2 c<=f c)/\MpO { w with heap:=w.heap.setIfInBounds b (.map es' ck) } H (yy l k) es'.toList f2:=by
 have hkey:IsKey d kv:=(lF (P:=P) hk hk hkv hkv).1
 have hfr:∀ es' (f2:Fp),(∀ c,f2 c<=f c)->∀ {l':List (D×Sh×D)} {es2:List MapEntry},MpO w H l' es2 f2->MpO { w with heap:=w.heap.setIfInBounds b (.map es' ck) } H l' es2 f2:=fun es' f2 hf2 _ _ h=>kn (fun _ _ _ h=>h) (fun c hc=>(heap_set hb).2 c (fun e=>by subst e; have:=hf2 c; omega)) h
 rcases sD hk hkv l es.toList 0 f hl ha with ⟨_,g1,g2,_,_⟩ | ⟨j,x,e,n',f1,f2,_,g2,_,g3,g4,_,_,g5⟩
 ·refine ⟨es,f,?_,hs,fun _=>SN _,hfr _ _ (fun _=>SN _) (by rw [g1]; exact hl)⟩;simp [Builtin.delete_,hat,run_underlying hm,MapKept.run_getObj_map hb,run_checkKey hd hkey,run_findKey hd g2,run_setObj_map _ hb,Result.andThen]
 ·rw [TJ] at g2;have hle:∀ c,f2 c<=f c:=fun c=>by have:=g3 c; omega
  refine ⟨es.eraseIdxIfInBounds j,f2,?_,stamped_erase hs j,hle,hfr _ _ hle ?_⟩
  ·simp [Builtin.delete_,hat,run_underlying hm,MapKept.run_getObj_map hb,run_checkKey hd hkey,run_findKey hd g2,run_setObj_map _ hb,Result.andThen]
  ·have hj:j<es.size:=by have:=ae g4; simpa using this
   have:(es.eraseIdxIfInBounds j).toList=es.toList.eraseIdx j:=by simp [Array.eraseIdxIfInBounds,hj]
   rw [this]; exact g5
theorem s8 {mt kt et:TypeId} {d:TypeDesc} {b ck:Nat} {es:Array MapEntry} {l:List (D×Sh×D)} {f:Fp} {k:D} {kv z:Value} (hm:P.underlying mt=some (.map kt et)) (hd:P.underlying kt=some d) (hb:w.heap[b]? = some (.map es ck))
  (hl:MpO w H l es.toList f) (ha:(l.all fun x=>iD (fw P d) x.1)=true) (hk:iD (fw P d) k=true) (hkv:FDx H k kv) (hz:(zeroValue et).run P w=.ok z w) (ok:Bool) :
  ∃ v,(Instr.lookup mt (.map (some b)) kv ok).run P w=.ok (if ok then .tuple #[v,.bool (ll l k).isSome] else v) w /\
   (match ll l k with | some x=>∃ n,∃ f1 f2:Fp,OD w H n x.1 x.2 f1 v/\(∀ c,f c=f1 c+f2 c)/\MpO w H (gF l k (x.1,.any)) es.toList f2 | none=>v=z/\MpO w H l es.toList f):=by
 have hkey:IsKey d kv:=(lF (P:=P) hk hk hkv hkv).1
 rcases sD hk hkv l es.toList 0 f hl ha with ⟨g1,_,g2,_,_⟩ | ⟨j,x,e,n,f1,f2,g1,g2,g3,g4,g5,g6,g7,_⟩
 ·refine ⟨z,?_,by rw [g1]; exact ⟨rfl,hl⟩⟩;rw [g1];simp [Instr.lookup,run_underlying hm,MapKept.run_getObj_map hb,run_checkKey hd hkey,run_findKey hd g2,hz,Result.andThen]
 ·refine ⟨e.val,?_,?_⟩
  ·rw [g1];simp [Instr.lookup,run_underlying hm,MapKept.run_getObj_map hb,run_checkKey hd hkey,run_findKey hd g2,Result.andThen]
  ·rw [g1];refine ⟨n,f1,f2,g3,g4,?_⟩;have hany:OD w H (n+1) x.1 .any (fun _=>0) e.val:=by
    cases x.1 with
    | fr=>exact cw.2 ⟨fun _=>rfl,0,trivial⟩
    | ow sub=>exact fun _=>rfl
   have h:=g7 w (x.1,.any) e.val (n+1) (fun _=>0) (fun _ _=>rfl) hany
   have e1:es.toList.set j { e with key:=kv,val:=e.val }=es.toList:=by
    refine Tw fun i=>?_
    rw [Tp];split
    ·rename_i e2; subst e2;rw [g5];split
     ·obtain ⟨a,b,c⟩:=e; dsimp only at g6; rw [g6]
     ·rename_i h; rw [SZ (by omega)] at g5; cases g5
    ·rfl
   rw [e1] at h;simpa using h
end
theorem Cg {F:Nm->Fp} {n:Nm} {f':Fp}:∀ {m:Mm},n ∉ m.map (·.1)->∀ c,tot (upd F n f') m c=tot F m c
 | [],_,_=>rfl
 | x::m,h,c=>by
  simp only [List.map_cons,SS,not_or] at h;simp only [tot];rw [gS (fun e=>h.1 e.symm),Cg h.2]
theorem vL {F:Nm->Fp} {n:Nm} {f':Fp}:∀ {m:Mm} {r:Root},aa m n=some r->(m.map (·.1)).Nodup->∀ c,tot (upd F n f') m c+F n c=tot F m c+f' c
 | [],_,h,_,_=>by simp [aa] at h
 | (k,x)::m,r,h,hk,c=>by
  simp only [List.map_cons,Ti] at hk;simp only [tot];by_cases e:k=n
  ·subst e;rw [bR,Cg hk.1]; omega
  ·simp only [aa] at h;rw [if_neg e] at h;rw [gS e];have:=vL h hk.2 c (F:=F) (f':=f')
   omega
section
variable {P:Program} {g:G} {s:S} {a:Act} {w:World} {H:FH} {γ:Gam} {F:Nm->Fp}
theorem EH (h:RX g s a w H γ F) {n:Nm} {l l':List (D×Sh×D)} (hr:aa s.m n=some ⟨false,[.mp l]⟩) {v:Value} (hγ:γ n=.gh v) {w':World} {H':FH} {f':Fp}
  (hT:TR w' H' γ s.m (.mp l') f' v) (hle:∀ c,tot F s.m c+f' c<=F n c+1) (hlt:∀ c,f' c≠0->c<w.heap.size/\(∀ o,H' c o=none)/\(g.own0 c≠0\/g.w0.heap.size<=c))
  (hsz:w'.heap.size=w.heap.size) (hos:w'.os=w.os) (htp:w'.tape=w.tape) (hout:w'.output=w.output)
  (hb:∀ c,F n c=0->w'.heap[c]? = w.heap[c]?) (hH:∀ b o y,H b o=some y->H' b o=some y) (hag:∀ b o y,H' b o=some y->w'.cell? ⟨b,o,none⟩=some y)
  (hnew:∀ b o,H' b o≠none->H b o=none->F n b≠0/\f' b=0)
  (hnz:(∀ b,Thawed w b->Thawed w' b)/\∀ b o x l c,H' b o=some (.slice x l c)->H b o=none->Thawed w' b) :
  RX g ⟨s.t,bD s.m n ⟨false,[.mp l']⟩⟩ a w' H' γ (upd F n f'):=by
 have hgr:∀ k,aa (bD s.m n ⟨false,[.mp l']⟩) k=if n=k then some ⟨false,[.mp l']⟩ else aa s.m k:=fun k=>dQ hr
 have hK:Keeps w γ s.m w' γ (bD s.m n ⟨false,[.mp l']⟩):=by
  have fr:∀ q,bw s.m q->q.root≠n->plA w' γ q=plA w γ q/\plV w' γ q=plV w γ q:=fun q hq hne=>qg h.mem hq (fun c hc=>hb c (by
   obtain ⟨r',h1,_⟩:=aj.1 hq;have:=oo (F:=F) (ab hr) (ab h1) (fun e=>hne e.symm) c
   have:=h.mem.le1 c
   dsimp only at *; omega))
  constructor
  ·intro q hq;by_cases e:q.root=n
   ·obtain ⟨r',h1,h2⟩:=aj.1 hq;rw [e,hr] at h1;obtain rfl:=Option.some.inj h1;refine ⟨?_,?_⟩
    ·rw [aj,hgr,if_pos e.symm];refine ⟨_,rfl,?_⟩;unfold aG at h2 ⊢;cases hp:q.path with
     | nil=>rw [hp] at h2; exact h2
     | cons st u=>
      rw [hp] at h2;dsimp only at h2;cases ho:q.off with
      | zero=>rw [ho] at h2; exact h2.elim
      | succ k=>rw [ho] at h2; exact h2.elim
    ·unfold plA;cases hp:q.path with
     | nil=>rw [e,hγ]
     | cons st u=>
      unfold aG at h2;rw [hp] at h2;dsimp only at h2;cases ho:q.off with
      | zero=>rw [ho] at h2; exact h2.elim
      | succ k=>rw [ho] at h2; exact h2.elim
   ·exact ⟨aj.2 (by rw [hgr,if_neg (fun e2=>e e2.symm)]; exact aj.1 hq),(fr q hq e).1⟩
  ·intro q hq;by_cases e:q.root=n
   ·obtain ⟨r',h1,h2⟩:=bn.1 hq;rw [e,hr] at h1;obtain rfl:=Option.some.inj h1;unfold bm at h2;cases ho:q.off with
    | zero=>
     cases hp:q.path with
     | nil=>
      refine ⟨?_,?_⟩
      ·rw [bn,hgr,if_pos e.symm];refine ⟨_,rfl,?_⟩;unfold bm;rw [ho,hp]; trivial
      ·unfold plV;rw [hp,e,hγ]; rfl
     | cons st u=>rw [ho,hp] at h2; exact h2.elim
    | succ k=>rw [ho] at h2; cases hp:q.path <;> (rw [hp] at h2; exact h2.elim)
   ·exact ⟨bn.2 (by rw [hgr,if_neg (fun e2=>e e2.symm)]; exact bn.1 hq),(fr q (dM hq) e).2⟩
 have htot:∀ c,tot (upd F n f') (⟨s.t,bD s.m n ⟨false,[.mp l']⟩⟩:S).m c+F n c=tot F s.m c+f' c:=fun c=>by
  show tot (upd F n f') (bD s.m n ⟨false,[.mp l']⟩) c+F n c=_
  rw [cu]; exact vL hr h.mem.keys c
 have hge:∀ c,F n c<=tot F s.m c:=fun c=>aQ (F:=F) (ab hr) c
 refine ⟨⟨hag,fun x hx=>?_,by rw [kc]; exact h.mem.keys,fun c=>by have:=htot c; have:=hle c; omega,fun c hc=>?_,fun c hc o=>?_⟩,?_,h.nt,h.df,fun i=>bu hK hH (h.t i)⟩
 ·rcases lI h.mem.keys hx with ⟨hn,hx⟩ | rfl
  ·rw [gS hn];exact aF hK hH rfl (fun c hc=>hb c (by
    have:=oo (F:=F) (ab hr) hx (fun e=>hn e.symm) c
    have:=h.mem.le1 c
    dsimp only at *; omega)) (h.mem.roots x hx)
  ·unfold aV;dsimp only;rw [if_neg (by simp)];refine ⟨v,_,hγ,rfl,?_⟩;rw [bR]; exact hT
 ·rw [hsz];by_cases hf:f' c=0
  ·exact h.mem.lt c (by have:=htot c; omega)
  ·exact (hlt c hf).1
 ·cases hc1:H' c o with
  | none=>rfl
  | some y=>
   exfalso
   by_cases hf:f' c=0
   ·cases hc2:H c o with
    | some z=>
     have:tot F s.m c=0:=by
      rcases S7 (tot F s.m c) with h' | h'
      ·exact h'
      ·have:=h.mem.nofz c (by omega) o; rw [hc2] at this; cases this
     have:=htot c; omega
    | none=>
     have h3:=(hnew c o (by rw [hc1]; simp) hc2).1
     have:=htot c; have:=h.mem.le1 c; have:=hge c; omega
   ·have:=(hlt c hf).2.1 o; rw [hc1] at this; cases this
 ·have hfr:=h.fr
  have hown:∀ c,F n c≠0->g.own0 c≠0\/g.w0.heap.size<=c:=fun c hc=>hfr.tt c (by have:=hge c; omega)
  refine ⟨by rw [hsz]; exact hfr.size,by rw [hos]; exact hfr.os,by rw [htp]; exact hfr.tape,by rw [hout]; exact hfr.output,fun k hk h0=>?_,fun b o y hy=>hH _ _ _ (hfr.hold b o y hy),fun b o h1 h2=>?_,fun b hb2=>?_,fun b hb2=>hnz.1 b (hfr.nz.1 b hb2),fun b o x l2 c h1 h2=>?_⟩
  ·rw [hb k (by
    rcases S7 (F n k) with h' | h'
    ·exact h'
    ·rcases hown k (by omega) with h'' | h''
     ·exact absurd h0 h''
     ·omega)]
   exact hfr.block k hk h0
  ·cases hc:H b o with
   | some z=>exact hfr.hnew b o (by rw [hc]; simp) h2
   | none=>exact hown b (hnew b o h1 hc).1
  ·by_cases hf:f' b=0
   ·exact hfr.tt b (by have:=htot b; omega)
   ·exact (hlt b hf).2.2
  ·cases hc:H b o with
   | some z=>
    have:=hH _ _ _ hc
    rw [h1] at this;obtain rfl:=Option.some.inj this;exact hnz.1 b (hfr.nz.2 b o x l2 c hc h2)
   | none=>exact hnz.2 b o x l2 c h1 hc
theorem Pv (h:Mem w H γ s.m F) {n:Nm} {l:List (D×Sh×D)} (hr:aa s.m n=some ⟨false,[.mp l]⟩) :
  ∃ b es ck,∃ f:Fp,γ n=.gh (.map (some b))/\w.heap[b]? = some (.map es ck)/\Stamped es ck/\MpO w H l es.toList f/\(∀ c,F n c=f c+if c=b then 1 else 0)/\f b=0:=by
 have hroot:=h.roots _ (ab hr)
 unfold aV at hroot;dsimp only at hroot;rw [if_neg (by simp)] at hroot;obtain ⟨v,t,h1,h2,h3⟩:=hroot;obtain rfl:t=.mp l:=by simpa using h2.symm
 obtain ⟨b,es,ck,f,rfl,k2,k3,k4,k5⟩:=h3;refine ⟨b,es,ck,f,h1,k2,k3,k4,k5,?_⟩;have:=k5 b
 rw [if_pos rfl] at this;have:=h.le1 b
 have:=aQ (F:=F) (ab hr) b
 dsimp only at *; omega
theorem Dm {b:Nat} {es es':Array MapEntry} {ck ck':Nat} (hb:w.heap[b]? = some (.map es ck)):∀ c,Thawed w c->Thawed { w with heap:=w.heap.setIfInBounds b (.map es' ck') } c:=fun c h0=>h0.of_block ((heap_set hb).2 c (fun e=>by
 obtain ⟨cs,ty,e2⟩:=h0;subst e;rw [hb] at e2; cases e2))
theorem Ld {w:World} {b:Nat} {es es':Array MapEntry} {ck ck':Nat} (hb:w.heap[b]? = some (.map es ck)) (a:Addr):({ w with heap:=w.heap.setIfInBounds b (.map es' ck') }:World).cell? a=w.cell? a:=by
 unfold World.cell?;by_cases h:a.block=b
 ·rw [h,(heap_set hb).1,hb]
 ·rw [(heap_set hb).2 _ h]
theorem qZ (h:RX g s a w H γ F) {n:Nm} {l l':List (D×Sh×D)} (hr:aa s.m n=some ⟨false,[.mp l]⟩) {b ck ck':Nat} {es es':Array MapEntry} {f f':Fp} (hγ:γ n=.gh (.map (some b))) (hb:w.heap[b]? = some (.map es ck)) (hF:∀ c,F n c=f c+if c=b then 1 else 0)
  (hs':Stamped es' ck') (hl':MpO { w with heap:=w.heap.setIfInBounds b (.map es' ck') } H l' es'.toList f') (hle:∀ c,tot F s.m c+f' c<=f c+1) (hlt:∀ c,f' c≠0->c<w.heap.size/\(∀ o,H c o=none)/\(g.own0 c≠0\/g.w0.heap.size<=c)) :
  RX g ⟨s.t,bD s.m n ⟨false,[.mp l']⟩⟩ a { w with heap:=w.heap.setIfInBounds b (.map es' ck') } H γ (upd F n (fun c=>f' c+if c=b then 1 else 0)):=by
 have hcell:=fun a=>Ld (es':=es') (ck':=ck') hb a
 have hset:=heap_set (o':=.map es' ck') hb
 have htb:tot F s.m b≠0:=by have:=aQ (F:=F) (ab hr) b; have:=hF b; rw [if_pos rfl] at this; dsimp only at *; omega
 refine EH h hr hγ ⟨b,es',ck',f',rfl,hset.1,hs',hl',fun _=>rfl⟩ (fun c=>by have:=hle c; have:=hF c; (try dsimp only); omega) (fun c hc=>?_) (by simp) rfl rfl rfl (fun c hc=>hset.2 c (fun e=>by subst e; have:=hF c; rw [if_pos rfl] at this; omega)) (fun _ _ _ h=>h) (fun b' o y hy=>(hcell _).trans (h.mem.agree b' o y hy)) (fun b o h1 h2=>absurd h2 h1) ⟨Dm hb,fun c o x y z h1 h2=>by rw [h2] at h1; cases h1⟩;by_cases e:c=b
 ·subst e;exact ⟨h.mem.lt c htb,h.mem.nofz c htb,h.fr.tt c htb⟩
 ·(try dsimp only at hc)
  rw [if_neg e] at hc;exact hlt c (by omega)
theorem JP (h:RX g s a w H γ F) {n:Nm} (hno:n.isOut=false) (hn:aa s.m n=none) :
  ∃ γ' F',RX g ⟨s.t,(n,⟨false,[.mp []]⟩)::s.m⟩ a (w.alloc (.map #[] 0)) H γ' F'/\γ' n=.gh (.map (some w.heap.size)):=by
 have hold:∀ k,k<w.heap.size->(w.alloc (.map #[] 0)).heap[k]? = w.heap[k]? := fun k hk=>cp hk
 have h1:=pG h (w':=w.alloc (.map #[] 0)) (by simp) rfl rfl rfl (fun b hb=>.inl (hold b hb))
 have hz:tot F s.m w.heap.size=0:=by
  rcases S7 (tot F s.m w.heap.size) with h' | h'
  ·exact h'
  ·have:=h.mem.lt w.heap.size (by omega); omega
 refine di h1 hno hn (v:=.map (some w.heap.size)) (t:=.mp []) (f:=fun b=>if b=w.heap.size then 1 else 0) ⟨w.heap.size,#[],0,fun _=>0,rfl,br,stamped_empty 0,fun _=>rfl,fun _=>(TJ _).symm⟩ (fun b=>?_) (fun b hb=>?_) (fun b hb=>?_)
 ·by_cases e:b=w.heap.size
  ·subst e; rw [hz]; simp
  ·rw [if_neg e]; have:=h.mem.le1 b; omega
 ·have e:b=w.heap.size:=by
   by_cases e:b=w.heap.size
   ·exact e
   ·rw [if_neg e] at hb; exact absurd rfl hb
  subst e;refine ⟨by simp,fun o=>?_⟩;cases hc:H w.heap.size o with
  | none=>rfl
  | some y=>have:=World.block_lt_of_cell? _ _ (h.mem.agree _ _ _ hc); simp at this
 ·right
  have e:b=w.heap.size:=by
   by_cases e:b=w.heap.size
   ·exact e
   ·rw [if_neg e] at hb; exact absurd rfl hb
  have:=h.fr.size
  omega
theorem xb {m:Mm} {n:Nm} {l:List (D×Sh×D)} {v:Value} (hn:aa m n=some ⟨false,[.mp l]⟩) (hg:γ n=.gh v):AR w H γ m (.one (.c (.rf ⟨n,0,[]⟩))) v:=by
 refine ⟨fun _=>rfl,?_,?_⟩
 ·rw [bn];exact ⟨_,hn,trivial⟩
 ·unfold plV;dsimp only;rw [hg]; rfl
theorem Jw (h:RX g s a w H γ F) {n:Nm} {l l':List (D×Sh×D)} (hr:aa s.m n=some ⟨false,[.mp l]⟩) {b ck:Nat} {es:Array MapEntry} {f f1 f2:Fp} (hγ:γ n=.gh (.map (some b))) (hb:w.heap[b]? = some (.map es ck)) (hs:Stamped es ck) (hF:∀ c,F n c=f c+if c=b then 1 else 0)
  (hf:∀ c,f c=f1 c+f2 c) (hl':MpO w H l' es.toList f2) {n2:Nm} (hno:n2.isOut=false) (hn2:aa s.m n2=none) {sub:List Sh} {rows:List (List D)} {k:Nat} {v:Value} (hod:OD w H k (.ow sub) (.li rows) f1 v) :
  ∃ γ' F',RX g ⟨s.t,(n2,⟨false,[.ow sub rows]⟩)::bD s.m n ⟨false,[.mp l']⟩⟩ a w H γ' F'/\γ' n2=.gh v:=by
 have hge:∀ c,F n c<=tot F s.m c:=fun c=>aQ (F:=F) (ab hr) c
 have h1:RX g ⟨s.t,bD s.m n ⟨false,[.mp l']⟩⟩ a w H γ (upd F n (fun c=>f2 c+if c=b then 1 else 0)):=
  EH h hr hγ ⟨b,es,ck,f2,rfl,hb,hs,hl',fun _=>rfl⟩ (fun c=>by have:=hF c; have:=hf c; have:=h.mem.le1 c; (try dsimp only); omega) (fun c hc=>by
   have h3:tot F s.m c≠0:=by have:=hF c; have:=hf c; have:=hge c; (try dsimp only at hc); omega
   exact ⟨h.mem.lt c h3,h.mem.nofz c h3,h.fr.tt c h3⟩) rfl rfl rfl rfl (fun _ _=>rfl) (fun _ _ _ h=>h) h.mem.agree (fun b o h1 h2=>absurd h2 h1) gk
 have hne:n≠n2:=fun e=>by rw [<- e,hr] at hn2; cases hn2
 refine di h1 hno (by show aa (bD s.m n _) n2=none; rw [dQ hr,if_neg hne]; exact hn2) (v:=v) (t:=.ow sub rows) (f:=f1) ⟨k,hod⟩ (fun c=>?_) (fun c hc=>?_) (fun c hc=>?_)
 ·have h3:tot (upd F n (fun c=>f2 c+if c=b then 1 else 0)) (bD s.m n ⟨false,[.mp l']⟩) c+F n c=tot F s.m c+(f2 c+if c=b then 1 else 0):=by rw [cu]; exact vL hr h.mem.keys c
  have:=hF c; have:=hf c; have:=h.mem.le1 c
  show tot (upd F n _) (bD s.m n _) c+f1 c<=1
  omega
 ·have h3:tot F s.m c≠0:=by have:=hF c; have:=hf c; have:=hge c; omega
  exact ⟨h.mem.lt c h3,h.mem.nofz c h3⟩
 ·have h3:tot F s.m c≠0:=by have:=hF c; have:=hf c; have:=hge c; omega
  exact h.fr.tt c h3
def QQ (l:List (D×Sh×D)):List (D×Sh×D):=l.map fun x=>(x.1,.fr,x.2.2)
theorem Im {H':FH} (hH:∀ b o y,H b o=some y->H' b o=some y):∀ {l:List (D×Sh×D)} {es:List MapEntry} {f:Fp},MpO w H l es f->(∀ b,f b≠0->∀ o z,w.cell? ⟨b,o,none⟩=some z->H' b o=some z)->MpO w H' (QQ l) es (fun _=>0)
 | [],[],_,_,_=>fun _=>rfl
 | x::l,e::es,f,h,hc=>by
  obtain ⟨⟨h1,h2⟩,f1,f2,k,h3,h4,h5⟩:=h;exact ⟨⟨h1,ef hH h2⟩,fun _=>0,fun _=>0,k,fun _=>rfl,cw.2 ⟨fun _=>rfl,KR hH k _ _ _ _ h4 (fun b hb=>hc b (by have:=h3 b; omega))⟩,Im hH h5 (fun b hb=>hc b (by have:=h3 b; omega))⟩
 | [],_::_,_,h,_=>h.elim
 | _::_,[],_,h,_=>h.elim
theorem Bv:∀ {l:List (D×Sh×D)} {es:List MapEntry} {f:Fp},MpO w H l es f->∀ b,f b≠0->Thawed w b
 | [],[],_,h,b,hb=>absurd (h b) hb
 | x::l,e::es,f,h,b,hb=>by
  obtain ⟨_,f1,f2,k,h3,h4,h5⟩:=h;by_cases h0:f1 b=0
  ·exact Bv h5 b (by have:=h3 b; omega)
  ·exact Ie k _ _ _ _ h4 b h0
 | [],_::_,_,h,_,_=>h.elim
 | _::_,[],_,h,_,_=>h.elim
theorem Nh (h:RX g s a w H γ F) {n:Nm} {l:List (D×Sh×D)} (hr:aa s.m n=some ⟨false,[.mp l]⟩):∃ H' F',RX g ⟨s.t,bD s.m n ⟨false,[.mp (QQ l)]⟩⟩ a w H' γ F':=by
 obtain ⟨b,es,ck,f,h1,h2,h3,h4,h5,h6⟩:=Pv h.mem hr;have hge:∀ c,F n c<=tot F s.m c:=fun c=>aQ (F:=F) (ab hr) c
 have hft:∀ c,f c≠0->tot F s.m c≠0:=fun c hc=>by have:=h5 c; have:=hge c; omega
 let H':FH:=fun b o=>if f b≠0 then w.cell? ⟨b,o,none⟩ else H b o
 have hH:∀ b o y,H b o=some y->H' b o=some y:=by
  intro b o y hy;simp only [H'];split
  ·exact h.mem.agree b o y hy
  ·exact hy
 have hag:∀ b o y,H' b o=some y->w.cell? ⟨b,o,none⟩=some y:=by
  intro b o y hy;simp only [H'] at hy;split at hy
  ·exact hy
  ·exact h.mem.agree b o y hy
 have hbt:tot F s.m b≠0:=by have:=h5 b; rw [if_pos rfl] at this; have:=hge b; omega
 refine ⟨H',_,EH h hr h1 ⟨b,es,ck,fun _=>0,rfl,h2,h3,Im hH h4 (fun b hb o z hz=>by simp only [H']; rw [if_pos hb]; exact hz),fun _=>rfl⟩ (fun c=>by have:=h5 c; have:=h.mem.le1 c; (try dsimp only); omega) (fun c hc=>?_) rfl rfl rfl rfl (fun _ _=>rfl) hH hag (fun c o k1 k2=>?_) ⟨fun _ h=>h,fun c o x l2 q k1 k2=>?_⟩⟩
 ·have e:c=b:=by
   by_cases e:c=b
   ·exact e
   ·(try dsimp only at hc); rw [if_neg e] at hc; omega
  subst e;refine ⟨h.mem.lt c hbt,fun o=>?_,h.fr.tt c hbt⟩;simp only [H'];rw [if_neg (by omega)];exact h.mem.nofz c hbt o
 ·have hc:f c≠0:=fun e=>by simp only [H'] at k1; rw [if_neg (by omega)] at k1; exact k1 k2
  refine ⟨by have:=h5 c; omega,?_⟩;dsimp only;rw [if_neg (fun e=>by subst e; exact hc h6)]
 ·have hc:f c≠0:=fun e=>by simp only [H'] at k1; rw [if_neg (by omega),k2] at k1; cases k1
  exact Bv h4 c hc
end
end Go.Am
end

section
namespace Go.Am
inductive C where
 | i (k:IntKind) (n:Int)
 | b (x:UInt8)
 | bo (x:Bool)
 | s (l:List UInt8)
 | li (u:U) (l:List (El u))
 | v (x:Value)
 | any
 deriving Inhabited
def dflt:(u:U)->El u
 | .i _=>(default:Int)
 | .b8=>(default:UInt8)
 | .bo=>(default:Bool)
 | .s=>(default:List UInt8)
 | .sl _=>[]
 | .st n=>(sd n).df
def oY (u' u:U) (l:List (El u')):Option (List (El u)):=if h:u'=u then some (cast (by rw [h]) l) else none
theorem iE {u' u:U} {l:List (El u')} {x:List (El u)} (h:oY u' u l=some x):∃ e:u'=u,x=e ▸ l:=by
 unfold oY at h;split at h
 ·rename_i e; subst e; exact ⟨rfl,(Option.some.inj h).symm⟩
 ·cases h
def am:(u:U)->El u->C
 | .i k,n=>.i k n
 | .b8,x=>.b x
 | .bo,x=>.bo x
 | .s,l=>.s l
 | .sl u,l=>.li u l
 | .st _,_=>.any
def fI:(u:U)->C->Option (El u)
 | .i k,.i k' n=>if k'=k then some n else none
 | .b8,.b x=>some x
 | .bo,.bo x=>some x
 | .s,.s l=>some l
 | .sl u,.li u' l=>oY u' u l
 | _,_=>none
def leaf:U->Bool
 | .st _=>false
 | _=>true
theorem cU {u:U} {c:C} {x:El u} (h:fI u c=some x):c=am u x:=by
 unfold fI at h;split at h
 ·split at h
  ·rename_i e; subst e; rw [<- Option.some.inj h]; rfl
  ·cases h
 ·rw [<- Option.some.inj h]; rfl
 ·rw [<- Option.some.inj h]; rfl
 ·rw [<- Option.some.inj h]; rfl
 ·obtain ⟨e,rfl⟩:=iE h; subst e; rfl
 ·cases h
def dz:(us:List U)->Fl us->List C
 | [],_=>[]
 | u::r,x=>am u (Fl.hd u r x)::dz r (Fl.tl u r x)
def jC:(us:List U)->List C->Option (Fl us)
 | [],[]=>some ()
 | u::r,c::cs=>match fI u c,jC r cs with
  | some x,some y=>some (Fl.cons u r x y)
  | _,_=>none
 | _,_=>none
theorem oI (u:U) (us:List U) (x:El u) (y:Fl us):Fl.hd u us (Fl.cons u us x y)=x:=by cases us <;> rfl
theorem oq (u:U) (us:List U) (x:El u) (y:Fl us):Fl.tl u us (Fl.cons u us x y)=y:=by cases us <;> rfl
theorem uc:∀ {us:List U} {cs:List C} {x:Fl us},jC us cs=some x->cs=dz us x
 | [],[],_,_=>rfl
 | u::r,c::cs,x,h=>by
  simp only [jC] at h;cases h1:fI u c with
  | none=>rw [h1] at h; cases h
  | some a=>
   cases h2:jC r cs with
   | none=>rw [h1,h2] at h; cases h
   | some b=>
    rw [h1,h2] at h;simp only [SJ] at h;subst h;rw [dz,oI,oq,<- cU h1,<- uc h2]
 | [],_::_,_,h=>by simp [jC] at h
 | _::_,[],_,h=>by simp [jC] at h
def flat:(u:U)->El u->List C
 | .st n,x=>dz (sd n).fs ((sd n).un x)
 | .i k,x=>[.i k x]
 | .b8,x=>[.b x]
 | .bo,x=>[.bo x]
 | .s,x=>[.s x]
 | .sl u,x=>[.li u x]
def unflat:(u:U)->List C->Option (El u)
 | .st n,cs=>match jC (sd n).fs cs with
  | some y=>some ((sd n).mkF y)
  | none=>none
 | u,[c]=>fI u c
 | _,_=>none
theorem iy:∀ {u:U} (_:leaf u=true) (x:El u),flat u x=[am u x]
 | .i _,_,_=>rfl
 | .b8,_,_=>rfl
 | .bo,_,_=>rfl
 | .s,_,_=>rfl
 | .sl _,_,_=>rfl
 | .st _,h,_=>by cases h
theorem pX {u:U} {cs:List C} {x:El u} (h:unflat u cs=some x):cs=flat u x:=by
 cases u with
 | st n=>
  simp only [unflat] at h;cases h1:jC (sd n).fs cs with
  | none=>rw [h1] at h; cases h
  | some y=>
   rw [h1] at h;have hx:=Option.some.inj h
   subst hx;show cs=dz (sd n).fs ((sd n).un ((sd n).mkF y))
   rw [(sd n).l2,<- uc h1]
 | _=>
  cases cs with
  | nil=>cases h
  | cons c r=>cases r with
   | nil=>rw [iy rfl,<- cU h]
   | cons _ _=>cases h
def nc:U->Nat
 | .st n=>(sd n).fs.length
 | _=>1
theorem nn:∀ (us:List U) (x:Fl us),(dz us x).length=us.length
 | [],_=>rfl
 | u::r,x=>by simp only [dz,SU,nn r]
theorem fe {u:U} (x:El u):(flat u x).length=nc u:=by
 cases u with
 | st n=>exact nn _ _
 | _=>rfl
def ai:(u:U)->El u->List D
 | .i k,n=>[.int k n]
 | .b8,x=>[.int .u8 (x.toNat:Int)]
 | .bo,x=>[.bool x]
 | .s,l=>[.str l]
 | .sl u,l=>[.li (l.map (ai u))]
 | .st n,x=>(sd n).enc x
def C.toD:C->D
 | .i k n=>.int k n
 | .b x=>.int .u8 (x.toNat:Int)
 | .bo x=>.bool x
 | .s l=>.str l
 | .li u l=>.li (l.map (ai u))
 | .v x=>.v x
 | .any=>.any
theorem QG:∀ (n:Sn) (x:wA n),(dz (sd n).fs ((sd n).un x)).map C.toD=(sd n).enc x:=by
 intro n; cases n <;> intro x <;> rfl
theorem bp {u:U} (x:El u):(flat u x).map C.toD=ai u x:=by
 cases u with
 | st n=>exact QG n x
 | _=>rfl
theorem gJ {u:U} (x:El u):(ai u x).length=nc u:=by rw [<- bp,List.length_map,fe]
inductive Tt where
 | d (c:C)
 | nil
 | ow (sh:List Sh) (u:U) (l:List (El u))
 | mp (ku vu:U) (l:List (El ku×El vu))
 | mo (ku u:U) (l:List (El ku×List (El u))) (h:Option (El ku))
 | el (row:List C) (off:Nat)
 | ga (u:U) (l:List (El u)) (i:Nat)
 | pl (p:Pl)
 | rf (p:Pl)
 | any
 deriving Inhabited
def Kq (ku u:U) (x:El ku×List (El u)):D×Sh×D:=((am ku x.1).toD,.ow (List.replicate (nc u) .fr),.li (x.2.map (ai u)))
def sy (l:List (D×Sh×D)) (k:D):List (D×Sh×D):=match ll l k with
 | some x=>gF l k (x.1,.any)
 | none=>l
def moD (ku u:U) (l:List (El ku×List (El u))):Option (El ku)->List (D×Sh×D)
 | none=>l.map (Kq ku u)
 | some k=>sy (l.map (Kq ku u)) (am ku k).toD
def Tt.toT:Tt->T
 | .d c=>.d c.toD
 | .nil=>.nil
 | .ow sh u l=>.ow sh (l.map (ai u))
 | .mp ku vu l=>.mp (l.map fun x=>((am ku x.1).toD,.fr,(am vu x.2).toD))
 | .mo ku u l h=>.mp (moD ku u l h)
 | .el row off=>.el (row.map C.toD) off
 | .ga u l i=>.el (l.map fun x=>(am u x).toD) i
 | .pl p=>.pl p
 | .rf p=>.rf p
 | .any=>.any
inductive A1 where
 | c (t:Tt)
 | agg (ts:List Tt)
 deriving Inhabited
def A1.toV:A1->AV1
 | .c t=>.c t.toT
 | .agg ts=>.agg (ts.map Tt.toT)
inductive At where
 | one (x:A1)
 | tup (vs:List A1)
 | any
 deriving Inhabited
def At.toV:At->AV
 | .one x=>.one x.toV
 | .tup vs=>.tup (vs.map A1.toV)
 | .any=>.any
structure Rt where
 blk:Bool
 cells:List Tt
 hole:Option (Nat×Step×List Step)
def holed (cells:List T):Option (Nat×Step×List Step)->List T
 | none=>cells
 | some (off,st,q)=>match cells[off]? with
  | some (.ow sub l)=>cells.set off (.ow sub (bz sub l .any (st::q)))
  | _=>cells
def Rt.toR (r:Rt):Root:=⟨r.blk,holed (r.cells.map Tt.toT) r.hole⟩
structure St where
 nx:Nat
 t:List (Nat×Nat×At)
 m:List (Nm×Nat×Rt)
def St.toS (s:St):S:=⟨s.t.map fun x=>(x.1,x.2.2.toV),s.m.map fun x=>(x.1,x.2.2.toR)⟩
def gtA:List (Nat×Nat×At)->Nat->At
 | [],_=>.any
 | (k,_,v)::t,i=>match Nat.beq k i with
  | true=>v
  | false=>gtA t i
def bi:List (Nm×Nat×Rt)->Nm->Option Rt
 | [],_=>none
 | (k,_,r)::m,n=>if k=n then some r else bi m n
def cO:List (Nm×Nat×Rt)->Nm->Nat->Rt->List (Nm×Nat×Rt)
 | [],_,_,_=>[]
 | (k,j,x)::m,n,i,r=>if k=n then (k,i,r)::m else (k,j,x)::cO m n i r
def d9:List (Nm×Nat×Rt)->Nm->List (Nm×Nat×Rt)
 | [],_=>[]
 | (k,j,x)::m,n=>if k=n then d9 m n else (k,j,x)::d9 m n
theorem cm (i:Nat):∀ t:List (Nat×Nat×At),aE (t.map fun x=>(x.1,x.2.2.toV)) i=(gtA t i).toV
 | []=>rfl
 | (k,j,v)::t=>by
  simp only [List.map_cons,aE,gtA];by_cases h:k=i
  ·subst h; rw [if_pos rfl,Uy]
  ·rw [if_neg h];have:Nat.beq k i=false:=by
    cases hb:Nat.beq k i
    ·rfl
    ·exact absurd (SO hb) h
   rw [this]; exact cm i t
abbrev toM (m:List (Nm×Nat×Rt)):Mm:=m.map fun x=>(x.1,x.2.2.toR)
theorem oX (n:Nm):∀ m:List (Nm×Nat×Rt),aa (toM m) n=(bi m n).map Rt.toR
 | []=>rfl
 | (k,j,v)::m=>by
  simp only [toM,List.map_cons,aa,bi];by_cases h:k=n
  ·rw [if_pos h,if_pos h]; rfl
  ·rw [if_neg h,if_neg h]; exact oX n m
theorem eD (n:Nm) (i:Nat) (r:Rt):∀ m:List (Nm×Nat×Rt),toM (cO m n i r)=bD (toM m) n r.toR
 | []=>rfl
 | (k,j,v)::m=>by
  simp only [toM,List.map_cons,bD,cO];by_cases h:k=n
  ·rw [if_pos h,if_pos h]; rfl
  ·rw [if_neg h,if_neg h,List.map_cons]; exact congrArg _ (eD n i r m)
abbrev ND (m:List (Nm×Nat×Rt)):Prop:=(m.map (·.1)).Nodup
theorem GZ (n:Nm):∀ m:List (Nm×Nat×Rt),n ∉ m.map (·.1)->d9 m n=m
 | [],_=>rfl
 | (k,j,v)::m,h=>by
  simp only [List.map_cons,SS,not_or] at h;simp only [d9];rw [if_neg (fun e=>h.1 e.symm),GZ n m h.2]
theorem l8 (n:Nm):∀ m:List (Nm×Nat×Rt),ND m->toM (d9 m n)=aW (toM m) n
 | [],_=>rfl
 | (k,j,v)::m,hn=>by
  have hn':k ∉ m.map (·.1)/\(m.map (·.1)).Nodup:=by simpa [ND] using hn
  simp only [toM,List.map_cons,aW,d9];by_cases h:k=n
  ·subst h; rw [if_pos rfl,if_pos rfl,GZ k m hn'.1]
  ·rw [if_neg h,if_neg h,List.map_cons]; exact congrArg _ (l8 n m hn'.2)
def St.put (s:St):Option Tmp->At->St
 | none,_=>s
 | some d,v=>⟨s.nx+1,(d,s.nx,v)::s.t,s.m⟩
end Go.Am
end

section
namespace Go.Am
def Tt.kill (bad:Bool->Pl->Bool):Tt->Tt
 | .pl p=>if bad false p then .any else .pl p
 | .rf p=>if bad true p then .any else .rf p
 | t=>t
def A1.kill (bad:Bool->Pl->Bool):A1->A1
 | .c t=>.c (t.kill bad)
 | .agg ts=>.agg (ts.map (·.kill bad))
def At.kill (bad:Bool->Pl->Bool):At->At
 | .one x=>.one (x.kill bad)
 | .tup xs=>.tup (xs.map (·.kill bad))
 | .any=>.any
def Tt.ment (n:Nm):Tt->Bool
 | .pl p=>decide (p.root=n)
 | .rf p=>decide (p.root=n)
 | _=>false
def Tt.hit (bad:Bool->Pl->Bool):Tt->Bool
 | .pl p=>bad false p
 | .rf p=>bad true p
 | _=>false
def A1.hit (bad:Bool->Pl->Bool):A1->Bool
 | .c t=>t.hit bad
 | .agg ts=>ts.any (·.hit bad)
def At.hit (bad:Bool->Pl->Bool):At->Bool
 | .one x=>x.hit bad
 | .tup xs=>xs.any (·.hit bad)
 | .any=>false
def Rt.kill (bad:Bool->Pl->Bool) (r:Rt):Rt:=⟨r.blk,r.cells.map (·.kill bad),r.hole⟩
def stp:Bool->Nat->Nat->Nat
 | true,i,_=>i
 | false,_,j=>j
def iT (bad:Bool->Pl->Bool) (nx:Nat) (t:List (Nat×Nat×At)):List (Nat×Nat×At):=t.map fun x=>(x.1,stp (x.2.2.hit bad) nx x.2.1,x.2.2.kill bad)
def bN (bad:Bool->Pl->Bool) (nx:Nat) (m:List (Nm×Nat×Rt)):List (Nm×Nat×Rt):=m.map fun x=>(x.1,stp (x.2.2.cells.any (·.hit bad)) nx x.2.1,x.2.2.kill bad)
def St.drop (s:St) (n:Nm):St:=⟨s.nx+1,iT (bv n) s.nx s.t,bN (bv n) s.nx (d9 s.m n)⟩
def St.fresh (s:St) (n:Nm):St:=match bi s.m n with
 | none=>s
 | some _=>s.drop n
def St.root (s:St) (n:Nm) (r:Rt):St:=⟨s.nx+1,s.t,(n,s.nx,r)::s.m⟩
def Tt.frz (q:Pl) (u:U) (l:List (El u)):Tt->Tt
 | .rf p=>match p with
  | ⟨n,o,[]⟩=>if n=q.root/\o=q.off then .d (.li u l) else (Tt.rf ⟨n,o,[]⟩).kill (thr q)
  | p=>(Tt.rf p).kill (thr q)
 | t=>t.kill (thr q)
def A1.map (f:Tt->Tt):A1->A1
 | .c t=>.c (f t)
 | .agg ts=>.agg (ts.map f)
def At.map (f:Tt->Tt):At->At
 | .one x=>.one (x.map f)
 | .tup xs=>.tup (xs.map (·.map f))
 | .any=>.any
def setCell (m:List (Nm×Nat×Rt)) (n:Nm) (i:Nat) (off:Nat) (t:Tt):List (Nm×Nat×Rt):=match bi m n with
 | some r=>cO m n i { r with cells:=r.cells.set off t }
 | none=>m
def BA (q:Pl) (rf:Bool) (p:Pl):Bool:=thr q rf p||(rf&&decide (p.root=q.root/\p.off=q.off))
def pN (s:St) (q:Pl):St:=
 match q.path,bi s.m q.root with
 | [],some r=>match r.hole,r.cells[q.off]? with
  | none,some (.ow _ u l)=>⟨s.nx+1,s.t.map fun x=>(x.1,stp (x.2.2.hit (BA q)) s.nx x.2.1,x.2.2.map (Tt.frz q u l)),
    setCell (bN (thr q) s.nx (setCell s.m q.root s.nx q.off .any)) q.root s.nx q.off (.d (.li u l))⟩
  | _,_=>s
 | _,_=>s
def Gm (s:St):Tt->St
 | .rf p=>pN s p
 | _=>s
def yn:St->List Tt->St
 | s,[]=>s
 | s,t::ts=>yn (Gm s t) ts
def fT (s:St):At->St
 | .one (.c t)=>Gm s t
 | .one (.agg ts)=>yn s ts
 | _=>s
def aX (s:St):List At->St
 | []=>s
 | v::vs=>aX (fT s v) vs
def mkC (k:IntKind) (n:Int):C:=match k with
 | .u8=>.b (UInt8.ofNat n.toNat)
 | k=>.i k n
def jB:C->Option (IntKind×Int)
 | .i k n=>match k with
  | .u8=>none
  | k=>some (k,n)
 | .b x=>some (.u8,(x.toNat:Int))
 | _=>none
def lD:Value->Tt
 | .bool b=>.d (.bo b)
 | .int k n=>match k with
  | .u8=>if 0<=n/\n < 256 then .d (.b (UInt8.ofNat n.toNat)) else .any
  | k=>.d (.i k n)
 | .string s=>.d (.s s.data.toList)
 | .slice none 0 0=>.nil
 | .pointer none=>.d (.v (.pointer none))
 | .map none=>.d (.v (.map none))
 | .nilFunc=>.d (.v .nilFunc)
 | .nilIface=>.d (.v .nilIface)
 | .func f a b=>.d (.v (.func f a b))
 | _=>.any
def P0:Value->At
 | .agg cs=>.one (.agg (cs.toList.map lD))
 | v=>.one (.c (lD v))
abbrev sct (x:C):At:=.one (.c (.d x))
def Pm (k:Nat):Option (List (List UInt8)):=match ng k with
 | none=>none
 | some _=>some gw
def evA (s:St):Operand->At
 | .tmp t=>gtA s.t t
 | .const v=>P0 v
 | .func f=>sct (.v (.func (.func f) #[] #[]))
 | .global g=>match Pm g with
  | some l=>.one (.c (.ga .s l 0))
  | none=>.any
def rk (c x y:At) (k:At->Prop):Prop:=
 match c with
 | .one (.c (.d (.bo b)))=>if b=true then k x else k y
 | _=>False
def Ep (op:BinOp) (k:IntKind) (a b:Int) (K:C->Prop):Prop:=
 match op with
 | .add=>K (mkC k (k.wrap (a+b)))
 | .sub=>K (mkC k (k.wrap (a-b)))
 | .mul=>K (mkC k (k.wrap (a*b)))
 | .quo=>b≠0/\K (mkC k (k.wrap (a.tdiv b)))
 | .rem=>b≠0/\K (mkC k (a.tmod b))
 | .and=>K (mkC k (k.wrap (BitVec.ofInt k.bits a &&& BitVec.ofInt k.bits b).toNat))
 | .or=>K (mkC k (k.wrap (BitVec.ofInt k.bits a ||| BitVec.ofInt k.bits b).toNat))
 | .xor=>K (mkC k (k.wrap (BitVec.ofInt k.bits a ^^^ BitVec.ofInt k.bits b).toNat))
 | .andNot=>K (mkC k (k.wrap (BitVec.ofInt k.bits a &&& ~~~BitVec.ofInt k.bits b).toNat))
 | .shl=>0<=b/\K (mkC k (k.wrap (a*2 ^ (min b.toNat k.bits))))
 | .shr=>0<=b/\K (mkC k (a.fdiv (2 ^ (min b.toNat k.bits))))
 | .eql=>K (.bo (decide (a=b)))
 | .neq=>K (.bo (!decide (a=b)))
 | .lss=>K (.bo (decide (a<b)))
 | .leq=>K (.bo (decide (a<=b)))
 | .gtr=>K (.bo (decide (b<a)))
 | .geq=>K (.bo (decide (b<=a)))
def P9:BinOp->Bool
 | .shl=>true
 | .shr=>true
 | _=>false
def Dg (op:BinOp) (x y:C) (K:C->Prop):Prop:=
 match x,y with
 | .s a,.s b=>match op with
  | .add=>a.length+b.length<=4611686018427387904/\K (.s (a++b))
  | .eql=>K (.bo (decide (a=b)))
  | .neq=>K (.bo (!decide (a=b)))
  | .lss=>K (.bo (Op.bytesLess a b))
  | .leq=>K (.bo (Op.bytesLess a b||decide (a=b)))
  | .gtr=>K (.bo (!(Op.bytesLess a b||decide (a=b))))
  | .geq=>K (.bo (!Op.bytesLess a b))
  | _=>False
 | x,y=>match jB x,jB y with
  | some (k,a),some (k',b)=>if P9 op=true\/k=k' then Ep op k a b K else False
  | _,_=>False
def eqC (ck:CK) (x y:C):Option Bool:=
 match ck with
 | .i=>match jB x,jB y with
  | some (k,a),some (k',b)=>if k=k' then some (decide (a=b)) else none
  | _,_=>none
 | .s=>match x,y with
  | .s a,.s b=>some (decide (a=b))
  | _,_=>none
 | .b=>match x,y with
  | .bo a,.bo b=>some (a==b)
  | _,_=>none
def Iq:List (Nat×CK)->List C->List C->Option Bool
 | [],_,_=>some true
 | (o,ck)::l,xs,ys=>match xs[o]?,ys[o]? with
  | some x,some y=>match eqC ck x y,l with
   | some b,[]=>some b
   | some b,l=>match Iq l xs ys with
    | some r=>some (b&&r)
    | none=>none
   | none,_=>none
  | _,_=>none
def TC:Tt->C
 | .d c=>c
 | _=>.any
def C7 (P:Program) (op:BinOp) (t:TypeId) (x y:At) (k:At->Prop):Prop:=
 match x,y with
 | .one (.c (.d (.bo a))),.one (.c (.d (.bo b)))=>match (ty P t).k with
  | .bool=>match op with
   | .eql=>k (sct (.bo (a==b)))
   | .neq=>k (sct (.bo (!(a==b))))
   | _=>False
  | _=>False
 | .one (.c (.d a)),.one (.c (.d b))=>Dg op a b fun d=>k (sct d)
 | .one (.agg xs),.one (.agg ys)=>match A6 P t with
  | some l=>match Iq l (xs.map TC) (ys.map TC),op with
   | some b,.eql=>k (sct (.bo b))
   | some b,.neq=>k (sct (.bo (!b)))
   | _,_=>False
  | none=>False
 | _,_=>False
def unT (op:UnOp) (x:At) (k:At->Prop):Prop:=
 match op,x with
 | .not,.one (.c (.d (.bo b)))=>k (sct (.bo (!b)))
 | .neg,.one (.c (.d c))=>match jB c with
  | some (κ,n)=>k (sct (mkC κ (κ.wrap (0-n))))
  | none=>False
 | .xor,.one (.c (.d c))=>match jB c with
  | some (κ,n)=>k (sct (mkC κ (κ.wrap (BitVec.ofInt κ.bits (if κ.signed then -1 else κ.max) ^^^ BitVec.ofInt κ.bits n).toNat)))
  | none=>False
 | _,_=>False
def gN (x:At) (i:Nat) (k:At->Prop):Prop:=
 match x with
 | .tup vs=>match vs[i]? with
  | some v=>k (.one v)
  | none=>False
 | _=>False
def inT (sub:List Sh) (u:U) (l:List (El u)) (n:Nat):List Step->Option (List Tt)
 | []=>none
 | [st]=>match Nat.ble (st.off+n) sub.length with
  | true=>some (List.zipWith (fun s c=>match s,c with
    | Sh.fr,x=>Tt.d x
    | Sh.ow s,C.li u' l'=>Tt.ow s u' l'
    | _,_=>Tt.any) ((sub.drop st.off).take n) (((flat u (l.getD st.idx (dflt u))).drop st.off).take n))
  | false=>none
 | st::st'::r=>match sub[st.off]?,(flat u (l.getD st.idx (dflt u)))[st.off]? with
  | some (.ow s),some (.li u' l')=>inT s u' l' n (st'::r)
  | _,_=>none
def Qr:Option (Nat×Step×List Step)->List Step->Bool
 | none,_=>true
 | some (_,_,q'),p=>Nat.blt p.length (q'.length+1)
def atT (m:List (Nm×Nat×Rt)) (p:Pl) (n:Nat):Option (List Tt):=
 match bi m p.root with
 | none=>none
 | some r=>match p.path with
  | []=>match Nat.ble (p.off+n) r.cells.length with
   | true=>some ((r.cells.drop p.off).take n)
   | false=>none
  | st::q=>match Qr r.hole (st::q),r.cells[p.off]? with
   | true,some (.ow sub u l)=>inT sub u l n (st::q)
   | _,_=>none
def Ic (q:Pl):Tt->Tt
 | .ow _ _ _=>.rf q
 | .mp _ _ _=>.rf q
 | .mo _ _ _ _=>.rf q
 | t=>t
def rg (p:Pl) (ts:List Tt):List Tt:=ts.zipIdx.map fun x=>Ic (p.add x.2) x.1
def sliceAt (m:List (Nm×Nat×Rt)) (p:Pl):Option ((_:List Sh)×(u:U)×List (El u)):=
 match atT m p 1 with
 | some [.ow sh u l]=>some ⟨sh,u,l⟩
 | _=>none
def gift:Option (Nat×Bool)->Nat->Prop->Prop
 | none,n,q=>n<=4611686018427387904->q
 | some _,_,q=>q
def C5 (gd:Option (Nat×Bool)) (m:List (Nm×Nat×Rt)) (x:At) (k:Nat->Prop):Prop:=
 match x with
 | .one (.c (.d (.s l)))=>gift gd l.length (k l.length)
 | .one (.c (.d (.li _ l)))=>gift gd l.length (k l.length)
 | .one (.c .nil)=>k 0
 | .one (.c (.rf p))=>match sliceAt m p with
  | some ⟨_,_,l⟩=>gift gd l.length (k l.length)
  | _=>False
 | _=>False
def lN (x i:At) (k:At->Prop):Prop:=
 match x,i with
 | .one (.c (.d (.s l))),.one (.c (.d (.i _ n)))=>(0<=n/\n.toNat<l.length)/\k (sct (.b (l.getD n.toNat 0)))
 | _,_=>False
def dZ (x:Option At) (d:Nat) (k:Nat->Prop):Prop:=
 match x with
 | none=>k d
 | some (.one (.c (.d (.i _ n))))=>0<=n/\k n.toNat
 | _=>False
def lQ (P:Program) (t:TypeId) (x:At) (lo hi:Option At) (k:At->Prop):Prop:=
 match x with
 | .one (.c (.d (.s l)))=>match (ty P t).k with
  | .str=>dZ lo 0 fun a=>dZ hi l.length fun b=>(a<=b/\b<=l.length)/\k (sct (.s ((l.drop a).take (b-a))))
  | _=>False
 | .one (.c (.d (.li u l)))=>match (ty P t).k with
  | .sl e=>match (ty P e).ok&&Nat.beq (nc u) (ty P e).size with
   | true=>dZ lo 0 fun a=>dZ hi l.length fun b=>(a<=b/\b<=l.length)/\k (sct (.li u ((l.drop a).take (b-a))))
   | false=>False
  | _=>False
 | .one (.c .nil)=>match (ty P t).k with
  | .sl e=>match (ty P e).ok with
   | true=>dZ lo 0 fun a=>dZ hi 0 fun b=>a<=b/\b<=0/\k (.one (.c .nil))
   | false=>False
  | _=>False
 | _=>False
def gE (m:List (Nm×Nat×Rt)) (p:Pl) (n:Nat):Bool:=
 match bi m p.root with
 | none=>false
 | some r=>match p.path,r.cells[p.off]? with
  | [],_=>Nat.ble (n+1) (r.cells.length-p.off)
  | st::q,some (.ow sub _ _)=>match rm sub (st::q) with
   | some k=>Nat.ble (n+1) k
   | none=>false
  | _,_=>false
def dL (P:Program) (m:List (Nm×Nat×Rt)) (t:TypeId) (x:At) (i:Nat) (k:At->Prop):Prop:=
 match (ty P t).k with
 | .st fs=>match fs[i]? with
  | some (off,size+1,_)=>match x with
   | .one (.c (.pl p))=>match gE m p off with
    | true=>k (.one (.c (.pl (p.add off))))
    | false=>False
   | .one (.c (.el row o))=>k (.one (.c (.el row (o+off))))
   | _=>False
  | _=>False
 | _=>False
def dH (P:Program) (m:List (Nm×Nat×Rt)) (t:TypeId) (x i:At) (k:At->Prop):Prop:=
 match i with
 | .one (.c (.d (.i _ n)))=>match (ty P t).k with
  | .sl e=>match x with
   | .one (.c (.d (.li u l)))=>match (ty P e).ok&&Nat.beq (nc u) (ty P e).size with
    | true=>(0<=n/\n.toNat<l.length)/\k (.one (.c (.el (flat u (l.getD n.toNat (dflt u))) 0)))
    | false=>False
   | .one (.c (.rf p))=>match (ty P e).ok&&Nat.ble 1 (ty P e).size with
    | true=>match sliceAt m p with
     | some ⟨sh,_,l⟩=>match Nat.beq sh.length (ty P e).size with
      | true=>(0<=n/\n < (l.length:Int))/\k (.one (.c (.pl (p.at n.toNat (ty P e).size))))
      | false=>False
     | _=>False
    | false=>False
   | _=>False
  | .ar N e=>match x with
   | .one (.c (.ga u l i))=>match (ty P e).ok&&Nat.beq (ty P e).size 1&&leaf u with
    | true=>(0<=n/\n < (N:Int))/\k (.one (.c (.ga u l (n.toNat+i))))
    | false=>False
   | .one (.c (.pl p))=>match (ty P e).ok&&gE m p (n.toNat*(ty P e).size) with
    | true=>(0<=n/\n < (N:Int))/\k (.one (.c (.pl (p.add (n.toNat*(ty P e).size)))))
    | false=>False
   | _=>False
  | _=>False
 | _=>False
def jH (P:Program) (m:List (Nm×Nat×Rt)) (t:TypeId) (x:At) (k:At->Prop):Prop:=
 match (ty P t).ok with
 | true=>match x with
  | .one (.c (.el row o))=>match (ty P t).agg with
   | true=>match Nat.ble (o+(ty P t).size) row.length with
    | true=>k (.one (.agg (((row.drop o).take (ty P t).size).map Tt.d)))
    | false=>False
   | false=>match row[o]? with
    | some c=>k (sct c)
    | none=>False
  | .one (.c (.ga u l i))=>match (ty P t).agg,leaf u with
   | false,true=>i<l.length/\k (sct (am u (l.getD i (dflt u))))
   | _,_=>False
  | .one (.c (.pl p))=>match (ty P t).agg with
   | true=>match atT m p (ty P t).size with
    | some ts=>k (.one (.agg (rg p ts)))
    | none=>False
   | false=>match atT m p 1 with
    | some [t']=>k (.one (.c (Ic p t')))
    | _=>False
  | _=>False
 | false=>False
def lV (P:Program) (t:TypeId) (x:At) (i:Nat) (k:At->Prop):Prop:=
 match (ty P t).k,x with
 | .st fs,.one (.agg ts)=>match fs[i]? with
  | some (off,_,some false)=>match ts[off]? with
   | some t'=>k (.one (.c t'))
   | none=>False
  | some (off,size,some true)=>match Nat.ble (off+size) ts.length with
   | true=>k (.one (.agg ((ts.drop off).take size)))
   | false=>False
  | _=>False
 | _,_=>False
def fg (x:At) (k:At->Prop):Prop:=
 match x with
 | .one (.c (.pl _))=>k x
 | .one (.c (.el _ _))=>k x
 | .one (.c (.ga _ _ _))=>k x
 | _=>False
def Tt.sure:Tt->Bool
 | .any=>false
 | .d .any=>false
 | _=>true
def jv:At->Option (List Tt)
 | .one (.c t)=>some [t]
 | .one (.agg ts)=>some ts
 | _=>none
def jW (pl:Nat->Option (Nat×Nat)):List Tt->List (Nat×At)->Option (List Tt)
 | ts,[]=>some ts
 | ts,(i,x)::r=>match pl i,jv x with
  | some (off,size),some cs=>match Nat.beq cs.length size&&Nat.ble (off+cs.length) ts.length&&cs.all Tt.sure with
   | true=>jW pl (overw ts off cs) r
   | false=>none
  | _,_=>none
def dA (s:St) (ps:Array (Nat×Operand)):List (Nat×At):=ps.toList.map fun x=>(x.1,evA s x.2)
def mv (P:Program) (t:TypeId) (parts:List (Nat×At)) (k:At->Prop):Prop:=
 match zst P t with
 | some (zs,places)=>match jW (places[·]?) (zs.map lD) parts with
  | some ts=>k (.one (.agg ts))
  | none=>False
 | none=>False
def ro (P:Program) (su du:TypeId) (x:At) (k:At->Prop):Prop:=
 match (ty P su).k,(ty P du).k with
 | .int _,.int κ=>match x with
  | .one (.c (.d c))=>match jB c with
   | some (_,n)=>k (sct (mkC κ (κ.wrap n)))
   | none=>False
  | _=>False
 | .sl e,.str=>match (ty P e).k with
  | .int .u8=>match x with
   | .one (.c (.d (.li .b8 l)))=>k (sct (.s l))
   | .one (.c .nil)=>k (sct (.s []))
   | _=>False
  | _=>False
 | _,_=>False
def mb (P:Program) (s:St) (t:TypeId) (d:Tmp) (k:St->Prop):Prop:=
 match zcells P t with
 | some (z::zs)=>match Nat.blt d 1000000 with
  | true=>k (((s.fresh (jf t d)).root (jf t d) ⟨true,(z::zs).map lD,none⟩).put (some d) (.one (.c (.pl ⟨jf t d,0,[]⟩))))
  | false=>False
 | _=>False
def Bg (s:St) (x:Operand) (d:Tmp) (k:St->Prop):Prop:=
 match jv (evA (s.fresh (.loc d)) x) with
 | some (t::ts)=>match (t::ts).all Tt.sure&&Nat.blt d 1000000 with
  | true=>k (((s.fresh (.loc d)).root (.loc d) ⟨true,t::ts,none⟩).put (some d) (.one (.c (.pl ⟨.loc d,0,[]⟩))))
  | false=>False
 | _=>False
def Ut:=List (TypeId×U)
def Ut.get:Ut->TypeId->Option U
 | [],_=>none
 | (t,u)::r,i=>match Nat.beq t i with
  | true=>some u
  | false=>Ut.get r i
def wa (u:U) (c:Tt):Option (El u):=
 match c with
 | .d c=>fI u c
 | .nil=>match u with
  | .sl _=>some []
  | _=>none
 | _=>none
def jp:(us:List U)->List Tt->Option (Fl us)
 | [],[]=>some ()
 | u::r,c::cs=>match wa u c,jp r cs with
  | some x,some y=>some (Fl.cons u r x y)
  | _,_=>none
 | _,_=>none
def gi (u:U) (ts:List Tt):Option (El u):=
 match u with
 | .st n=>match jp (sd n).fs ts with
  | some y=>some ((sd n).mkF y)
  | none=>none
 | u=>match ts with
  | [t]=>wa u t
  | _=>none
def fN (u:U):List (List Tt)->Option (List (El u))
 | []=>some []
 | r::rs=>match gi u r,fN u rs with
  | some x,some xs=>some (x::xs)
  | _,_=>none
def Tt.noRf:Tt->Bool
 | .rf _=>false
 | _=>true
def At.noRf:At->Bool
 | .one (.c t)=>t.noRf
 | .one (.agg ts)=>ts.all Tt.noRf
 | _=>true
def cW (P:Program) (E:Ut) (s0:St) (t:TypeId) (len:Nat) (ps:Array (Nat×Operand)) (d:Tmp) (k:St->Prop):Prop:=
 match (ty P t).k with
 | .sl e=>match E.get e,zcells P e with
  | some u,some _=>match (ty P e).ok&&Nat.beq (nc u) (ty P e).size&&Nat.ble (len*nc u) 16777216&&Nat.ble len 16777216 with
   | true=>
    let s1:=aX s0 (ps.toList.map fun x=>evA s0 x.2)
    let s:=s1.fresh (.gh d)
    match jW (fun i=>some (i*nc u,nc u)) (List.replicate (len*nc u) .any) (dA s ps),(dA s1 ps).all (fun x=>x.2.noRf) with
    | some ts,true=>match fN u (chunk (nc u) len ts) with
     | some l=>k ((s.root (.gh d) ⟨false,[.ow (List.replicate (nc u) .fr) u l],none⟩).put (some d) (.one (.c (.rf ⟨.gh d,0,[]⟩))))
     | none=>False
    | _,_=>False
   | false=>False
  | _,_=>False
 | _=>False
def Tt.owned:Tt->Bool
 | .ow _ _ _=>true
 | .mp _ _ _=>true
 | .mo _ _ _ _=>true
 | _=>false
def C2 (u:U) (x:El u) (off:Nat) (c:C):Option (El u):=match (flat u x)[off]? with
 | some _=>unflat u ((flat u x).set off c)
 | none=>none
def xr (sub:List Sh) (u:U) (l:List (El u)) (t:Tt):List Step->Option (List (El u))
 | []=>none
 | [st]=>match sub[st.off]?,t with
  | some .fr,.d c=>match C2 u (l.getD st.idx (dflt u)) st.off c with
   | some x=>some (l.set st.idx x)
   | none=>none
  | some .fr,.nil=>match (flat u (l.getD st.idx (dflt u)))[st.off]? with
   | some (.li u' _)=>match C2 u (l.getD st.idx (dflt u)) st.off (.li u' []) with
    | some x=>some (l.set st.idx x)
    | none=>none
   | _=>none
  | _,_=>none
 | st::st'::r=>match sub[st.off]?,(flat u (l.getD st.idx (dflt u)))[st.off]? with
  | some (.ow s),some (.li u' l')=>match xr s u' l' t (st'::r) with
   | some l''=>match C2 u (l.getD st.idx (dflt u)) st.off (.li u' l'') with
    | some x=>some (l.set st.idx x)
    | none=>none
   | none=>none
  | _,_=>none
mutual
def A5:Sh->Sh->Bool
 | .fr,.fr=>true
 | .ow a,.ow b=>gR a b
 | _,_=>false
def gR:List Sh->List Sh->Bool
 | [],[]=>true
 | a::r,b::q=>A5 a b&&gR r q
 | _,_=>false
end
def xY (sub:List Sh) (u:U) (l:List (El u)) (sh:List Sh) (v:U) (lv:List (El v)):List Step->Option (List (El u))
 | []=>none
 | [st]=>match sub[st.off]?,(flat u (l.getD st.idx (dflt u)))[st.off]? with
  | some (.ow s),some _=>match gR s sh,C2 u (l.getD st.idx (dflt u)) st.off (.li v lv) with
   | true,some x=>some (l.set st.idx x)
   | _,_=>none
  | _,_=>none
 | st::st'::r=>match sub[st.off]?,(flat u (l.getD st.idx (dflt u)))[st.off]? with
  | some (.ow s),some (.li u' l')=>match xY s u' l' sh v lv (st'::r) with
   | some l''=>match C2 u (l.getD st.idx (dflt u)) st.off (.li u' l'') with
    | some x=>some (l.set st.idx x)
    | none=>none
   | none=>none
  | _,_=>none
def frs (sub:List Sh) (off:Nat):Nat->Bool
 | 0=>true
 | n+1=>match sub[off]? with
  | some .fr=>frs sub (off+1) n
  | _=>false
def i9 (cs:List C) (off:Nat):List Tt->Option (List C)
 | []=>some cs
 | .d c::r=>match c,cs[off]? with
  | .any,_=>none
  | c,some _=>i9 (cs.set off c) (off+1) r
  | _,none=>none
 | .nil::r=>match cs[off]? with
  | some (.li u' _)=>i9 (cs.set off (.li u' [])) (off+1) r
  | _=>none
 | _=>none
def m7 (sub:List Sh) (u:U) (l:List (El u)) (ts:List Tt):List Step->Option (List (El u))
 | []=>none
 | [st]=>match frs sub st.off ts.length,i9 (flat u (l.getD st.idx (dflt u))) st.off ts with
  | true,some cs=>match unflat u cs with
   | some x=>some (l.set st.idx x)
   | none=>none
  | _,_=>none
 | st::st'::r=>match sub[st.off]?,(flat u (l.getD st.idx (dflt u)))[st.off]? with
  | some (.ow s),some (.li u' l')=>match m7 s u' l' ts (st'::r) with
   | some l''=>match C2 u (l.getD st.idx (dflt u)) st.off (.li u' l'') with
    | some x=>some (l.set st.idx x)
    | none=>none
   | none=>none
  | _,_=>none
def lu (sub:List Sh) (u:U) (l:List (El u)):List Step->Prop->Prop
 | [],_=>False
 | [st],k=>st.idx<l.length/\k
 | st::st'::r,k=>match sub[st.off]?,(flat u (l.getD st.idx (dflt u)))[st.off]? with
  | some (.ow s),some (.li u' l')=>st.idx<l.length/\lu s u' l' (st'::r) k
  | _,_=>False
def kM:List Step->List Step->Prop->Prop
 | [],[],p=>p
 | a::r,b::q,p=>match Nat.beq a.esz b.esz&&Nat.beq a.off b.off with
  | true=>a.idx=b.idx/\kM r q p
  | false=>False
 | _,_,_=>False
def vW (s:St) (p:Pl) (t:Tt) (k:St->Prop):Prop:=
 match bi s.m p.root with
 | none=>False
 | some r=>match p.path,r.hole,r.cells[p.off]? with
  | [],none,some t0=>match t0.owned with
   | false=>k ⟨s.nx+1,s.t,cO s.m p.root s.nx { r with cells:=r.cells.set p.off t }⟩
   | true=>False
  | st::q,none,some (.ow sub u l)=>match xr sub u l t (st::q) with
   | some l'=>lu sub u l (st::q) (k ⟨s.nx+1,s.t,cO s.m p.root s.nx { r with cells:=r.cells.set p.off (.ow sub u l') }⟩)
   | none=>False
  | st::q,some (off,st',q'),some (.ow sub u l)=>match Nat.beq off p.off,t with
   | true,.ow sh v lv=>match xY sub u l sh v lv (st::q) with
    | some l'=>lu sub u l (st::q) (kM (st'::q') (st::q) (k ⟨s.nx+1,s.t,cO s.m p.root s.nx ⟨r.blk,r.cells.set p.off (.ow sub u l'),none⟩⟩))
    | none=>False
   | _,_=>False
  | _,_,_=>False
def So:Tt->Bool
 | .d _=>true
 | .nil=>true
 | _=>false
def MQ (p:Pl) (ts:List Tt):Bool:=!p.path.isEmpty&&Nat.blt 1 ts.length&&ts.all So
def jt (s:St) (p:Pl) (ts:List Tt) (k:St->Prop):Prop:=
 match bi s.m p.root with
 | none=>False
 | some r=>match p.path,r.hole,r.cells[p.off]? with
  | st::q,none,some (.ow sub u l)=>match m7 sub u l ts (st::q) with
   | some l'=>lu sub u l (st::q) (k ⟨s.nx+1,s.t,cO s.m p.root s.nx { r with cells:=r.cells.set p.off (.ow sub u l') }⟩)
   | none=>False
  | _,_,_=>False
def fQ (s:St) (p:Pl):List Tt->(St->Prop)->Prop
 | [],k=>k s
 | .rf q::ts,k=>match bi s.m q.root with
  | some ⟨false,[.ow sub u l],none⟩=>match q.path,decide (q.root=p.root),ts.all fun t=>!t.ment q.root with
   | [],false,true=>vW (s.drop q.root) p (.ow sub u l) fun s'=>fQ s' (p.add 1) ts k
   | _,_,_=>False
  | _=>False
 | .any::_,_=>False
 | .d .any::_,_=>False
 | t::ts,k=>vW s p t fun s'=>fQ s' (p.add 1) ts k
def lA (P:Program) (s:St) (t:TypeId) (x v:At) (k:St->Prop):Prop:=
 match x,jv v with
 | .one (.c (.pl p)),some ts=>match (ty P t).ok&&Nat.beq ts.length (ty P t).size&&gE s.m p (ts.length - 1) with
  | true=>match MQ p ts with
   | true=>jt s p ts k
   | false=>fQ s p ts k
  | false=>False
 | _,_=>False
def KS (s:St) (q:Pl):Option St:=
 match bi s.m q.root with
 | none=>none
 | some r=>match q.path,r.hole with
  | [],none=>some ⟨s.nx+1,iT (thr q) s.nx s.t,bN (thr q) s.nx (cO s.m q.root s.nx { r with cells:=r.cells.set q.off .any })⟩
  | st::p,none=>some ⟨s.nx+1,iT (thr q) s.nx s.t,bN (thr q) s.nx (cO s.m q.root s.nx { r with hole:=some (q.off,st,p) })⟩
  | _,_=>none
def NF (u:U):At->Option (List (El u))
 | .one (.c .nil)=>some []
 | .one (.c (.d (.li u' l)))=>oY u' u l
 | .one (.c (.d (.s b)))=>match u with
  | .b8=>some b
  | _=>none
 | _=>none
def gZ (s:St) (u:U):At->Option (St×List Sh×List (El u))
 | .one (.c .nil)=>some (s,List.replicate (nc u) .fr,[])
 | .one (.c (.rf q))=>match sliceAt s.m q with
  | some ⟨sub,u',l⟩=>match oY u' u l,Nat.beq sub.length (nc u),KS s q with
   | some l',true,some s'=>some (s',sub,l')
   | _,_,_=>none
  | none=>none
 | _=>none
def jE (P:Program) (E:Ut) (s00:St) (t u0:TypeId) (x y:Operand) (d:Tmp) (k:St->Prop):Prop:=
 let s:=fT s00 (evA s00 y)
 match (ty P t).k with
 | .sl e=>match E.get e,zcells P e with
  | some u,some z=>match (ty P e).ok&&(ty P u0).k.isSS&&Nat.beq z.length (ty P e).size&&Nat.beq (nc u) (ty P e).size with
   | true=>match NF u (evA s y),gZ s u (evA s x) with
    | some ys,some (s1,sub,l)=>match sub.all Sh.isFr with
     | true=>(l.length+ys.length<=4611686018427387904/\(l.length+ys.length)*(ty P e).bytes<=140737488355328) /\
      k (((s1.fresh (.gh d)).root (.gh d) ⟨false,[.ow sub u (l++ys)],none⟩).put (some d) (.one (.c (.rf ⟨.gh d,0,[]⟩))))
     | false=>False
    | _,_=>False
   | false=>False
  | _,_=>False
 | _=>False
def kh:List Sh->List Tt->Bool
 | [],[]=>true
 | .fr::r,_::ts=>kh r ts
 | .ow _::r,.nil::ts=>kh r ts
 | _,_=>false
def cx (P:Program) (E:Ut) (sub:List Sh) (s0:St) (t:TypeId) (len:Nat) (ps:Array (Nat×Operand)) (d:Tmp) (k:St->Prop):Prop:=
 match (ty P t).k with
 | .sl e=>match E.get e,zcells P e with
  | some u,some _=>match (ty P e).ok&&Nat.beq (nc u) (ty P e).size&&Nat.ble (len*nc u) 16777216&&Nat.ble len 16777216&&Nat.beq sub.length (nc u) with
   | true=>
    let s1:=aX s0 (ps.toList.map fun x=>evA s0 x.2)
    let s:=s1.fresh (.gh d)
    match jW (fun i=>some (i*nc u,nc u)) (List.replicate (len*nc u) .any) (dA s ps),(dA s1 ps).all (fun x=>x.2.noRf) with
    | some ts,true=>match fN u (chunk (nc u) len ts),kh (List.replicate len sub).flatten ts with
     | some l,true=>k ((s.root (.gh d) ⟨false,[.ow sub u l],none⟩).put (some d) (.one (.c (.rf ⟨.gh d,0,[]⟩))))
     | _,_=>False
    | _,_=>False
   | false=>False
  | _,_=>False
 | _=>False
def tH:List Tt->Nat->Option (Nat×Pl)
 | [],_=>none
 | .rf q::_,j=>some (j,q)
 | _::r,j=>tH r (j+1)
def Ku (sub:List Sh) (s:St) (ps:Array (Nat×Operand)):Bool:=match dA s ps with
 | [(0,.one (.agg ts))]=>match tH ts 0 with
  | some (j,_)=>match sub[j]? with
   | some (.ow _)=>true
   | _=>false
  | none=>false
 | _=>false
def cG (P:Program) (E:Ut) (sub:List Sh) (s:St) (t:TypeId) (len:Nat) (ps:Array (Nat×Operand)) (d:Tmp) (k:St->Prop):Prop:=
 match (ty P t).k with
 | .sl e=>match E.get e,zcells P e,dA s ps with
  | some u,some _,[(0,.one (.agg ts))]=>match tH ts 0 with
   | some (j,q)=>match sub[j]?,sliceAt s.m q with
    | some (.ow sub'),some ⟨_,u',_⟩=>match gZ s u' (.one (.c (.rf q))) with
     | some (s1,sub3,l')=>match (ty P e).ok&&Nat.beq (nc u) (ty P e).size&&Nat.ble (nc u) 16777216&&Nat.beq len 1&&Nat.beq sub.length (nc u)&&Nat.beq ts.length (nc u)&&(gR sub3 sub'&&((ts.set j .nil).all Tt.noRf&&kh sub (ts.set j .nil))),fN u [ts.set j (.d (.li u' l'))] with
      | true,some l=>k (((s1.fresh (.gh d)).root (.gh d) ⟨false,[.ow sub u l],none⟩).put (some d) (.one (.c (.rf ⟨.gh d,0,[]⟩))))
      | _,_=>False
     | none=>False
    | _,_=>False
   | none=>False
  | _,_,_=>False
 | _=>False
def gG (P:Program) (E:Ut) (s:St) (t u0:TypeId) (x y:Operand) (d:Tmp) (k:St->Prop):Prop:=
 match (ty P t).k with
 | .sl e=>match E.get e,zcells P e with
  | some u,some z=>match (ty P e).ok&&(ty P u0).k.isSS&&Nat.beq z.length (ty P e).size&&Nat.beq (nc u) (ty P e).size with
   | true=>match gZ s u (evA s y) with
    | some (s1,sub1,ys)=>match gZ s1 u (evA s1 x) with
     | some (s2,sub,l)=>match gR sub1 sub with
      | true=>(l.length+ys.length<=4611686018427387904/\(l.length+ys.length)*(ty P e).bytes<=140737488355328) /\
       k (((s2.fresh (.gh d)).root (.gh d) ⟨false,[.ow sub u (l++ys)],none⟩).put (some d) (.one (.c (.rf ⟨.gh d,0,[]⟩))))
      | false=>False
     | none=>False
    | none=>False
   | false=>False
  | _,_=>False
 | _=>False
def LV (s:St):At->Bool
 | .one (.c (.rf q))=>match sliceAt s.m q with
  | some ⟨sub,_,_⟩=>!(sub.all Sh.isFr)
  | none=>false
 | _=>false
def Km (sub:List Sh):List Step->Bool
 | []=>false
 | [st]=>match sub[st.off]? with
  | some .fr=>true
  | _=>false
 | st::st'::r=>match sub[st.off]? with
  | some (.ow s)=>Km s (st'::r)
  | _=>false
def Qt (m:List (Nm×Nat×Rt)) (p:Pl):Bool:=
 match bi m p.root with
 | none=>false
 | some r=>match p.path,r.hole,r.cells[p.off]? with
  | st::q,none,some (.ow sub _ _)=>Km sub (st::q)
  | _,_,_=>false
def PA (m:List (Nm×Nat×Rt)) (n:Nm):Bool:=
 match bi m n with
 | some r=>r.blk
 | none=>false
def rD (s:St) (p:Pl):List Tt->St
 | []=>s
 | .rf q::ts=>match Qt s.m p||PA s.m q.root with
  | true=>rD (pN s q) (p.add 1) ts
  | false=>rD s (p.add 1) ts
 | _::ts=>rD s (p.add 1) ts
def xx (s:St) (x v:At):St:=
 match x,jv v with
 | .one (.c (.pl p)),some ts=>rD s p ts
 | _,_=>s
abbrev PKt:=Value->St->Prop
abbrev CKt:=PKt->St->List Operand->(St->At->Prop)->Prop
abbrev CTt:=List (Nat×CKt)
def CTt.get:CTt->Nat->Option CKt
 | [],_=>none
 | (f,c)::r,i=>match Nat.beq f i with
  | true=>some c
  | false=>CTt.get r i
def DG:At->Bool
 | .one (.c (.d (.s _)))=>true
 | _=>false
structure En where
 P:Program
 E:Ut
 cs:CTt
 sh:List (TypeId×List Sh)
 pk:PKt
def dY:List (TypeId×List Sh)->TypeId->Option (List Sh)
 | [],_=>none
 | (t,u)::r,i=>match Nat.beq t i with
  | true=>some u
  | false=>dY r i
def Ox (e:En) (t:TypeId):Option (List Sh):=match (ty e.P t).k with
 | .sl el=>dY e.sh el
 | _=>none
def ug (tm:Nat):List Sh->Nat->St->St
 | [],_,s=>s
 | .fr::r,j,s=>ug tm r (j+1) s
 | .ow _::r,j,s=>match gtA s.t tm with
  | .one (.agg ts)=>match ts[j]? with
   | some (.rf q)=>match q.path,PA s.m q.root,sliceAt s.m q with
    | [],true,some ⟨_,u,_⟩=>match gZ s u (.one (.c (.rf q))) with
     | some (s1,sub,l)=>
      let s2:=(s1.fresh (.gh (700000+j))).root (.gh (700000+j)) ⟨false,[.ow sub u l],none⟩
      match gtA s2.t tm with
      | .one (.agg ts2)=>ug tm r (j+1) (s2.put (some tm) (.one (.agg (ts2.set j (.rf ⟨.gh (700000+j),0,[]⟩)))))
      | _=>ug tm r (j+1) s2
     | none=>ug tm r (j+1) s
    | _,_,_=>ug tm r (j+1) s
   | _=>ug tm r (j+1) s
  | _=>s
def Cc (sh:List (TypeId×List Sh)) (s:St) (t:TypeId) (v:Operand):St:=match dY sh (t+1000000),v with
 | some l,.tmp tm=>ug tm l 0 s
 | _,_=>s
def Qi:At->Option Nat
 | .one (.c (.d (.v (.func (.func f) a b))))=>match a.size,b.size with
  | 0,0=>some f
  | _,_=>none
 | _=>none
def uOf (P:Program) (E:Ut) (t:TypeId):Option U:=match (ty P t).k with
 | .str=>some .s
 | .bool=>some .bo
 | .int .u8=>some .b8
 | .int k=>some (.i k)
 | .sl e=>match E.get e with
  | some u=>some (.sl u)
  | none=>none
 | _=>none
def gI (P:Program) (t:TypeId):U->Bool
 | .s=>decide ((ty P t).k=.str)
 | .bo=>decide ((ty P t).k=.bool)
 | .i k=>decide ((ty P t).k=.int k)
 | _=>false
def lm:(u:U)->El u->El u->Bool
 | .i _,a,b=>decide ((a:Int)=b)
 | .bo,a,b=>(a:Bool)==b
 | .s,a,b=>decide ((a:List UInt8)=b)
 | _,_,_=>false
def aU {β:Type} (ku:U):List (El ku×β)->El ku->Option β
 | [],_=>none
 | x::l,k=>match lm ku x.1 k with
  | true=>some x.2
  | false=>aU ku l k
def eh {β:Type} (ku:U):List (El ku×β)->El ku->β->List (El ku×β)
 | [],k,v=>[(k,v)]
 | x::l,k,v=>match lm ku x.1 k with
  | true=>(k,v)::l
  | false=>x::eh ku l k v
def zOK (P:Program) (t:TypeId) (u:U):Bool:=match (P.info? t).bind (·.zero),u with
 | some (.int k n),.i k'=>decide (k=k')&&decide (n=0)&&decide (k≠.u8)
 | some (.bool b),.bo=>!b
 | some (.string s),.s=>s.data.toList.isEmpty
 | some (.slice none 0 0),.sl _=>true
 | _,_=>false
def lE (m:List (Nm×Nat×Rt)) (p:Pl):Option ((ku:U)×(vu:U)×List (El ku×El vu)):=match p with
 | ⟨n,0,[]⟩=>match bi m n with
  | some ⟨false,[.mp ku vu l],none⟩=>some ⟨ku,vu,l⟩
  | _=>none
 | _=>none
def qM (m:List (Nm×Nat×Rt)) (n:Nm):Option ((ku:U)×(u:U)×List (El ku×List (El u))×Option (El ku)):=match bi m n with
 | some ⟨false,[.mo ku u l h],none⟩=>some ⟨ku,u,l,h⟩
 | _=>none
def OT (s:St):At->Bool
 | .one (.c (.rf ⟨n,0,[]⟩))=>(qM s.m n).isSome
 | _=>false
def Qn (vu:U) (ok:Bool) (r:Option (El vu)):At:=match ok with
 | true=>.tup [.c (.d (am vu (r.getD (dflt vu)))),.c (.d (.bo r.isSome))]
 | false=>.one (.c (.d (am vu (r.getD (dflt vu)))))
def en (P:Program) (E:Ut) (own:Bool) (s:St) (t:TypeId) (d:Tmp) (k:St->Prop):Prop:=match (ty P t).k with
 | .mp kt et=>match uOf P E kt,uOf P E et,own with
  | some ku,some vu,false=>k (((s.fresh (.gh d)).root (.gh d) ⟨false,[.mp ku vu []],none⟩).put (some d) (.one (.c (.rf ⟨.gh d,0,[]⟩))))
  | some ku,some (.sl u),true=>k (((s.fresh (.gh d)).root (.gh d) ⟨false,[.mo ku u [] none],none⟩).put (some d) (.one (.c (.rf ⟨.gh d,0,[]⟩))))
  | _,_,_=>False
 | _=>False
def jr (P:Program) (m:List (Nm×Nat×Rt)) (t:TypeId) (x key:At) (ok:Bool) (k:At->Prop):Prop:=match (ty P t).k with
 | .mp kt et=>match x,key with
  | .one (.c (.rf p)),.one (.c (.d c))=>match lE m p with
   | some ⟨ku,vu,l⟩=>match gI P kt ku&&zOK P et vu,fI ku c with
    | true,some kx=>k (Qn vu ok (aU ku l kx))
    | _,_=>False
   | none=>False
  | _,_=>False
 | _=>False
def jj (P:Program) (s:St) (t:TypeId) (x key v:At) (k:St->Prop):Prop:=match (ty P t).k with
 | .mp kt _=>match x,key,v with
  | .one (.c (.rf p)),.one (.c (.d c)),.one (.c tv)=>match lE s.m p with
   | some ⟨ku,vu,l⟩=>match gI P kt ku&&leaf vu,fI ku c,gi vu [tv] with
    | true,some kx,some vx=>k ⟨s.nx+1,s.t,cO s.m p.root s.nx ⟨false,[.mp ku vu (eh ku l kx vx)],none⟩⟩
    | _,_,_=>False
   | none=>False
  | _,_,_=>False
 | _=>False
def mX {β:Type} (ku:U):List (El ku×β)->El ku->List (El ku×β)
 | [],_=>[]
 | x::l,k=>match lm ku x.1 k with
  | true=>l
  | false=>x::mX ku l k
def jN (P:Program) (s:St) (t:TypeId) (x key:At) (k:St->Prop):Prop:=match (ty P t).k with
 | .mp kt _=>match x,key with
  | .one (.c (.rf p)),.one (.c (.d c))=>match lE s.m p with
   | some ⟨ku,vu,l⟩=>match gI P kt ku,fI ku c with
    | true,some kx=>k ⟨s.nx+1,s.t,cO s.m p.root s.nx ⟨false,[.mp ku vu (mX ku l kx)],none⟩⟩
    | _,_=>False
   | none=>False
  | _,_=>False
 | _=>False
def jZ (P:Program) (s:St) (t:TypeId) (x key:Operand) (d:Tmp) (k:St->Prop):Prop:=match (ty P t).k with
 | .mp kt et=>
  let s1:=s.fresh (.gh d)
  match evA s1 x,evA s1 key with
  | .one (.c (.rf ⟨n,0,[]⟩)),.one (.c (.d c))=>match qM s1.m n with
   | some ⟨ku,u,l,none⟩=>match gI P kt ku&&zOK P et (.sl u),fI ku c with
    | true,some kx=>k (((⟨s1.nx+1,s1.t,cO s1.m n s1.nx ⟨false,[.mo ku u l (some kx)],none⟩⟩:St).root (.gh d) ⟨false,[.ow (List.replicate (nc u) .fr) u ((aU ku l kx).getD [])],none⟩).put (some d) (.one (.c (.rf ⟨.gh d,0,[]⟩))))
    | _,_=>False
   | _=>False
  | _,_=>False
 | _=>False
def mO (P:Program) (s:St) (t:TypeId) (x key v:At) (k:St->Prop):Prop:=match (ty P t).k with
 | .mp kt _=>match x,key,v with
  | .one (.c (.rf ⟨n,0,[]⟩)),.one (.c (.d c)),.one (.c (.rf ⟨q,0,[]⟩))=>match qM s.m n,bi s.m q with
   | some ⟨ku,u,l,h⟩,some ⟨false,[.ow sub u' rows],none⟩=>match gI P kt ku&&(gR sub (List.replicate (nc u) .fr)&&!(decide (q=n))),fI ku c,oY u' u rows with
    | true,some kx,some rows'=>(match h with
     | some k0=>kx=k0
     | none=>True)/\(let s1:=s.drop q; k ⟨s1.nx+1,s1.t,cO s1.m n s1.nx ⟨false,[.mo ku u (eh ku l kx rows') none],none⟩⟩)
    | _,_,_=>False
   | _,_=>False
  | _,_,_=>False
 | _=>False
def MR (e:En) (o:Oper):Bool:=match o.op,o.dst with
 | .slice _ _ none (some _) none,some d=>(dY e.sh (3000000+d)).isSome
 | .assign _,some d=>(dY e.sh (5000000+d)).isSome
 | _,_=>false
def kw (e:En) (s:St) (t:TypeId) (x hi:Operand) (d:Tmp) (k:St->Prop):Prop:=match (ty e.P t).k with
 | .sl el=>match evA s x,evA s hi with
  | .one (.c (.rf q)),.one (.c (.d (.i .i64 n)))=>match sliceAt s.m q with
   | some ⟨_,u,_⟩=>match (ty e.P el).ok,gZ s u (.one (.c (.rf q))) with
    | true,some (s1,sub,l)=>(0<=n/\n.toNat<=l.length)/\k (((s1.fresh (.gh d)).root (.gh d) ⟨false,[.ow sub u (l.take n.toNat)],none⟩).put (some d) (.one (.c (.rf ⟨.gh d,0,[]⟩))))
    | _,_=>False
   | none=>False
  | _,_=>False
 | _=>False
def mR (s:St) (x:Operand) (d:Tmp) (k:St->Prop):Prop:=match evA s x with
 | .one (.c (.rf ⟨n,0,[]⟩))=>match qM s.m n with
  | some ⟨ku,u,l,none⟩=>k ((⟨s.nx+1,s.t,cO s.m n s.nx ⟨false,[.mp ku (.sl u) l],none⟩⟩:St).put (some d) (.one (.c (.rf ⟨n,0,[]⟩))))
  | _=>False
 | _=>False
def Cw (e:En) (o:Oper) (s:St) (k:St->Prop):Prop:=match o.op,o.dst with
 | .slice t x none (some hi) none,some d=>kw e s t x hi d k
 | .assign x,some d=>mR s x d k
 | _,_=>False
def Gp:List Sh->U->Bool
 | [.fr],_=>true
 | [.ow _],.sl _=>true
 | _,_=>false
def vr:Operand->Operand->Bool
 | .tmp a,.tmp b=>Nat.beq a b
 | _,_=>false
def dE (e:En) (s:St) (t:TypeId) (n c:At) (same:Bool) (d:Tmp) (k:St->Prop):Prop:=match (ty e.P t).k,same with
 | .sl el,true=>match n with
  | .one (.c (.d (.i .i64 n)))=>match e.E.get el with
   | some u=>match zOK e.P el u&&Nat.beq (ty e.P el).size 1&&Gp ((dY e.sh el).getD [.fr]) u with
    | true=>(0<=n/\n<=4611686018427387904/\(ty e.P el).bytes*n.toNat<=281474976710656) /\
     k (((s.fresh (.gh d)).root (.gh d) ⟨false,[.ow ((dY e.sh el).getD [.fr]) u (List.replicate n.toNat (dflt u))],none⟩).put (some d) (.one (.c (.rf ⟨.gh d,0,[]⟩))))
    | false=>False
   | none=>False
  | _=>False
 | _,_=>False
def vX (s:St) (o:Oper):St:=
 match o.op with
 | .convert _ _ x=>fT s (evA s x)
 | .slice _ x _ _ _=>fT s (evA s x)
 | _=>s
def qT (e:En) (o:Oper) (s:St) (k:At->Prop):Prop:=
 match o.op with
 | .move x=>k (evA s x)
 | .assign x=>k (evA s x)
 | .pick c x y=>rk (evA s c) (evA s x) (evA s y) k
 | .binOp op t x y _=>C7 e.P op t (evA s x) (evA s y) k
 | .unOp op _ x=>unT op (evA s x) k
 | .load t x=>jH e.P s.m t (evA s x) k
 | .field t x i=>lV e.P t (evA s x) i k
 | .fieldAddr t x i=>dL e.P s.m t (evA s x) i k
 | .indexAddr t x i=>dH e.P s.m t (evA s x) (evA s i) k
 | .index t x i=>match (ty e.P t).k with
  | .str=>lN (evA s x) (evA s i) k
  | _=>False
 | .extract x i=>gN (evA s x) i k
 | .convert su du x=>ro e.P su du (evA s x) k
 | .slice t x lo hi none=>lQ e.P t (evA s x) (lo.map (evA s)) (hi.map (evA s)) k
 | .nilCheck x=>fg (evA s x) k
 | .build t ps=>mv e.P t (dA s ps) k
 | .call c=>match c.callee,c.args.toList,c.argTypes.toList with
  | .builtin .len,[x],[t]=>match rL (ty e.P t).k (DG (evA s x)) with
   | true=>C5 o.guard s.m (evA s x) fun n=>k (sct (.i .i64 (n:Int)))
   | false=>False
  | _,_,_=>False
 | _=>False
def lT (e:En) (o:Oper) (s:St) (k:St->Prop):Prop:=
 match o.op with
 | .store t x v=>let s0:=Cc e.sh s t v; let s1:=xx s0 (evA s0 x) (evA s0 v); lA e.P s1 t (evA s1 x) (evA s1 v) fun s'=>k (s'.put o.dst .any)
 | .alloc t=>match o.dst with
  | some d=>mb e.P s t d k
  | none=>False
 | .box _ x=>match o.dst with
  | some d=>Bg s x d k
  | none=>False
 | .buildSlice t n ps=>match o.dst with
  | some d=>match Ox e t with
   | none=>cW e.P e.E s t n ps d k
   | some sub=>match Ku sub s ps with
    | true=>cG e.P e.E sub s t n ps d k
    | false=>cx e.P e.E sub s t n ps d k
  | none=>False
 | .call c=>match c.callee,c.args.toList,c.argTypes.toList with
  | .builtin .append,[x,y],[t,u]=>match o.dst with
   | some d=>match LV s (evA s x) with
    | false=>jE e.P e.E s t u x y d k
    | true=>gG e.P e.E s t u x y d k
   | none=>False
  | .builtin .delete,[x,i],t::_=>jN e.P s t (evA s x) (evA s i) fun s'=>k (s'.put o.dst (.tup []))
  | .value (.func f),args,_=>match e.cs.get f with
   | some C=>C e.pk s args fun s' av=>k (s'.put o.dst av)
   | none=>False
  | .value (.tmp t),args,_=>match Qi (gtA s.t t),Nat.blt t 100000 with
   | some f,true=>match e.cs.get f with
    | some C=>C e.pk s args fun s' av=>k (s'.put o.dst av)
    | none=>False
   | _,_=>False
  | _,_,_=>False
 | .makeMap t r=>match o.dst,r with
  | some d,none=>en e.P e.E (dY e.sh (4000000+t)).isSome s t d k
  | some d,some x=>match evA s x with
   | .one (.c (.d (.i _ _)))=>en e.P e.E (dY e.sh (4000000+t)).isSome s t d k
   | _=>False
  | none,_=>False
 | .lookup t x i ok=>match OT s (evA s x),ok,o.dst with
  | true,false,some d=>jZ e.P s t x i d k
  | _,_,_=>jr e.P s.m t (evA s x) (evA s i) ok fun v=>k (s.put o.dst v)
 | .mapUpdate t m i v=>match OT s (evA s m) with
  | true=>mO e.P s t (evA s m) (evA s i) (evA s v) fun s'=>k (s'.put o.dst .any)
  | false=>let s1:=fT s (evA s v); jj e.P s1 t (evA s1 m) (evA s1 i) (evA s1 v) fun s'=>k (s'.put o.dst .any)
 | .makeSlice t n c=>match o.dst with
  | some d=>dE e s t (evA s n) (evA s c) (vr n c) d k
  | none=>False
 | _=>False
def sR (e:En) (o:Oper) (s:St) (k:St->Prop):Prop:=
 match isQ o with
 | true=>let s1:=vX s o; qT e o s1 fun v=>k (s1.put o.dst v)
 | false=>lT e o s k
def opT (e:En) (o:Oper) (s:St) (k:St->Prop):Prop:=
 match MR e o with
 | true=>Cw e o s k
 | false=>sR e o s k
def dand (p:Prop) [d:Decidable p] (b:Bool):Bool:=match d with
 | .isTrue _=>b
 | .isFalse _=>false
abbrev CKb:=St->List Operand->(St->At->Bool)->Bool
abbrev CBt:=List (Nat×CKb)
def CBt.get:CBt->Nat->Option CKb
 | [],_=>none
 | (f,c)::r,i=>match Nat.beq f i with
  | true=>some c
  | false=>CBt.get r i
structure EnB where
 e:En
 cs:CBt
def LC (c x y:At) (k:At->Bool):Bool:=
 match c with
 | .one (.c (.d (.bo b)))=>if b=true then k x else k y
 | _=>false
def Qf (op:BinOp) (k:IntKind) (a b:Int) (K:C->Bool):Bool:=
 match op with
 | .add=>K (mkC k (k.wrap (a+b)))
 | .sub=>K (mkC k (k.wrap (a-b)))
 | .mul=>K (mkC k (k.wrap (a*b)))
 | .quo=>dand (b≠0) (K (mkC k (k.wrap (a.tdiv b))))
 | .rem=>dand (b≠0) (K (mkC k (a.tmod b)))
 | .and=>K (mkC k (k.wrap (BitVec.ofInt k.bits a &&& BitVec.ofInt k.bits b).toNat))
 | .or=>K (mkC k (k.wrap (BitVec.ofInt k.bits a ||| BitVec.ofInt k.bits b).toNat))
 | .xor=>K (mkC k (k.wrap (BitVec.ofInt k.bits a ^^^ BitVec.ofInt k.bits b).toNat))
 | .andNot=>K (mkC k (k.wrap (BitVec.ofInt k.bits a &&& ~~~BitVec.ofInt k.bits b).toNat))
 | .shl=>dand (0<=b) (K (mkC k (k.wrap (a*2 ^ (min b.toNat k.bits)))))
 | .shr=>dand (0<=b) (K (mkC k (a.fdiv (2 ^ (min b.toNat k.bits)))))
 | .eql=>K (.bo (decide (a=b)))
 | .neq=>K (.bo (!decide (a=b)))
 | .lss=>K (.bo (decide (a<b)))
 | .leq=>K (.bo (decide (a<=b)))
 | .gtr=>K (.bo (decide (b<a)))
 | .geq=>K (.bo (decide (b<=a)))
def Lf (op:BinOp) (x y:C) (K:C->Bool):Bool:=
 match x,y with
 | .s a,.s b=>match op with
  | .add=>dand (a.length+b.length<=4611686018427387904) (K (.s (a++b)))
  | .eql=>K (.bo (decide (a=b)))
  | .neq=>K (.bo (!decide (a=b)))
  | .lss=>K (.bo (Op.bytesLess a b))
  | .leq=>K (.bo (Op.bytesLess a b||decide (a=b)))
  | .gtr=>K (.bo (!(Op.bytesLess a b||decide (a=b))))
  | .geq=>K (.bo (!Op.bytesLess a b))
  | _=>false
 | x,y=>match jB x,jB y with
  | some (k,a),some (k',b)=>if P9 op=true\/k=k' then Qf op k a b K else false
  | _,_=>false
def Q7 (P:Program) (op:BinOp) (t:TypeId) (x y:At) (k:At->Bool):Bool:=
 match x,y with
 | .one (.c (.d (.bo a))),.one (.c (.d (.bo b)))=>match (ty P t).k with
  | .bool=>match op with
   | .eql=>k (sct (.bo (a==b)))
   | .neq=>k (sct (.bo (!(a==b))))
   | _=>false
  | _=>false
 | .one (.c (.d a)),.one (.c (.d b))=>Lf op a b fun d=>k (sct d)
 | .one (.agg xs),.one (.agg ys)=>match A6 P t with
  | some l=>match Iq l (xs.map TC) (ys.map TC),op with
   | some b,.eql=>k (sct (.bo b))
   | some b,.neq=>k (sct (.bo (!b)))
   | _,_=>false
  | none=>false
 | _,_=>false
def unB (op:UnOp) (x:At) (k:At->Bool):Bool:=
 match op,x with
 | .not,.one (.c (.d (.bo b)))=>k (sct (.bo (!b)))
 | .neg,.one (.c (.d c))=>match jB c with
  | some (κ,n)=>k (sct (mkC κ (κ.wrap (0-n))))
  | none=>false
 | .xor,.one (.c (.d c))=>match jB c with
  | some (κ,n)=>k (sct (mkC κ (κ.wrap (BitVec.ofInt κ.bits (if κ.signed then -1 else κ.max) ^^^ BitVec.ofInt κ.bits n).toNat)))
  | none=>false
 | _,_=>false
def tA (x:At) (i:Nat) (k:At->Bool):Bool:=
 match x with
 | .tup vs=>match vs[i]? with
  | some v=>k (.one v)
  | none=>false
 | _=>false
def QR (gd:Option (Nat×Bool)) (m:List (Nm×Nat×Rt)) (x:At) (k:Nat->Bool):Bool:=
 match x with
 | .one (.c (.d (.s l)))=>k l.length
 | .one (.c (.d (.li _ l)))=>k l.length
 | .one (.c .nil)=>k 0
 | .one (.c (.rf p))=>match sliceAt m p with
  | some ⟨_,_,l⟩=>k l.length
  | _=>false
 | _=>false
def DY (x i:At) (k:At->Bool):Bool:=
 match x,i with
 | .one (.c (.d (.s l))),.one (.c (.d (.i _ n)))=>dand ((0<=n/\n.toNat<l.length)) (k (sct (.b (l.getD n.toNat 0))))
 | _,_=>false
def lw (x:Option At) (d:Nat) (k:Nat->Bool):Bool:=
 match x with
 | none=>k d
 | some (.one (.c (.d (.i _ n))))=>dand (0<=n) (k n.toNat)
 | _=>false
def D4 (P:Program) (t:TypeId) (x:At) (lo hi:Option At) (k:At->Bool):Bool:=
 match x with
 | .one (.c (.d (.s l)))=>match (ty P t).k with
  | .str=>lw lo 0 fun a=>lw hi l.length fun b=>dand ((a<=b/\b<=l.length)) (k (sct (.s ((l.drop a).take (b-a)))))
  | _=>false
 | .one (.c (.d (.li u l)))=>match (ty P t).k with
  | .sl e=>match (ty P e).ok&&Nat.beq (nc u) (ty P e).size with
   | true=>lw lo 0 fun a=>lw hi l.length fun b=>dand ((a<=b/\b<=l.length)) (k (sct (.li u ((l.drop a).take (b-a)))))
   | false=>false
  | _=>false
 | .one (.c .nil)=>match (ty P t).k with
  | .sl e=>match (ty P e).ok with
   | true=>lw lo 0 fun a=>lw hi 0 fun b=>dand (a<=b/\b<=0) (k (.one (.c .nil)))
   | false=>false
  | _=>false
 | _=>false
def nS (P:Program) (m:List (Nm×Nat×Rt)) (t:TypeId) (x:At) (i:Nat) (k:At->Bool):Bool:=
 match (ty P t).k with
 | .st fs=>match fs[i]? with
  | some (off,size+1,_)=>match x with
   | .one (.c (.pl p))=>match gE m p off with
    | true=>k (.one (.c (.pl (p.add off))))
    | false=>false
   | .one (.c (.el row o))=>k (.one (.c (.el row (o+off))))
   | _=>false
  | _=>false
 | _=>false
def ny (P:Program) (m:List (Nm×Nat×Rt)) (t:TypeId) (x i:At) (k:At->Bool):Bool:=
 match i with
 | .one (.c (.d (.i _ n)))=>match (ty P t).k with
  | .sl e=>match x with
   | .one (.c (.d (.li u l)))=>match (ty P e).ok&&Nat.beq (nc u) (ty P e).size with
    | true=>dand ((0<=n/\n.toNat<l.length)) (k (.one (.c (.el (flat u (l.getD n.toNat (dflt u))) 0))))
    | false=>false
   | .one (.c (.rf p))=>match (ty P e).ok&&Nat.ble 1 (ty P e).size with
    | true=>match sliceAt m p with
     | some ⟨sh,_,l⟩=>match Nat.beq sh.length (ty P e).size with
      | true=>dand ((0<=n/\n < (l.length:Int))) (k (.one (.c (.pl (p.at n.toNat (ty P e).size)))))
      | false=>false
     | _=>false
    | false=>false
   | _=>false
  | .ar N e=>match x with
   | .one (.c (.ga u l i))=>match (ty P e).ok&&Nat.beq (ty P e).size 1&&leaf u with
    | true=>dand ((0<=n/\n < (N:Int))) (k (.one (.c (.ga u l (n.toNat+i)))))
    | false=>false
   | .one (.c (.pl p))=>match (ty P e).ok&&gE m p (n.toNat*(ty P e).size) with
    | true=>dand ((0<=n/\n < (N:Int))) (k (.one (.c (.pl (p.add (n.toNat*(ty P e).size))))))
    | false=>false
   | _=>false
  | _=>false
 | _=>false
def FSx (P:Program) (m:List (Nm×Nat×Rt)) (t:TypeId) (x:At) (k:At->Bool):Bool:=
 match (ty P t).ok with
 | true=>match x with
  | .one (.c (.el row o))=>match (ty P t).agg with
   | true=>match Nat.ble (o+(ty P t).size) row.length with
    | true=>k (.one (.agg (((row.drop o).take (ty P t).size).map Tt.d)))
    | false=>false
   | false=>match row[o]? with
    | some c=>k (sct c)
    | none=>false
  | .one (.c (.ga u l i))=>match (ty P t).agg,leaf u with
   | false,true=>dand (i<l.length) (k (sct (am u (l.getD i (dflt u)))))
   | _,_=>false
  | .one (.c (.pl p))=>match (ty P t).agg with
   | true=>match atT m p (ty P t).size with
    | some ts=>k (.one (.agg (rg p ts)))
    | none=>false
   | false=>match atT m p 1 with
    | some [t']=>k (.one (.c (Ic p t')))
    | _=>false
  | _=>false
 | false=>false
def Fv (P:Program) (t:TypeId) (x:At) (i:Nat) (k:At->Bool):Bool:=
 match (ty P t).k,x with
 | .st fs,.one (.agg ts)=>match fs[i]? with
  | some (off,_,some false)=>match ts[off]? with
   | some t'=>k (.one (.c t'))
   | none=>false
  | some (off,size,some true)=>match Nat.ble (off+size) ts.length with
   | true=>k (.one (.agg ((ts.drop off).take size)))
   | false=>false
  | _=>false
 | _,_=>false
def qt (x:At) (k:At->Bool):Bool:=
 match x with
 | .one (.c (.pl _))=>k x
 | .one (.c (.el _ _))=>k x
 | .one (.c (.ga _ _ _))=>k x
 | _=>false
def DD (P:Program) (t:TypeId) (parts:List (Nat×At)) (k:At->Bool):Bool:=
 match zst P t with
 | some (zs,places)=>match jW (places[·]?) (zs.map lD) parts with
  | some ts=>k (.one (.agg ts))
  | none=>false
 | none=>false
def MC (P:Program) (su du:TypeId) (x:At) (k:At->Bool):Bool:=
 match (ty P su).k,(ty P du).k with
 | .int _,.int κ=>match x with
  | .one (.c (.d c))=>match jB c with
   | some (_,n)=>k (sct (mkC κ (κ.wrap n)))
   | none=>false
  | _=>false
 | .sl e,.str=>match (ty P e).k with
  | .int .u8=>match x with
   | .one (.c (.d (.li .b8 l)))=>k (sct (.s l))
   | .one (.c .nil)=>k (sct (.s []))
   | _=>false
  | _=>false
 | _,_=>false
def Fq (P:Program) (s:St) (t:TypeId) (d:Tmp) (k:St->Bool):Bool:=
 match zcells P t with
 | some (z::zs)=>match Nat.blt d 1000000 with
  | true=>k (((s.fresh (jf t d)).root (jf t d) ⟨true,(z::zs).map lD,none⟩).put (some d) (.one (.c (.pl ⟨jf t d,0,[]⟩))))
  | false=>false
 | _=>false
def PY (s:St) (x:Operand) (d:Tmp) (k:St->Bool):Bool:=
 match jv (evA (s.fresh (.loc d)) x) with
 | some (t::ts)=>match (t::ts).all Tt.sure&&Nat.blt d 1000000 with
  | true=>k (((s.fresh (.loc d)).root (.loc d) ⟨true,t::ts,none⟩).put (some d) (.one (.c (.pl ⟨.loc d,0,[]⟩))))
  | false=>false
 | _=>false
def lG (P:Program) (E:Ut) (s0:St) (t:TypeId) (len:Nat) (ps:Array (Nat×Operand)) (d:Tmp) (k:St->Bool):Bool:=
 match (ty P t).k with
 | .sl e=>match E.get e,zcells P e with
  | some u,some _=>match (ty P e).ok&&Nat.beq (nc u) (ty P e).size&&Nat.ble (len*nc u) 16777216&&Nat.ble len 16777216 with
   | true=>
    let s1:=aX s0 (ps.toList.map fun x=>evA s0 x.2)
    let s:=s1.fresh (.gh d)
    match jW (fun i=>some (i*nc u,nc u)) (List.replicate (len*nc u) .any) (dA s ps),(dA s1 ps).all (fun x=>x.2.noRf) with
    | some ts,true=>match fN u (chunk (nc u) len ts) with
     | some l=>k ((s.root (.gh d) ⟨false,[.ow (List.replicate (nc u) .fr) u l],none⟩).put (some d) (.one (.c (.rf ⟨.gh d,0,[]⟩))))
     | none=>false
    | _,_=>false
   | false=>false
  | _,_=>false
 | _=>false
def xE (sub:List Sh) (u:U) (l:List (El u)):List Step->Bool->Bool
 | [],_=>false
 | [st],k=>dand (st.idx<l.length) (k)
 | st::st'::r,k=>match sub[st.off]?,(flat u (l.getD st.idx (dflt u)))[st.off]? with
  | some (.ow s),some (.li u' l')=>dand (st.idx<l.length) (xE s u' l' (st'::r) k)
  | _,_=>false
def sG:List Step->List Step->Bool->Bool
 | [],[],p=>p
 | a::r,b::q,p=>match Nat.beq a.esz b.esz&&Nat.beq a.off b.off with
  | true=>dand (a.idx=b.idx) (sG r q p)
  | false=>false
 | _,_,_=>false
def NE (s:St) (p:Pl) (t:Tt) (k:St->Bool):Bool:=
 match bi s.m p.root with
 | none=>false
 | some r=>match p.path,r.hole,r.cells[p.off]? with
  | [],none,some t0=>match t0.owned with
   | false=>k ⟨s.nx+1,s.t,cO s.m p.root s.nx { r with cells:=r.cells.set p.off t }⟩
   | true=>false
  | st::q,none,some (.ow sub u l)=>match xr sub u l t (st::q) with
   | some l'=>xE sub u l (st::q) (k ⟨s.nx+1,s.t,cO s.m p.root s.nx { r with cells:=r.cells.set p.off (.ow sub u l') }⟩)
   | none=>false
  | st::q,some (off,st',q'),some (.ow sub u l)=>match Nat.beq off p.off,t with
   | true,.ow sh v lv=>match xY sub u l sh v lv (st::q) with
    | some l'=>xE sub u l (st::q) (sG (st'::q') (st::q) (k ⟨s.nx+1,s.t,cO s.m p.root s.nx ⟨r.blk,r.cells.set p.off (.ow sub u l'),none⟩⟩))
    | none=>false
   | _,_=>false
  | _,_,_=>false
def yN (s:St) (p:Pl) (ts:List Tt) (k:St->Bool):Bool:=
 match bi s.m p.root with
 | none=>false
 | some r=>match p.path,r.hole,r.cells[p.off]? with
  | st::q,none,some (.ow sub u l)=>match m7 sub u l ts (st::q) with
   | some l'=>xE sub u l (st::q) (k ⟨s.nx+1,s.t,cO s.m p.root s.nx { r with cells:=r.cells.set p.off (.ow sub u l') }⟩)
   | none=>false
  | _,_,_=>false
def oS (s:St) (p:Pl):List Tt->(St->Bool)->Bool
 | [],k=>k s
 | .rf q::ts,k=>match bi s.m q.root with
  | some ⟨false,[.ow sub u l],none⟩=>match q.path,decide (q.root=p.root),ts.all fun t=>!t.ment q.root with
   | [],false,true=>NE (s.drop q.root) p (.ow sub u l) fun s'=>oS s' (p.add 1) ts k
   | _,_,_=>false
  | _=>false
 | .any::_,_=>false
 | .d .any::_,_=>false
 | t::ts,k=>NE s p t fun s'=>oS s' (p.add 1) ts k
def Ee (P:Program) (s:St) (t:TypeId) (x v:At) (k:St->Bool):Bool:=
 match x,jv v with
 | .one (.c (.pl p)),some ts=>match (ty P t).ok&&Nat.beq ts.length (ty P t).size&&gE s.m p (ts.length - 1) with
  | true=>match MQ p ts with
   | true=>yN s p ts k
   | false=>oS s p ts k
  | false=>false
 | _,_=>false
def yj (P:Program) (E:Ut) (s00:St) (t u0:TypeId) (x y:Operand) (d:Tmp) (k:St->Bool):Bool:=
 let s:=fT s00 (evA s00 y)
 match (ty P t).k with
 | .sl e=>match E.get e,zcells P e with
  | some u,some z=>match (ty P e).ok&&(ty P u0).k.isSS&&Nat.beq z.length (ty P e).size&&Nat.beq (nc u) (ty P e).size with
   | true=>match NF u (evA s y),gZ s u (evA s x) with
    | some ys,some (s1,sub,l)=>match sub.all Sh.isFr with
     | true=>dand ((l.length+ys.length<=4611686018427387904/\(l.length+ys.length)*(ty P e).bytes<=140737488355328)) (k (((s1.fresh (.gh d)).root (.gh d) ⟨false,[.ow sub u (l++ys)],none⟩).put (some d) (.one (.c (.rf ⟨.gh d,0,[]⟩)))))
     | false=>false
    | _,_=>false
   | false=>false
  | _,_=>false
 | _=>false
def jV (P:Program) (E:Ut) (sub:List Sh) (s0:St) (t:TypeId) (len:Nat) (ps:Array (Nat×Operand)) (d:Tmp) (k:St->Bool):Bool:=
 match (ty P t).k with
 | .sl e=>match E.get e,zcells P e with
  | some u,some _=>match (ty P e).ok&&Nat.beq (nc u) (ty P e).size&&Nat.ble (len*nc u) 16777216&&Nat.ble len 16777216&&Nat.beq sub.length (nc u) with
   | true=>
    let s1:=aX s0 (ps.toList.map fun x=>evA s0 x.2)
    let s:=s1.fresh (.gh d)
    match jW (fun i=>some (i*nc u,nc u)) (List.replicate (len*nc u) .any) (dA s ps),(dA s1 ps).all (fun x=>x.2.noRf) with
    | some ts,true=>match fN u (chunk (nc u) len ts),kh (List.replicate len sub).flatten ts with
     | some l,true=>k ((s.root (.gh d) ⟨false,[.ow sub u l],none⟩).put (some d) (.one (.c (.rf ⟨.gh d,0,[]⟩))))
     | _,_=>false
    | _,_=>false
   | false=>false
  | _,_=>false
 | _=>false
def jT (P:Program) (E:Ut) (sub:List Sh) (s:St) (t:TypeId) (len:Nat) (ps:Array (Nat×Operand)) (d:Tmp) (k:St->Bool):Bool:=
 match (ty P t).k with
 | .sl e=>match E.get e,zcells P e,dA s ps with
  | some u,some _,[(0,.one (.agg ts))]=>match tH ts 0 with
   | some (j,q)=>match sub[j]?,sliceAt s.m q with
    | some (.ow sub'),some ⟨_,u',_⟩=>match gZ s u' (.one (.c (.rf q))) with
     | some (s1,sub3,l')=>match (ty P e).ok&&Nat.beq (nc u) (ty P e).size&&Nat.ble (nc u) 16777216&&Nat.beq len 1&&Nat.beq sub.length (nc u)&&Nat.beq ts.length (nc u)&&(gR sub3 sub'&&((ts.set j .nil).all Tt.noRf&&kh sub (ts.set j .nil))),fN u [ts.set j (.d (.li u' l'))] with
      | true,some l=>k (((s1.fresh (.gh d)).root (.gh d) ⟨false,[.ow sub u l],none⟩).put (some d) (.one (.c (.rf ⟨.gh d,0,[]⟩))))
      | _,_=>false
     | none=>false
    | _,_=>false
   | none=>false
  | _,_,_=>false
 | _=>false
def qx (P:Program) (E:Ut) (s:St) (t u0:TypeId) (x y:Operand) (d:Tmp) (k:St->Bool):Bool:=
 match (ty P t).k with
 | .sl e=>match E.get e,zcells P e with
  | some u,some z=>match (ty P e).ok&&(ty P u0).k.isSS&&Nat.beq z.length (ty P e).size&&Nat.beq (nc u) (ty P e).size with
   | true=>match gZ s u (evA s y) with
    | some (s1,sub1,ys)=>match gZ s1 u (evA s1 x) with
     | some (s2,sub,l)=>match gR sub1 sub with
      | true=>dand ((l.length+ys.length<=4611686018427387904/\(l.length+ys.length)*(ty P e).bytes<=140737488355328)) (k (((s2.fresh (.gh d)).root (.gh d) ⟨false,[.ow sub u (l++ys)],none⟩).put (some d) (.one (.c (.rf ⟨.gh d,0,[]⟩)))))
      | false=>false
     | none=>false
    | none=>false
   | false=>false
  | _,_=>false
 | _=>false
def oK (P:Program) (E:Ut) (own:Bool) (s:St) (t:TypeId) (d:Tmp) (k:St->Bool):Bool:=match (ty P t).k with
 | .mp kt et=>match uOf P E kt,uOf P E et,own with
  | some ku,some vu,false=>k (((s.fresh (.gh d)).root (.gh d) ⟨false,[.mp ku vu []],none⟩).put (some d) (.one (.c (.rf ⟨.gh d,0,[]⟩))))
  | some ku,some (.sl u),true=>k (((s.fresh (.gh d)).root (.gh d) ⟨false,[.mo ku u [] none],none⟩).put (some d) (.one (.c (.rf ⟨.gh d,0,[]⟩))))
  | _,_,_=>false
 | _=>false
def zm (P:Program) (m:List (Nm×Nat×Rt)) (t:TypeId) (x key:At) (ok:Bool) (k:At->Bool):Bool:=match (ty P t).k with
 | .mp kt et=>match x,key with
  | .one (.c (.rf p)),.one (.c (.d c))=>match lE m p with
   | some ⟨ku,vu,l⟩=>match gI P kt ku&&zOK P et vu,fI ku c with
    | true,some kx=>k (Qn vu ok (aU ku l kx))
    | _,_=>false
   | none=>false
  | _,_=>false
 | _=>false
def zD (P:Program) (s:St) (t:TypeId) (x key v:At) (k:St->Bool):Bool:=match (ty P t).k with
 | .mp kt _=>match x,key,v with
  | .one (.c (.rf p)),.one (.c (.d c)),.one (.c tv)=>match lE s.m p with
   | some ⟨ku,vu,l⟩=>match gI P kt ku&&leaf vu,fI ku c,gi vu [tv] with
    | true,some kx,some vx=>k ⟨s.nx+1,s.t,cO s.m p.root s.nx ⟨false,[.mp ku vu (eh ku l kx vx)],none⟩⟩
    | _,_,_=>false
   | none=>false
  | _,_,_=>false
 | _=>false
def yt (P:Program) (s:St) (t:TypeId) (x key:At) (k:St->Bool):Bool:=match (ty P t).k with
 | .mp kt _=>match x,key with
  | .one (.c (.rf p)),.one (.c (.d c))=>match lE s.m p with
   | some ⟨ku,vu,l⟩=>match gI P kt ku,fI ku c with
    | true,some kx=>k ⟨s.nx+1,s.t,cO s.m p.root s.nx ⟨false,[.mp ku vu (mX ku l kx)],none⟩⟩
    | _,_=>false
   | none=>false
  | _,_=>false
 | _=>false
def nE (e:EnB) (s:St) (t:TypeId) (n c:At) (same:Bool) (d:Tmp) (k:St->Bool):Bool:=match (ty e.e.P t).k,same with
 | .sl el,true=>match n with
  | .one (.c (.d (.i .i64 n)))=>match e.e.E.get el with
   | some u=>match zOK e.e.P el u&&Nat.beq (ty e.e.P el).size 1&&Gp ((dY e.e.sh el).getD [.fr]) u with
    | true=>dand ((0<=n/\n<=4611686018427387904/\(ty e.e.P el).bytes*n.toNat<=281474976710656)) (k (((s.fresh (.gh d)).root (.gh d) ⟨false,[.ow ((dY e.e.sh el).getD [.fr]) u (List.replicate n.toNat (dflt u))],none⟩).put (some d) (.one (.c (.rf ⟨.gh d,0,[]⟩)))))
    | false=>false
   | none=>false
  | _=>false
 | _,_=>false
def qB (e:EnB) (o:Oper) (s:St) (k:At->Bool):Bool:=
 match o.op with
 | .move x=>k (evA s x)
 | .assign x=>k (evA s x)
 | .pick c x y=>LC (evA s c) (evA s x) (evA s y) k
 | .binOp op t x y _=>Q7 e.e.P op t (evA s x) (evA s y) k
 | .unOp op _ x=>unB op (evA s x) k
 | .load t x=>FSx e.e.P s.m t (evA s x) k
 | .field t x i=>Fv e.e.P t (evA s x) i k
 | .fieldAddr t x i=>nS e.e.P s.m t (evA s x) i k
 | .indexAddr t x i=>ny e.e.P s.m t (evA s x) (evA s i) k
 | .index t x i=>match (ty e.e.P t).k with
  | .str=>DY (evA s x) (evA s i) k
  | _=>false
 | .extract x i=>tA (evA s x) i k
 | .convert su du x=>MC e.e.P su du (evA s x) k
 | .slice t x lo hi none=>D4 e.e.P t (evA s x) (lo.map (evA s)) (hi.map (evA s)) k
 | .nilCheck x=>qt (evA s x) k
 | .build t ps=>DD e.e.P t (dA s ps) k
 | .call c=>match c.callee,c.args.toList,c.argTypes.toList with
  | .builtin .len,[x],[t]=>match rL (ty e.e.P t).k (DG (evA s x)) with
   | true=>QR o.guard s.m (evA s x) fun n=>k (sct (.i .i64 (n:Int)))
   | false=>false
  | _,_,_=>false
 | _=>false
def lB (e:EnB) (o:Oper) (s:St) (k:St->Bool):Bool:=
 match o.op with
 | .store t x v=>let s0:=Cc e.e.sh s t v; let s1:=xx s0 (evA s0 x) (evA s0 v); Ee e.e.P s1 t (evA s1 x) (evA s1 v) fun s'=>k (s'.put o.dst .any)
 | .alloc t=>match o.dst with
  | some d=>Fq e.e.P s t d k
  | none=>false
 | .box _ x=>match o.dst with
  | some d=>PY s x d k
  | none=>false
 | .buildSlice t n ps=>match o.dst with
  | some d=>match Ox e.e t with
   | none=>lG e.e.P e.e.E s t n ps d k
   | some sub=>match Ku sub s ps with
    | true=>jT e.e.P e.e.E sub s t n ps d k
    | false=>jV e.e.P e.e.E sub s t n ps d k
  | none=>false
 | .call c=>match c.callee,c.args.toList,c.argTypes.toList with
  | .builtin .append,[x,y],[t,u]=>match o.dst with
   | some d=>match LV s (evA s x) with
    | false=>yj e.e.P e.e.E s t u x y d k
    | true=>qx e.e.P e.e.E s t u x y d k
   | none=>false
  | .builtin .delete,[x,i],t::_=>yt e.e.P s t (evA s x) (evA s i) fun s'=>k (s'.put o.dst (.tup []))
  | .value (.func f),args,_=>match CBt.get e.cs f with
   | some C=>C s args fun s' av=>k (s'.put o.dst av)
   | none=>false
  | .value (.tmp t),args,_=>match Qi (gtA s.t t),Nat.blt t 100000 with
   | some f,true=>match CBt.get e.cs f with
    | some C=>C s args fun s' av=>k (s'.put o.dst av)
    | none=>false
   | _,_=>false
  | _,_,_=>false
 | .makeMap t r=>match o.dst,r with
  | some d,none=>oK e.e.P e.e.E (dY e.e.sh (4000000+t)).isSome s t d k
  | some d,some x=>match evA s x with
   | .one (.c (.d (.i _ _)))=>oK e.e.P e.e.E (dY e.e.sh (4000000+t)).isSome s t d k
   | _=>false
  | none,_=>false
 | .lookup t x i ok=>match OT s (evA s x),ok,o.dst with
  | true,false,some d=>false
  | _,_,_=>zm e.e.P s.m t (evA s x) (evA s i) ok fun v=>k (s.put o.dst v)
 | .mapUpdate t m i v=>match OT s (evA s m) with
  | true=>false
  | false=>let s1:=fT s (evA s v); zD e.e.P s1 t (evA s1 m) (evA s1 i) (evA s1 v) fun s'=>k (s'.put o.dst .any)
 | .makeSlice t n c=>match o.dst with
  | some d=>nE e s t (evA s n) (evA s c) (vr n c) d k
  | none=>false
 | _=>false
def NY (e:EnB) (o:Oper) (s:St) (k:St->Bool):Bool:=
 match isQ o with
 | true=>let s1:=vX s o; qB e o s1 fun v=>k (s1.put o.dst v)
 | false=>lB e o s k
def opB (e:EnB) (o:Oper) (s:St) (k:St->Bool):Bool:=
 match MR e.e o with
 | true=>false
 | false=>NY e o s k
end Go.Am
end
