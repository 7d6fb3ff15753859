/-
  Part 10: AmWalk · AmPtrCon · AmOwn · AmPtrFn · AmAuto · AmArr · AmSem · AmData · AmU · AmE1 · AmE2 · AmE4.
-/
import Derived.Test.YtjccmeppajblpaaGreatDoorSk9
import Derived.IntWalk
set_option linter.unusedSimpArgs false
set_option linter.unusedVariables false
set_option linter.unusedSectionVars false
set_option linter.unnecessarySimpa false
section
namespace Go.Am
def keepT (ks:List Nat) (t:List (Nat×AV)):List (Nat×AV):=ks.map fun k=>(k,getT t k)
def S.drops:List Nm->S->S
 | [],s=>s
 | n::ns,s=>S.drops ns (s.drop n)
def S.cut (ks:List Nat) (ds:List Nm) (s:S):S:=S.drops ds ⟨keepT ks s.t,s.m⟩
theorem getT_keepT (t:List (Nat×AV)) (i:Nat):∀ ks:List Nat,getT (keepT ks t) i=getT t i\/getT (keepT ks t) i=.any
 | []=>.inr rfl
 | k::ks=>by
  simp only [keepT,List.map_cons,getT]
  by_cases h:k=i
  ·subst h; rw [if_pos rfl]; exact .inl rfl
  ·rw [if_neg h]; exact getT_keepT t i ks
theorem RX_keepT {g:G} {s:S} {a:Act} {w:World} {H:FH} {γ:Gam} {F:Nm->Fp} (ks:List Nat) (h:RX g s a w H γ F):RX g ⟨keepT ks s.t,s.m⟩ a w H γ F:=by
 refine ⟨h.mem,h.fr,h.nt,h.df,fun i=>?_⟩
 show AR w H γ s.m (getT (keepT ks s.t) i) _
 rcases getT_keepT s.t i ks with e | e
 ·rw [e]; exact h.t i
 ·rw [e]; trivial
theorem RX_drops {g:G} {a:Act} {w:World} {H:FH} {γ:Gam} {F:Nm->Fp}:∀ (ds:List Nm) {s:S},RX g s a w H γ F->RX g (S.drops ds s) a w H γ F
 | [],_,h=>h
 | n::ns,_,h=>RX_drops ns (RX_drop h n)
theorem R_cut {g:G} {s:S} {a:Act} {w:World} (ks:List Nat) (ds:List Nm) (h:R g s a w):R g (s.cut ks ds) a w:=by
 obtain ⟨H,γ,F,h⟩:=h
 exact ⟨H,γ,F,RX_drops ds (RX_keepT ks h)⟩
section
variable {P:Program} {cs:CT} {g:G} {Q:Exit->S->Prop} {s:S}
theorem AW_post {c:Code} {f:S->S} (hf:∀ s a w,R g s a w->R g (f s) a w) (h:AW P g c (fun e s=>match e with | .normal=>Q .normal (f s) | e=>Q e s) s):AW P g c Q s:=fun a w hR=>
 Code.wp_mono (fun e a' w' ⟨s',h1,h2⟩=>by
  cases e with
  | normal=>exact ⟨_,h1,hf _ _ _ h2⟩
  | _=>exact ⟨s',h1,h2⟩) (h a w hR)
theorem AW_reg (ks:List Nat) (ds:List Nm) (hcs:cs.Ok P) {id:Nat} {l:List Oper} (hc:opsC g.nt l l=true) (h:opsK P cs l l s (fun s'=>Q .normal (s'.cut ks ds))):AW P g (.region id l.toArray false) Q s:=
 AW_post (f:=S.cut ks ds) (fun _ _ _ h=>R_cut ks ds h) (AW_ops hcs hc h)
def S.one (s:S) (d:Nat) (v:AV):S:=⟨(d,v)::s.t,s.m⟩
end
structure Rw (α:Type) where
 enc:α->List D
 dec:List D->Option α
 inv:∀ l x,dec l=some x->l=enc x
structure Cd (α:Type) where
 enc:α->AV1
 dec:AV1->Option α
 inv:∀ v x,dec v=some x->v=enc x
def decL {α:Type} (c:Rw α):List (List D)->Option (List α)
 | []=>some []
 | r::rs=>match c.dec r with
  | some x=>match decL c rs with
   | some xs=>some (x::xs)
   | none=>none
  | none=>none
theorem decL_inv {α:Type} {c:Rw α}:∀ {l:List (List D)} {xs:List α},decL c l=some xs->l=xs.map c.enc
 | [],xs,h=>by simp only [decL,Option.some.injEq] at h; subst h; rfl
 | r::rs,xs,h=>by
  simp only [decL] at h
  cases h1:c.dec r with
  | none=>rw [h1] at h; simp at h
  | some x=>
   rw [h1] at h
   cases h2:decL c rs with
   | none=>rw [h2] at h; simp at h
   | some ys=>
    rw [h2] at h
    simp only [Option.some.injEq] at h
    subst h
    rw [c.inv r x h1,decL_inv h2]; rfl
def tds:List T->Option (List D)
 | []=>some []
 | .d x::ts=>match tds ts with
  | some xs=>some (x::xs)
  | none=>none
 | _=>none
theorem tds_inv:∀ {ts:List T} {xs:List D},tds ts=some xs->ts=xs.map T.d
 | [],xs,h=>by simp only [tds,Option.some.injEq] at h; subst h; rfl
 | .d x::ts,xs,h=>by
  simp only [tds] at h
  cases h2:tds ts with
  | none=>rw [h2] at h; simp at h
  | some ys=>
   rw [h2] at h
   simp only [Option.some.injEq] at h
   subst h
   rw [tds_inv h2]; rfl
 | .nil::_,_,h=>by simp [tds] at h
 | .ow _ _::_,_,h=>by simp [tds] at h
 | .el _ _::_,_,h=>by simp [tds] at h
 | .pl _::_,_,h=>by simp [tds] at h
 | .rf _::_,_,h=>by simp [tds] at h
 | .any::_,_,h=>by simp [tds] at h
def decI (k:IntKind):AV1->Option Int
 | .c (.d (.int k' n))=>if k'=k then some n else none
 | _=>none
def cI (k:IntKind):Cd Int where
 enc n:=.c (.d (.int k n))
 dec:=decI k
 inv v x h:=by
  unfold decI at h
  split at h
  ·split at h
   ·rename_i e; subst e; simp only [Option.some.injEq] at h; subst h; rfl
   ·simp at h
  ·simp at h
def decB:AV1->Option Bool
 | .c (.d (.bool b))=>some b
 | _=>none
def cB:Cd Bool where
 enc b:=.c (.d (.bool b))
 dec:=decB
 inv v x h:=by unfold decB at h; split at h <;> simp at h; subst h; rfl
def decS:AV1->Option (List UInt8)
 | .c (.d (.str b))=>some b
 | _=>none
def cS:Cd (List UInt8) where
 enc b:=.c (.d (.str b))
 dec:=decS
 inv v x h:=by unfold decS at h; split at h <;> simp at h; subst h; rfl
def decSl {α:Type} (c:Rw α):AV1->Option (List α)
 | .c (.d (.li l))=>decL c l
 | _=>none
def cL {α:Type} (c:Rw α):Cd (List α) where
 enc l:=.c (.d (.li (l.map c.enc)))
 dec:=decSl c
 inv v x h:=by
  unfold decSl at h; split at h
  ·rw [decL_inv h]
  ·simp at h
def decA {α:Type} (c:Rw α):AV1->Option α
 | .agg ts=>match tds ts with
  | some l=>c.dec l
  | none=>none
 | _=>none
def cA {α:Type} (c:Rw α):Cd α where
 enc x:=.agg ((c.enc x).map T.d)
 dec:=decA c
 inv v x h:=by
  unfold decA at h
  split at h
  ·rename_i ts
   cases h1:tds ts with
   | none=>rw [h1] at h; simp at h
   | some l=>rw [h1] at h; rw [tds_inv h1,c.inv _ _ h]
  ·simp at h
def decRS:List D->Option (List UInt8)
 | [.str b]=>some b
 | _=>none
def rS:Rw (List UInt8) where
 enc b:=[.str b]
 dec:=decRS
 inv l x h:=by unfold decRS at h; split at h <;> simp at h; subst h; rfl
def decRI (k:IntKind):List D->Option Int
 | [.int k' n]=>if k'=k then some n else none
 | _=>none
def rI (k:IntKind):Rw Int where
 enc n:=[.int k n]
 dec:=decRI k
 inv l x h:=by
  unfold decRI at h
  split at h
  ·split at h
   ·rename_i e; subst e; simp only [Option.some.injEq] at h; subst h; rfl
   ·simp at h
  ·simp at h
theorem rS_dec (a:List UInt8):rS.dec [.str a]=some a:=rfl
section
variable {α β γ δ ρ:Type}
def fn0 (r:ρ->AV) (v:ρ):List AV->(AV->Prop)->Prop
 | [],K=>K (r v)
 | _,_=>False
def fn1 (a:Cd α) (r:ρ->AV) (pre:α->Prop) (f:α->ρ):List AV->(AV->Prop)->Prop
 | [.one x],K=>match a.dec x with
  | some x=>pre x/\K (r (f x))
  | none=>False
 | _,_=>False
def fn2 (a:Cd α) (b:Cd β) (r:ρ->AV) (pre:α->β->Prop) (f:α->β->ρ):List AV->(AV->Prop)->Prop
 | [.one x,.one y],K=>match a.dec x,b.dec y with
  | some x,some y=>pre x y/\K (r (f x y))
  | _,_=>False
 | _,_=>False
def fn3 (a:Cd α) (b:Cd β) (c:Cd γ) (r:ρ->AV) (pre:α->β->γ->Prop) (f:α->β->γ->ρ):List AV->(AV->Prop)->Prop
 | [.one x,.one y,.one z],K=>match a.dec x,b.dec y,c.dec z with
  | some x,some y,some z=>pre x y z/\K (r (f x y z))
  | _,_,_=>False
 | _,_=>False
def o1 (c:Cd ρ) (x:ρ):AV:=.one (c.enc x)
def o2 (a:Cd α) (b:Cd β) (x:α×β):AV:=.tup [a.enc x.1,b.enc x.2]
def o3 (a:Cd α) (b:Cd β) (c:Cd γ) (x:α×β×γ):AV:=.tup [a.enc x.1,b.enc x.2.1,c.enc x.2.2]
variable {P:Program} {f:Nat} {fn:Func} {c:Code}
theorem Con_fn1 {a:Cd α} {r:ρ->AV} {pre:α->Prop} {F:α->ρ} (hf:P.funcs[f]? = some fn) (hname:(fn.name == "runtime.NumGoroutine")=false) (hb:fn.body=some c) (hn:1<=fn.ntmps)
  (h:∀ (g:G) (x:α) (K:AV->Prop),g.nt=fn.ntmps->pre x->K (r (F x))->AW P g c (retQ P fn.results.toList K) ⟨entryT 0 [.one (a.enc x)],[]⟩):Con P f (pureC (fn1 a r pre F)):=by
 refine Con_pure hf hname hb _ (fun avs K h=>?_) (fun g avs K hg hφ=>?_)
 ·unfold fn1 at h; split at h
  ·exact hn
  ·exact h.elim
 ·unfold fn1 at hφ; split at hφ
  ·rename_i x
   split at hφ
   ·rename_i y hy; rw [a.inv _ _ hy]; exact h g y K hg hφ.1 hφ.2
   ·exact hφ.elim
  ·exact hφ.elim
end
theorem CT.ok0 {P:Program}:CT.Ok P []:=fun x hx=>by simp at hx
theorem CT.cons {P:Program} {f:Nat} {C:CK1} {cs:CT} (h:Con P f C) (hs:cs.Ok P):CT.Ok P ((f,C)::cs):=fun x hx=>by
 simp only [List.mem_cons] at hx
 rcases hx with rfl | hx
 ·exact h
 ·exact hs x hx
theorem get_of {α:Type} (l:List α) (d:α) {i:Nat} (h:i<l.length):l[i]? = some (l.getD i d):=by
 rw [List.getD,List.getElem?_eq_getElem h]; rfl
theorem get_map {α β:Type} [Inhabited α] (f:α->β) (l:List α) {i:Nat} (h:i<l.length):(l.map f)[i]? = some (f (l.getD i default)):=by
 rw [List.getElem?_map,get_of l default h]; rfl
theorem wrap_i64 {n:Int} (h1:-9223372036854775808<=n) (h2:n<=9223372036854775807):IntKind.i64.wrap n=n:=IntWalk.i64_in n ⟨h1,h2⟩
theorem wrap_succ {i:Nat} (h:i < 9223372036854775807):IntKind.i64.wrap ((i:Int)+1)=((i+1:Nat):Int):=by
 rw [wrap_i64 (by omega) (by omega)]; rfl
def stepK (P:Program) (cs:CT) (all:List Oper) (o:Oper) (s:S) (K:S->Prop):Prop:=
 match o.guard with
 | none=>opK P cs o s K
 | some (j,want)=>match (all[j]?).bind (·.dst) with
  | some d=>match getT s.t d with
   | .one (.c (.d (.bool c)))=>gsel c want (opK P cs o (s.put (some d) (sc (.bool want))) K) (K ((s.put (some d) (sc (.bool (!want)))).put o.dst (.tup [])))
   | .tup []=>K (s.put o.dst (.tup []))
   | _=>False
  | none=>False
section
variable {P:Program} {cs:CT} {all:List Oper}
theorem opsK_step {o:Oper} {r:List Oper} {s:S} {k:S->Prop} (h:∀ K:S->Prop,(∀ s',opsK P cs all r s' k->K s')->stepK P cs all o s K):opsK P cs all (o::r) s k:=by
 have h:=h (fun s'=>opsK P cs all r s' k) (fun _ h=>h)
 unfold stepK at h
 simp only [opsK]
 cases hg:o.guard with
 | none=>rw [hg] at h; exact h
 | some q=>
  rw [hg] at h
  exact h
def takeK (P:Program) (all:List Oper) (i:Nat) (fz:Bool) (s:S) (K:S->Prop):Prop:=
 match all[i]? with
 | none=>False
 | some o=>gK all o s (fun s=>(fz=true->frozenRead s o)/\qK P o s fun v=>K (s.put o.dst v)) K
end
theorem rS_enc (b:List UInt8):rS.enc b=[.str b]:=rfl
theorem rI_enc (k:IntKind) (n:Int):(rI k).enc n=[.int k n]:=rfl
theorem cI_enc (k:IntKind) (n:Int):(cI k).enc n=.c (.d (.int k n)):=rfl
theorem cB_enc (b:Bool):cB.enc b=.c (.d (.bool b)):=rfl
theorem cS_enc (b:List UInt8):cS.enc b=.c (.d (.str b)):=rfl
theorem cL_enc {α:Type} (c:Rw α) (l:List α):(cL c).enc l=.c (.d (.li (l.map c.enc))):=rfl
theorem cA_enc {α:Type} (c:Rw α) (x:α):(cA c).enc x=.agg ((c.enc x).map T.d):=rfl
theorem cI_dec (k:IntKind) (n:Int):(cI k).dec (.c (.d (.int k n)))=some n:=by simp [cI,decI]
theorem cB_dec (b:Bool):cB.dec (.c (.d (.bool b)))=some b:=rfl
theorem cS_dec (b:List UInt8):cS.dec (.c (.d (.str b)))=some b:=rfl
theorem cL_dec {α:Type} (c:Rw α) (l:List (List D)):(cL c).dec (.c (.d (.li l)))=decL c l:=rfl
theorem cA_dec {α:Type} (c:Rw α) (ts:List T):(cA c).dec (.agg ts)=match tds ts with
  | some l=>c.dec l
  | none=>none:=rfl
theorem sc_d (x:D):sc x=.one (.c (.d x)):=rfl
attribute [push_cast] frzRoot List.append_eq decide_false decide_true Bool.false_eq_true convK eqDs eqD TD Option.isSome_some List.toList_toArray T.owned T.ment T.toD fitsSh setIn List.set_cons_zero List.set_cons_succ mkT inK addLast sliceK boundK buildK appendK baseK srcRows frzP getPl putPl frzM thr Pl.offs Option.map_some Option.map_none List.replicate_succ List.replicate_zero List.zipWith_cons_cons List.zipWith_nil_left List.zipIdx_cons List.zipIdx_nil List.cons_append List.nil_append List.append_nil mapT T.frz takeS Sh.isFr TK.isSS bne List.isPrefixOf List.cons_beq_cons Nm.loc.injEq Nm.gh.injEq Nm.out.injEq gsel ne_eq not_false_eq_true not_true_eq_false Nat.one_ne_zero List.length_map stepK opK ev cst cstT entryT getT setT S.put thenQ ite_true if_true if_false List.length_cons List.length_nil isStrAV lenTy lenK binK binD Bool.not_false Bool.not_true Bool.and_true Bool.and_false Bool.true_and Bool.false_and Bool.or_true Bool.or_false Bool.true_or Bool.false_or Bool.not_not List.getElem?_cons_zero List.getElem?_cons_succ true_and and_true forall_const Option.bind_some pickK indexAddrK fieldAddrK loadK false_and and_false false_implies true_implies implies_true decide_eq_true_eq decide_eq_false_iff_not Bool.not_eq_true' Bool.not_eq_false' beq_self_eq_true keepT S.cut S.drops S.one List.map_cons List.map_nil sc_d rS_enc rI_enc cI_enc cB_enc cS_enc cL_enc cA_enc cI_dec cB_dec cS_dec cL_dec cA_dec tds decL rS_dec CT.get pureC fn0 fn1 fn2 fn3 o1 o2 o3 frzVs frzV frzT frzTs AV.isFz AV1.isFz T.isFz AV.map AV1.map T.canon List.all_cons List.all_nil S.drop killT killM AV.kill AV1.kill T.kill badR delR getR setR S.fresh S.root takeK gK oneK qK frozenRead isEl extractK unK strAtK okv okvs List.drop_zero List.take_zero List.drop_succ_cons List.take_succ_cons List.take_nil List.drop_nil retQ resK frzRess frzRes resGets resGet boxK cellsAV T.sure allocK storeK storesK hasRoom room putK Pl.add atK refTs refT okvT okvTs nilCheckK buildSliceK partsK fillT overw chunk T.fz
end Go.Am
end

section
namespace Go.Am
def T.ren (a b:Nm):T->T
 | .pl p=>.pl ⟨if p.root=a then b else p.root,p.off,p.path⟩
 | t=>t
def T.self (a:Nm):T->Bool
 | .pl p=>decide (p.root=a)&&p.path.isEmpty
 | .rf _=>false
 | _=>true
def badP (r:Nm) (rf:Bool) (p:Pl):Bool:=decide (p.root=r)&&(rf||!p.path.isEmpty)
def resKp (j:Nat) (P:Program) (s:S) (rs:List ResultVar) (K:AV->List T->Prop):Prop:=
 match getR (frzRess s rs).m (.out j) with
 | some ⟨true,cells⟩=>resK P s rs (fun v=>K v cells)
 | _=>False
def retP (j:Nat) (P:Program) (rs:List ResultVar) (K:AV->List T->Prop):Exit->S->Prop
 | .normal,s=>resKp j P s rs K
 | .ret,s=>resKp j P s rs K
 | _,_=>False
def ptrC (j:Nat) (φ:List AV->List T->(AV->List T->Prop)->Prop):CK1:=fun s ops k=>
 match ops with
 | []=>False
 | o::os=>
  let s1:=frzVs s (os.map (ev s))
  match ev s1 o with
  | .one (.c (.pl ⟨r,0,[]⟩))=>match getR s1.m r with
   | some ⟨true,cells⟩=>(Nm.out j).tyd=r.tyd/\cells.all (T.self r)=true/\(os.map (ev s1)).all AV.isFz=true /\
     φ (os.map fun x=>(ev s1 x).map T.canon) (cells.map (T.ren r (.out j))) (fun res cells'=>cells'.length=cells.length/\cells'.all (T.self (.out j))=true /\
      k ⟨killT (badP r) s1.t,(r,⟨true,cells'.map (T.ren (.out j) r)⟩)::killM (badR r) (delR s1.m r)⟩ res)
   | _=>False
  | _=>False
section
variable {w w':World} {H H':FH} {γ γ':Gam} {m m':Mm}
theorem RootR_ren {n n':Nm} {cells:List T} {f:Fp} {b:Nat} (h:RootR w H γ m n ⟨true,cells⟩ f) (hn:n'.tyd=n.tyd) (hs:cells.all (T.self n)=true) (hγ:γ n=.blk b) (hm:getR m n=some ⟨true,cells⟩)
  (hγ':γ' n'=.blk b) (hm':∃ cells',getR m' n'=some ⟨true,cells'⟩/\cells'.length=cells.length):RootR w H γ' m' n' ⟨true,cells.map (T.ren n n')⟩ f:=by
 unfold RootR at h ⊢
 rw [if_pos rfl] at h ⊢
 obtain ⟨b0,cs,ty,fz,g,h1,h2,h3,h4,h5,h6⟩:=h
 rw [hγ] at h1
 obtain rfl:b=b0:=by simpa using h1
 refine ⟨b,cs,ty,fz,g,hγ',h2,⟨h3.1,fun t ht=>h3.2 t (by rw [<- hn]; exact ht)⟩,by simpa using h4,?_,h6⟩
 unfold Ts at h5 ⊢
 rw [List.length_map]
 obtain ⟨cells',hm1,hm2⟩:=hm'
 have key:∀ (ss:List Unit) (xs:List T) (f:Fp) (vs:List Value),xs.all (T.self n)=true->Cs (fun _ t=>TR w H γ m t) ss xs f vs->Cs (fun _ t=>TR w H γ' m' t) ss (xs.map (T.ren n n')) f vs:=by
  intro ss xs
  induction xs generalizing ss with
  | nil=>intro f vs _ h; cases ss <;> exact h
  | cons x xs ih=>
   intro f vs hx h
   simp only [List.all_cons,Bool.and_eq_true] at hx
   cases ss with
   | nil=>exact h.elim
   | cons u ss=>
    obtain ⟨v,r,f1,f2,hv,hf,k1,k2⟩:=h
    refine ⟨v,r,f1,f2,hv,hf,?_,ih ss f2 r hx.2 k2⟩
    cases x with
    | pl p=>
     obtain ⟨root,off,path⟩:=p
     have hp:=hx.1
     simp only [T.self,Bool.and_eq_true,decide_eq_true_eq,List.isEmpty_iff] at hp
     obtain ⟨rfl,rfl⟩:=hp
     obtain ⟨z,hok,a,ha,e⟩:=k1
     simp only [T.ren,if_true]
     refine ⟨z,?_,a,?_,e⟩
     ·rw [okPl_iff] at hok ⊢
      obtain ⟨r0,q1,q2⟩:=hok
      rw [hm] at q1
      obtain rfl:=Option.some.inj q1
      exact ⟨_,hm1,by
       have q2':off<cells.length:=q2
       show off<cells'.length
       omega⟩
     ·simp only [plA] at ha ⊢
      rw [hγ] at ha
      rw [hγ']; exact ha
    | rf p=>simp [T.self] at hx
    | d x=>exact k1
    | nil=>exact k1
    | ow sub l=>exact k1
    | mp l=>exact k1
    | el row o=>exact k1
    | any=>exact k1
 exact key _ _ _ _ hs h5
theorem tot_delR_eq {F:Nm->Fp} {m:Mm} {n:Nm} {r:Root} (hk:getR m n=some r) (c:Nat):tot F (delR m n) c+F n c=tot F m c:=by
 induction m with
 | nil=>simp [getR] at hk
 | cons x m ih=>
  obtain ⟨k,y⟩:=x
  simp only [getR,delR] at hk ⊢
  by_cases hkn:k=n
  ·subst hkn; rw [if_pos rfl,tot_cons]; dsimp only; omega
  ·rw [if_neg hkn] at hk
   rw [if_neg hkn,tot_cons,tot_cons]
   have:=ih hk
   dsimp only at this ⊢
   omega
theorem getR_del {m:Mm} {n:Nm} (hk:(m.map (·.1)).Nodup):getR (killM (badR n) (delR m n)) n=none:=by
 rw [getR_none,keys_killM]
 exact nmem_delR hk
end
section
variable {P:Program}
theorem resK_ok' {g:G} {s:S} {a:Act} {w:World} {H:FH} {γ:Gam} {F:Nm->Fp} (h:RX g s a w H γ F) (hex:g.ex=none) {fn:Func} {k:AV->Prop} (hk:resK P s fn.results.toList k) :
  ∃ y v H' F',(results fn a.tmps).run P w=.ok y w/\RX g (frzRess s fn.results.toList) a w H' γ F'/\AR w H' γ (frzRess s fn.results.toList).m v y/\v.isFz=true/\k (v.map T.canon):=by
 unfold resK at hk
 obtain ⟨H1,F1,h1⟩:=RX_frzRess fn.results.toList s H F h
 obtain ⟨ys,xs,e1,e2,e3,e4⟩:=resGets_ok h1 hex hk
 have hrun:(results fn a.tmps).run P w=.ok (if h:ys.toArray.size=1 then ys.toArray[0] else .tuple ys.toArray) w:=by
  rw [results_eq,Array.mapM_eq_mapM_toList]
  simp [e1]
 refine ⟨_,(match xs with | [x]=>.one x | xs=>.tup xs),H1,F1,hrun,h1,?_⟩
 match xs,ys,e2,e3 with
 | [],[],e2,e3=>exact ⟨⟨#[],by simp,trivial⟩,e3.1,e3.2⟩
 | [x],[y],e2,e3=>exact ⟨e2.1,e3.1,e3.2⟩
 | x1::x2::xs,y1::y2::ys,e2,e3=>exact ⟨⟨(y1::y2::ys).toArray,by simp,by simpa using e2⟩,e3.1,e3.2⟩
theorem Con_ptr {j:Nat} {f:Nat} {fn:Func} {c:Code} (hf:P.funcs[f]? = some fn) (hname:(fn.name == "runtime.NumGoroutine")=false) (hb:fn.body=some c) (φ:List AV->List T->(AV->List T->Prop)->Prop)
  (hlen:∀ avs cells K,φ avs cells K->avs.length+1<=fn.ntmps)
  (hbody:∀ (g:G) avs cells K,g.nt=fn.ntmps->φ avs cells K->AW P g c (retP j P fn.results.toList K) ⟨entryT 0 (.one (.c (.pl ⟨.out j,0,[]⟩))::avs),[(.out j,⟨true,cells⟩)]⟩):Con P f (ptrC j φ):=by
 refine ⟨fun args w=>?_,?_⟩
 ·have h1:fn.name ≠ "runtime.NumGoroutine" := by simpa using hname
  simp [callFunc,hf,h1,hb]
 ·intro g s a w H γ F ops k hX hops hK
  cases ops with
  | nil=>exact hK.elim
  | cons o os=>
  unfold ptrC at hK
  dsimp only at hK
  obtain ⟨H1,F1,h1⟩:=RX_frzVs (os.map (ev s)) s H F hX
  generalize frzVs s (os.map (ev s))=s1 at hK h1
  have hops':okOp o=true/\os.all okOp=true:=by simpa using hops
  split at hK
  rotate_left
  ·exact hK.elim
  rename_i r heo
  split at hK
  rotate_left
  ·exact hK.elim
  rename_i cells hroot
  obtain ⟨htyd,hself,hfz,hφ⟩:=hK
  have hevo:=ev_ok h1 hops'.1
  rw [heo] at hevo
  obtain ⟨_,hokp,ad,had,hval⟩:=hevo
  have hR:=h1.mem.roots _ (getR_mem hroot)
  obtain ⟨b,hγr⟩:∃ b,γ r=.blk b:=by
   have hR2:=hR
   unfold RootR at hR2
   rw [if_pos rfl] at hR2
   obtain ⟨b,_,_,_,_,e,_⟩:=hR2
   exact ⟨b,e⟩
  have had':ad=⟨b,0,none⟩:=by
   simp only [plA,hγr,Option.some.injEq] at had; exact had.symm
  subst had'
  have hoff:0<cells.length:=by
   rw [okPl_iff] at hokp
   obtain ⟨r0,q1,q2⟩:=hokp
   dsimp only at q1
   rw [hroot] at q1
   obtain rfl:=Option.some.inj q1
   exact q2
  have hle:=hlen _ _ _ hφ
  rw [List.length_map] at hle
  let γc:Gam:=fun n=>if n=.out j then .blk b else γ n
  let mc:Mm:=[(.out j,⟨true,cells.map (T.ren r (.out j))⟩)]
  let g1:G:=⟨fn.ntmps,w,H1,F1 r,fun i=>if i=j then some b else none,none,[]⟩
  have hγc:γc (.out j)=.blk b:=by simp [γc]
  have hRc:RootR w H1 γc mc (.out j) ⟨true,cells.map (T.ren r (.out j))⟩ (F1 r):=
   RootR_ren hR htyd hself hγr hroot hγc ⟨cells.map (T.ren r (.out j)),by simp [mc,getR],by simp⟩
  have hge:∀ c,F1 r c<=tot F1 s1.m c:=fun c=>tot_ge (F:=F1) (getR_mem hroot) c
  let Fc:Nm->Fp:=fun _=>F1 r
  have htc:∀ c,tot Fc mc c=F1 r c:=fun c=>(Nat.add_zero (F1 r c))
  have hmc:Mem w H1 γc mc Fc:=by
   refine ⟨h1.mem.agree,fun x hx=>?_,by simp [mc],fun c=>by rw [htc]; exact Nat.le_trans (hge c) (h1.mem.le1 c),fun c hc=>by rw [htc] at hc; exact h1.mem.lt c (by have:=hge c; omega),fun c hc=>by rw [htc] at hc; exact h1.mem.nofz c (by have:=hge c; omega)⟩
   simp only [mc,List.mem_singleton] at hx
   subst hx
   exact hRc
  refine calls_of_wp hf hb (Code.wp_mono (fun e a' w' hl=>?_) (hbody g1 _ _ _ rfl hφ _ w ⟨H1,γc,Fc,?_⟩))
  ·obtain ⟨s',hq,H',γ',F',hX'⟩:=hl
   have fin:resKp j P s' fn.results.toList (fun res cells'=>cells'.length=cells.length/\cells'.all (T.self (.out j))=true /\
      k ⟨killT (badP r) s1.t,(r,⟨true,cells'.map (T.ren (.out j) r)⟩)::killM (badR r) (delR s1.m r)⟩ res) ->
     a'.defers=[]/\∃ v,(results fn a'.tmps).run P w'=.ok v w'/\∃ rr s'' av H'' γ'' F'',Ending.returned v=.returned rr/\k s'' av/\AR w' H'' γ'' s''.m av rr/\RX g s'' a w' H'' γ'' F'':=by
    intro hq
    unfold resKp at hq
    split at hq
    rotate_left
    ·exact hq.elim
    rename_i cells' hout
    obtain ⟨y,v,H2,F2,e1,e2,e3,e4,hl2,hs2,hk⟩:=resK_ok' hX' rfl hq
    generalize frzRess s' fn.results.toList=s2 at hout e2 e3
    have hfr:=e2.fr
    dsimp only [g1] at hfr
    have hd:=RX_drop h1 r
    have hmdm:(s1.drop r).m=killM (badR r) (delR s1.m r):=rfl
    have hdm:=hd.mem
    rw [hmdm] at hdm
    generalize hmd0:killM (badR r) (delR s1.m r)=md at hdm hk
    have tdel:∀ c,tot F1 md c+F1 r c=tot F1 s1.m c:=fun c=>by
     rw [<- hmd0,tot_killM]; exact tot_delR_eq hroot c
    have hsame:∀ c,tot F1 md c≠0->w'.heap[c]? = w.heap[c]? := fun c hc=>
     hfr.block c (h1.mem.lt c (by have:=tdel c; omega)) (by have:=tdel c; have:=h1.mem.le1 c; omega)
    have hnewc:∀ c,c<w.heap.size->F1 r c=0->H1 c=H2 c:=by
     intro c hc h0
     funext o
     cases hh:H1 c o with
     | some y=>rw [hfr.hold c o y hh]
     | none=>
      cases hh2:H2 c o with
      | none=>rfl
      | some y=>
       rcases hfr.hnew c o (by rw [hh2]; simp) hh with h' | h'
       ·exact absurd h0 h'
       ·omega
    have hKp:=Keeps_grow (w':=w') hdm hsame
    have hmd:Mem w' H2 γ md F1:=by
     refine ⟨e2.mem.agree,fun x hx=>RootR_keeps hKp hfr.hold rfl (fun c hc=>hsame c (by have:=tot_ge (F:=F1) hx c; omega)) (hdm.roots x hx),hdm.keys,hdm.le1,fun c hc=>by have:=hdm.lt c hc; have:=hfr.size; omega,fun c hc o=>?_⟩
     rw [<- hnewc c (hdm.lt c hc) (by have:=tdel c; have:=h1.mem.le1 c; omega)]; exact hdm.nofz c hc o
    have hRout:=e2.mem.roots _ (getR_mem hout)
    have hγ':γ' (.out j)=.blk b:=e2.df.2.1 j b (by simp [g1])
    have hnone:getR md r=none:=by rw [<- hmd0]; exact getR_del h1.mem.keys
    have hupd:upd γ r (.blk b)=γ:=by
     funext n
     by_cases hn:n=r
     ·subst hn; rw [upd_same,hγr]
     ·rw [upd_ne hn]
    have hRr:RootR w' H2 (upd γ r (.blk b)) ((r,⟨true,cells'.map (T.ren (.out j) r)⟩)::md) r ⟨true,cells'.map (T.ren (.out j) r)⟩ (F2 (.out j)):=
     RootR_ren hRout htyd.symm hs2 hγ' hout upd_same ⟨cells'.map (T.ren (.out j) r),by simp only [getR,if_true],by simp⟩
    have hf1:∀ c,F2 (.out j) c<=tot F2 s2.m c:=fun c=>tot_ge (F:=F2) (getR_mem hout) c
    have hf2:∀ c,F2 (.out j) c≠0->F1 r c≠0\/w.heap.size<=c:=fun c hc=>hfr.tt c (by have:=hf1 c; omega)
    have hmd0':∀ c,F2 (.out j) c≠0->tot F1 md c=0:=fun c hc=>by
     rcases hf2 c hc with h' | h'
     ·have:=tdel c; have:=h1.mem.le1 c; omega
     ·rcases Nat.eq_zero_or_pos (tot F1 md c) with h0 | h0
      ·exact h0
      ·have:=hdm.lt c (by omega); omega
    obtain ⟨hM,htot⟩:=Mem_add hmd (n:=r) (rc:=.blk b) (r:=⟨true,cells'.map (T.ren (.out j) r)⟩) (f:=F2 (.out j)) hnone hRr (fun c=>by
      by_cases hc:F2 (.out j) c=0
      ·have:=hdm.le1 c; omega
      ·have:=hmd0' c hc; have:=e2.mem.le1 c; have:=hf1 c; omega)
     (fun c hc=>⟨e2.mem.lt c (by have:=hf1 c; omega),e2.mem.nofz c (by have:=hf1 c; omega)⟩)
    rw [hupd] at hM
    have hFr:Fr w H1 (tot F1 s1.m) w' H2 (tot (upd F1 r (F2 (.out j))) ((r,⟨true,cells'.map (T.ren (.out j) r)⟩)::md)):=by
     refine ⟨hfr.size,hfr.os,hfr.tape,hfr.output,fun c hc h0=>hfr.block c hc (by have:=hge c; omega),hfr.hold,fun c o h2 h3=>?_,fun c hc=>?_,hfr.nz⟩
     ·rcases hfr.hnew c o h2 h3 with h' | h'
      ·exact .inl (by have:=hge c; omega)
      ·exact .inr h'
     ·rw [htot] at hc
      by_cases h0:F2 (.out j) c=0
      ·exact .inl (by have:=tdel c; omega)
      ·rcases hf2 c h0 with h' | h'
       ·exact .inl (by have:=hge c; omega)
       ·exact .inr h'
    have hKB:KeepsB (badP r) w γ s1.m w' γ ((r,⟨true,cells'.map (T.ren (.out j) r)⟩)::md):=by
     have hKa:=Keeps_add (w:=w') (γ:=γ) (rc:=.blk b) (r:=⟨true,cells'.map (T.ren (.out j) r)⟩) hnone
     rw [hupd] at hKa
     have hKd:KeepsB (badR r) w γ s1.m w γ md:=by rw [<- hmd0]; exact KeepsB_del
     constructor
     ·intro q hbq hq
      by_cases hqr:q.root=r
      ·obtain ⟨qr,qo,qp⟩:=q
       dsimp only at hqr
       subst hqr
       simp only [badP,decide_true,Bool.true_and,Bool.false_or,Bool.not_eq_false',List.isEmpty_iff] at hbq
       subst hbq
       refine ⟨?_,by simp only [plA]⟩
       rw [okPl_iff] at hq ⊢
       obtain ⟨r0,q1,q2⟩:=hq
       dsimp only at q1 q2
       rw [hroot] at q1
       obtain rfl:=Option.some.inj q1
       refine ⟨⟨true,cells'.map (T.ren (.out j) qr)⟩,by simp only [getR,if_true],?_⟩
       have q2':qo<cells.length:=q2
       show qo < (cells'.map (T.ren (.out j) qr)).length
       simp; omega
      ·obtain ⟨k1,k2⟩:=hKd.pl q (by simp [badR,hqr]) hq
       obtain ⟨k3,k4⟩:=hKp.pl q k1
       obtain ⟨k5,k6⟩:=hKa.pl q k3
       exact ⟨k5,k6.trans (k4.trans k2)⟩
     ·intro q hbq hq
      have hqr:q.root≠r:=by
       intro e
       simp [badP,e] at hbq
      obtain ⟨k1,k2⟩:=hKd.rf q (by simp [badR,hqr]) hq
      obtain ⟨k3,k4⟩:=hKp.rf q k1
      obtain ⟨k5,k6⟩:=hKa.rf q k3
      exact ⟨k5,k6.trans (k4.trans k2)⟩
    refine ⟨e2.df.1,y,e1,y,_,v.map T.canon,H2,γ,_,rfl,hk,AR_map TR_canon (AR_fz (fun _ _ _ h=>h) e4 e3),RX_step h1 hM hFr (fun i=>?_) (fun _=>rfl)⟩
    rw [getT_killT]
    exact AR_kill hKB hfr.hold (h1.t i)
   cases e with
   | normal=>exact fin hq
   | ret=>exact fin hq
   | _=>exact hq.elim
  ·refine ⟨hmc,⟨Nat.le_refl _,rfl,rfl,rfl,fun _ _ _=>rfl,fun _ _ _ h=>h,fun b o h2 h3=>absurd h3 h2,fun c hc=>.inl (by rw [htc] at hc; exact hc),nz_refl⟩,?_,⟨rfl,fun i b' e=>?_,RX_globs h1⟩,fun i=>?_⟩
   ·simp [g1]; omega
   ·simp only [g1] at e
    split at e
    ·rename_i hj; subst hj; simp only [Option.some.injEq] at e; subst e; exact hγc
    ·simp at e
   ·have hget:∀ x,(o::os)[i]? = some x->(((o::os).map a.eval).toArray++Array.replicate (fn.ntmps - ((o::os).map a.eval).toArray.size) undef).getD i undef=a.eval x:=by
     intro x hx
     rw [Array.getD_eq_getD_getElem?,Array.getElem?_append_left (by simp; have:=lt_of_get hx; simp at this; omega)]
     have e:((o::os).map a.eval)[i]? = some (a.eval x):=by rw [List.getElem?_map,hx]; rfl
     rw [List.getElem?_toArray,e]; rfl
    cases i with
    | zero=>
     rw [G.tv_none rfl,hget o rfl,hval]
     simp only [entryT,getT,if_true]
     refine ⟨fun _=>rfl,?_,⟨b,0,none⟩,?_,rfl⟩
     ·rw [okPl_iff]
      refine ⟨⟨true,cells.map (T.ren r (.out j))⟩,by simp [mc,getR],?_⟩
      show 0 < (cells.map (T.ren r (.out j))).length
      simpa using hoff
     ·simp only [plA,hγc]
    | succ i=>
     have hent:getT (entryT 0 (.one (.c (.pl ⟨.out j,0,[]⟩))::os.map fun x=>(ev s1 x).map T.canon)) (i+1)=((os.map fun x=>(ev s1 x).map T.canon)[i]?).getD .any:=by
      simp only [entryT,getT]
      rw [if_neg (by omega)]
      rw [getT_entryT]
      simp
     show AR w H1 γc mc (getT (entryT 0 (.one (.c (.pl ⟨.out j,0,[]⟩))::os.map fun x=>(ev s1 x).map T.canon)) (i+1)) _
     rw [hent,List.getElem?_map]
     cases hi:os[i]? with
     | none=>simp only [Option.map_none,Option.getD_none]; trivial
     | some x=>
      have hx:=ev_ok h1 (List.all_eq_true.1 hops'.2 x (List.mem_of_getElem? hi))
      simp only [Option.map_some,Option.getD_some]
      have hz:(ev s1 x).isFz=true:=List.all_eq_true.1 hfz (ev s1 x) (List.mem_map_of_mem (List.mem_of_getElem? hi))
      rw [G.tv_none rfl,hget x (by simpa using hi)]
      exact AR_map TR_canon (AR_fz (fun _ _ _ h=>h) hz hx)
end
end Go.Am
end

section
namespace Go.Am
section
variable {w:World} {H:FH} {γ:Gam} {m:Mm} {F:Nm->Fp}
theorem Cs_setsame {α β:Type} {R:α->β->Fp->Value->Prop} {x':β}:∀ {ss:List α} {xs:List β} {f:Fp} {vs:List Value} {k:Nat} {x:β},xs[k]? = some x->(∀ s g v,R s x g v->R s x' g v)->Cs R ss xs f vs->Cs R ss (xs.set k x') f vs
 | [],[],_,_,_,_,hx,_,_=>by simp at hx
 | s::ss,y::xs,f,vs,0,x,hx,hR,h=>by
  obtain ⟨v,r,f1,f2,hv,hf,h1,h2⟩:=h
  simp only [List.getElem?_cons_zero,Option.some.injEq] at hx
  subst hx
  exact ⟨v,r,f1,f2,hv,hf,hR _ _ _ h1,h2⟩
 | s::ss,y::xs,f,vs,k+1,x,hx,hR,h=>by
  obtain ⟨v,r,f1,f2,hv,hf,h1,h2⟩:=h
  simp only [List.getElem?_cons_succ] at hx
  exact ⟨v,r,f1,f2,hv,hf,h1,Cs_setsame hx hR h2⟩
 | [],_::_,_,_,_,_,_,_,h=>h.elim
 | _::_,[],_,_,_,_,_,_,h=>h.elim
theorem Keeps_nilow {n:Nm} {cells:List T} {bl:Bool} (hr:getR m n=some ⟨bl,cells⟩) {off:Nat} (hc:cells[off]? = some .nil) (sub:List Sh):Keeps w γ m w γ (setR m n ⟨bl,cells.set off (.ow sub [])⟩):=by
 constructor
 ·intro q hq
  refine ⟨?_,rfl⟩
  rw [okPl_iff] at hq ⊢
  obtain ⟨r,h1,h2⟩:=hq
  rw [getR_setR hr]
  by_cases hn:n=q.root
  ·subst hn
   rw [if_pos rfl]
   rw [hr] at h1
   obtain rfl:=Option.some.inj h1
   refine ⟨_,rfl,?_⟩
   obtain ⟨qr,qo,qp⟩:=q
   cases qp with
   | nil=>
    have h2':qo<cells.length:=h2
    show qo < (cells.set off (.ow sub [])).length
    simpa using h2'
   | cons st u=>
    dsimp only [okCells] at h2 ⊢
    by_cases ho:off=qo
    ·subst ho; rw [hc] at h2; exact h2.elim
    ·rw [List.getElem?_set_ne ho]; exact h2
  ·rw [if_neg hn]; exact ⟨r,h1,h2⟩
 ·intro q hq
  refine ⟨?_,rfl⟩
  rw [okRf_iff] at hq ⊢
  obtain ⟨r,h1,h2⟩:=hq
  rw [getR_setR hr]
  by_cases hn:n=q.root
  ·subst hn
   rw [if_pos rfl]
   rw [hr] at h1
   obtain rfl:=Option.some.inj h1
   refine ⟨_,rfl,?_⟩
   obtain ⟨qr,qo,qp⟩:=q
   dsimp only [okRfCells] at h2 ⊢
   by_cases ho:off=qo
   ·subst ho; rw [hc] at h2; cases qp <;> exact h2.elim
   ·rw [List.getElem?_set_ne ho]; exact h2
  ·rw [if_neg hn]; exact ⟨r,h1,h2⟩
end
def S.ownR (n:Nm) (off:Nat) (sub:List Sh) (s:S):S:=
 match getR s.m n with
 | some ⟨true,cells⟩=>match cells[off]? with
  | some .nil=>⟨s.t,setR s.m n ⟨true,cells.set off (.ow sub [])⟩⟩
  | _=>s
 | _=>s
theorem RX_ownR {g:G} {s:S} {a:Act} {w:World} {H:FH} {γ:Gam} {F:Nm->Fp} (h:RX g s a w H γ F) (n:Nm) (off:Nat) (sub:List Sh):RX g (s.ownR n off sub) a w H γ F:=by
 unfold S.ownR
 split
 ·rename_i cells hr
  split
  ·rename_i hc
   have hK:=Keeps_nilow (w:=w) (γ:=γ) hr hc sub
   have hm:=h.mem
   refine ⟨⟨hm.agree,fun x hx=>?_,?_,fun b=>?_,fun b hb=>?_,fun b hb=>?_⟩,⟨h.fr.size,h.fr.os,h.fr.tape,h.fr.output,h.fr.block,h.fr.hold,h.fr.hnew,fun b hb=>?_,h.fr.nz⟩,h.nt,h.df,fun i=>AR_keeps hK (fun _ _ _ h=>h) (h.t i)⟩
   ·rcases mem_setR hm.keys hx with ⟨_,hy⟩ | rfl
    ·exact RootR_keeps hK (fun _ _ _ h=>h) rfl (fun _ _=>rfl) (hm.roots x hy)
    ·have h1:=RootR_keeps hK (fun _ _ _ h=>h) rfl (fun _ _=>rfl) (hm.roots _ (getR_mem hr))
     unfold RootR at h1 ⊢
     dsimp only at h1 ⊢
     rw [if_pos rfl] at h1 ⊢
     obtain ⟨b,cs,ty,fz,g',k1,k2,k3,k4,k5,k6⟩:=h1
     refine ⟨b,cs,ty,fz,g',k1,k2,k3,by simpa using k4,?_,k6⟩
     unfold Ts at k5 ⊢
     rw [List.length_set]
     refine Cs_setsame hc (fun _ f v hv=>?_) k5
     obtain ⟨z,rfl⟩:=hv
     exact ⟨1,OD_ow.2 (.inl ⟨rfl,rfl,z⟩)⟩
   ·rw [keys_setR]; exact hm.keys
   ·rw [tot_setR]; exact hm.le1 b
   ·rw [tot_setR] at hb; exact hm.lt b hb
   ·rw [tot_setR] at hb; exact hm.nofz b hb
   ·rw [tot_setR] at hb; exact h.fr.tt b hb
  ·exact h
 ·exact h
def S.mvR (n:Nm) (s:S):S:=
 match getR s.m n with
 | some r=>⟨s.t,(n,r)::delR s.m n⟩
 | none=>s
theorem getR_mv {m:Mm} {n k:Nm} {r:Root} (h:getR m n=some r):getR ((n,r)::delR m n) k=getR m k:=by
 by_cases hk:n=k
 ·subst hk; rw [h]; simp [getR]
 ·simp only [getR,if_neg hk]; exact getR_delR (Ne.symm hk)
theorem RX_mvR {g:G} {s:S} {a:Act} {w:World} {H:FH} {γ:Gam} {F:Nm->Fp} (h:RX g s a w H γ F) (n:Nm):RX g (s.mvR n) a w H γ F:=by
 unfold S.mvR
 split
 ·rename_i r hr
  have hget:∀ k,getR ((n,r)::delR s.m n) k=getR s.m k:=fun k=>getR_mv hr
  have hK:Keeps w γ s.m w γ ((n,r)::delR s.m n):=⟨fun q hq=>⟨by rw [okPl_iff] at hq ⊢; rw [hget]; exact hq,rfl⟩,fun q hq=>⟨by rw [okRf_iff] at hq ⊢; rw [hget]; exact hq,rfl⟩⟩
  have htot:∀ b,tot F ((n,r)::delR s.m n) b=tot F s.m b:=fun b=>by
   have:=tot_delR_eq (F:=F) hr b
   show F n b+tot F (delR s.m n) b=_
   omega
  have hm:=h.mem
  refine ⟨⟨hm.agree,fun x hx=>?_,?_,fun b=>?_,fun b hb=>?_,fun b hb=>?_⟩,⟨h.fr.size,h.fr.os,h.fr.tape,h.fr.output,h.fr.block,h.fr.hold,h.fr.hnew,fun b hb=>?_,h.fr.nz⟩,h.nt,h.df,fun i=>AR_keeps hK (fun _ _ _ h=>h) (h.t i)⟩
  ·refine RootR_keeps hK (fun _ _ _ h=>h) rfl (fun _ _=>rfl) (hm.roots x ?_)
   rcases List.mem_cons.1 hx with rfl | hx
   ·exact getR_mem hr
   ·exact mem_delR hx
  ·rw [List.map_cons,List.nodup_cons]
   exact ⟨nmem_delR hm.keys,nodup_delR hm.keys⟩
  ·rw [htot]; exact hm.le1 b
  ·rw [htot] at hb; exact hm.lt b hb
  ·rw [htot] at hb; exact hm.nofz b hb
  ·rw [htot] at hb; exact h.fr.tt b hb
 ·exact h
def own1 (t:Nat) (n':Nm) (sub:List Sh) (s:S):S:=
 match getT s.t t with
 | .one (.c .nil)=>match getR (s.fresh n').m n',n'.isOut with
  | none,false=>⟨setT (s.fresh n').t t (.one (.c (.rf ⟨n',0,[]⟩))),(n',⟨false,[.ow sub []]⟩)::(s.fresh n').m⟩
  | _,_=>s
 | .one (.c (.rf ⟨n,0,[]⟩))=>match getR s.m n with
  | some ⟨false,[.ow sub' l]⟩=>match n'.isOut with
   | false=>⟨setT ((s.drop n).fresh n').t t (.one (.c (.rf ⟨n',0,[]⟩))),(n',⟨false,[.ow sub' l]⟩)::((s.drop n).fresh n').m⟩
   | _=>s
  | _=>s
 | _=>s
def S.own:List (Nat×Nm×List Sh)->S->S
 | [],s=>s
 | (t,n,sub)::r,s=>S.own r (if 2000000<=t then s.mvR n else if 1000000<=t then s.ownR n (t - 1000000) sub else own1 t n sub s)
section
variable {g:G} {s:S} {a:Act} {w:World} {H:FH} {γ:Gam} {F:Nm->Fp}
theorem RX_setT (h:RX g s a w H γ F) {t:Nat} {v:AV} (hv:AR w H γ s.m v (g.tv a t)):RX g ⟨setT s.t t v,s.m⟩ a w H γ F:=by
 refine ⟨h.mem,h.fr,h.nt,h.df,fun i=>?_⟩
 show AR w H γ s.m (getT (setT s.t t v) i) _
 rw [getT_setT]
 split
 ·rename_i e; subst e; exact hv
 ·exact h.t i
theorem rf_new {m:Mm} {n:Nm} {r:Root} {sub:List Sh} {l:List (List D)} {v:Value} (hr:r=⟨false,[.ow sub l]⟩) (hγ:γ n=.gh v):AR w H γ ((n,r)::m) (.one (.c (.rf ⟨n,0,[]⟩))) v:=by
 subst hr
 refine ⟨fun _=>rfl,?_,?_⟩
 ·rw [okRf_iff]
  refine ⟨⟨false,[.ow sub l]⟩,by simp only [getR,if_true],?_⟩
  show okRfCells [T.ow sub l] 0 []
  simp [okRfCells]
 ·show rootCell w (γ n) 0=some v
  rw [hγ]; rfl
theorem RX_own1 (h:RX g s a w H γ F) (t:Nat) (n':Nm) (sub:List Sh):∃ γ' F',RX g (own1 t n' sub s) a w H γ' F':=by
 unfold own1
 split
 ·rename_i hnil
  split
  ·rename_i hnone hno
   have h1:=RX_fresh h n'
   have hv:=h.t t
   rw [hnil] at hv
   obtain ⟨_,hv⟩:=hv
   obtain ⟨γ',F',h2,hγ⟩:=RX_ghost h1 hno hnone (v:=.slice none 0 0) (t:=.ow sub []) (f:=fun _=>0) ⟨1,OD_ow.2 (.inl ⟨rfl,rfl,fun _=>rfl⟩)⟩ (fun b=>by have:=h1.mem.le1 b; omega) (fun b hb=>absurd rfl hb) (fun b hb=>absurd rfl hb)
   exact ⟨γ',F',RX_setT h2 (by rw [hv]; exact rf_new rfl hγ)⟩
  ·exact ⟨γ,F,h⟩
 ·rename_i n hrf
  ·split
   ·rename_i sub' l hroot
    split
    ·rename_i hno
     obtain ⟨v,f,hγn,hTR,hd,htot⟩:=RX_takeG h hroot
     have h1:=RX_fresh hd n'
     have hle:∀ b,tot F ((s.drop n).fresh n').m b<=tot F (s.drop n).m b:=by
      intro b
      unfold S.fresh
      split
      ·exact Nat.le_refl _
      ·show tot F (killM _ _) b<=_
       rw [tot_killM]; exact tot_delR
     have hv:=h.t t
     rw [hrf] at hv
     obtain ⟨_,_,hv⟩:=hv
     have hv':v=g.tv a t:=by
      simp only [plV,hγn,rootCell,if_true,Option.some.injEq] at hv
      exact hv
     obtain ⟨γ',F',h2,hγ⟩:=RX_ghost h1 hno (getR_fresh hd n') (v:=v) (t:=.ow sub' l) (f:=f) (hTR _) (fun b=>by have:=hle b; have:=htot b; have:=h.mem.le1 b; omega)
      (fun b hb=>⟨h.mem.lt b (by have:=htot b; omega),h.mem.nofz b (by have:=htot b; omega)⟩) (fun b hb=>h.fr.tt b (by have:=htot b; omega))
     exact ⟨γ',F',RX_setT h2 (by rw [<- hv']; exact rf_new rfl hγ)⟩
    ·exact ⟨γ,F,h⟩
   ·exact ⟨γ,F,h⟩
 ·exact ⟨γ,F,h⟩
theorem R_own:∀ (ns:List (Nat×Nm×List Sh)) {s:S},R g s a w->R g (s.own ns) a w
 | [],_,h=>h
 | (t,n,sub)::r,s,h=>by
  obtain ⟨H,γ,F,h⟩:=h
  simp only [S.own]
  split
  ·exact R_own r ⟨H,γ,F,RX_mvR h n⟩
  split
  ·exact R_own r ⟨H,γ,F,RX_ownR h n _ sub⟩
  ·obtain ⟨γ',F',h'⟩:=RX_own1 h t n sub
   exact R_own r ⟨H,γ',F',h'⟩
def S.cutO (ns:List (Nat×Nm×List Sh)) (ks:List Nat) (ds:List Nm) (s:S):S:=(s.own ns).cut ks ds
theorem R_cutO {ns:List (Nat×Nm×List Sh)} {ks:List Nat} {ds:List Nm} (h:R g s a w):R g (s.cutO ns ks ds) a w:=R_cut ks ds (R_own ns h)
variable {P:Program} {Q:Exit->S->Prop}
theorem AW_cutO {c:Code} (ns:List (Nat×Nm×List Sh)) (ks:List Nat) (ds:List Nm) (h:AW P g c Q (s.cutO ns ks ds)):AW P g c Q s:=fun a w hR=>h a w (R_cutO hR)
theorem AW_joinO {x y:Code} {α:Type} (ns:List (Nat×Nm×List Sh)) (ks:List Nat) (ds:List Nm) (st:α->S) (inv:α->Prop) (h1:AW P g x (thenQ (fun s=>∃ y,s.cutO ns ks ds=st y/\inv y) Q) s) (h2:∀ y0,inv y0->AW P g y Q (st y0)):AW P g (.seq x y) Q s:=
 AW_seq (AW.mono h1 (fun e s h=>by
  cases e with
  | normal=>obtain ⟨y0,e,hy⟩:=h; exact AW_cutO ns ks ds (by rw [e]; exact h2 y0 hy)
  | _=>exact h))
theorem AW_loopO {c:Code} {α:Type} (ns:List (Nat×Nm×List Sh)) (ks:List Nat) (ds:List Nm) (st:α->S) (inv:α->Prop) (μ:α->Nat) (x0:α) (h0:s.cutO ns ks ds=st x0) (hi:inv x0)
  (round:∀ x,inv x->∀ K:S->Prop,(∀ s' x',s'.cutO ns ks ds=st x'->inv x'->μ x'<μ x->K s')->AW P g c (thenQ K Q) (st x)):AW P g (.loop c) Q s:=by
 refine AW_loop (fun n s=>∃ x,s.cutO ns ks ds=st x/\inv x/\μ x=n) (μ x0) ⟨x0,h0,hi,rfl⟩ (fun n s ⟨x,h1,h2,h3⟩=>?_)
 refine AW_cutO ns ks ds ?_
 rw [h1]
 exact round x h2 _ (fun s' x' k0 k2 k3=>⟨μ x',by omega,x',k0,k2,rfl⟩)
theorem map_drp {α β:Type} (f:α->β) (a:List α) (n:Nat):(a.map f).drop n=(a.drop n).map f:=by simp
theorem map_tak {α β:Type} (f:α->β) (a:List α) (n:Nat):(a.map f).take n=(a.take n).map f:=by simp
def decRB:List D->Option UInt8
 | [.int .u8 n]=>if 0<=n/\n < 256 then some (UInt8.ofNat n.toNat) else none
 | _=>none
def rB:Rw UInt8 where
 enc b:=[.int .u8 (b.toNat:Int)]
 dec:=decRB
 inv l x h:=by
  unfold decRB at h
  split at h
  ·split at h
   ·rename_i n hn
    simp only [Option.some.injEq] at h
    subst h
    congr 2
    have:n.toNat < 256:=by omega
    simp only [UInt8.toNat_ofNat',Nat.reducePow]
    omega
   ·simp at h
  ·simp at h
theorem rB_fold (b:List UInt8):(b.map fun c=>[D.int .u8 (c.toNat:Int)])=b.map rB.enc:=rfl
theorem nil_beq_cons (a:Nat) (l:List Nat):(([]:List Nat)==a::l)=false:=rfl
theorem cons_beq_nil (a:Nat) (l:List Nat):((a::l)==([]:List Nat))=false:=rfl
attribute [push_cast] nil_beq_cons cons_beq_nil map_drp map_tak rB_fold S.own own1 S.ownR S.mvR delR S.cutO Nm.isOut D.sure
end
end Go.Am
end

section
namespace Go.Am
def ownCell (cells:List T) (off:Nat) (sub:List Sh):List T:=
 match cells[off]? with
 | some .nil=>cells.set off (.ow sub [])
 | _=>cells
def ownCells:List (Nat×List Sh)->List T->List T
 | [],cells=>cells
 | (off,sub)::r,cells=>ownCells r (ownCell cells off sub)
section
variable {w:World} {H:FH} {γ:Gam} {m:Mm} {F:Nm->Fp}
end
section
variable {g:G} {a:Act} {w:World} {H:FH} {γ:Gam} {F:Nm->Fp}
end
structure Cs1 (σ:Type) where
 j:Nat
 enc:σ->List T
 dec:List T->Option σ
 offs:List (Nat×List Sh)
 inv:∀ l x,dec l=some x->ownCells offs l=enc x
 self:∀ x,(enc x).all (T.self (.out j))=true
 ren:∀ l x n,dec l=some x->dec (l.map (T.ren n (.out j)))=some x
section
variable {α β γ' ρ σ:Type}
def fp0 (c:Cs1 σ) (r:ρ->AV) (pre:σ->Prop) (f:σ->ρ×σ):List AV->List T->(AV->List T->Prop)->Prop
 | [],cells,K=>match c.dec cells with
  | some s=>pre s/\K (r (f s).1) (c.enc (f s).2)
  | none=>False
 | _,_,_=>False
def fp1 (c:Cs1 σ) (a:Cd α) (r:ρ->AV) (pre:σ->α->Prop) (f:σ->α->ρ×σ):List AV->List T->(AV->List T->Prop)->Prop
 | [.one x],cells,K=>match c.dec cells,a.dec x with
  | some s,some x=>pre s x/\K (r (f s x).1) (c.enc (f s x).2)
  | _,_=>False
 | _,_,_=>False
def fp2 (c:Cs1 σ) (a:Cd α) (b:Cd β) (r:ρ->AV) (pre:σ->α->β->Prop) (f:σ->α->β->ρ×σ):List AV->List T->(AV->List T->Prop)->Prop
 | [.one x,.one y],cells,K=>match c.dec cells,a.dec x,b.dec y with
  | some s,some x,some y=>pre s x y/\K (r (f s x y).1) (c.enc (f s x y).2)
  | _,_,_=>False
 | _,_,_=>False
variable {P:Program} {f:Nat} {fn:Func} {co:Code}
end
attribute [push_cast] Nat.le_refl List.isEmpty_nil List.isEmpty_cons ptrC fp0 fp1 fp2 T.ren T.self badP ownCell ownCells resKp retP
end Go.Am
end

section
namespace Go.Am
attribute [push_cast] locN Nm.tyd
structure RK (P:Program) (cs:CT) (all:List Oper) (r:List Oper) (s:S) (k:S->Prop):Prop where
 out:opsK P cs all r s k
section
variable {P:Program} {cs:CT} {all:List Oper} {g:G} {Q:Exit->S->Prop}
theorem stA {o:Oper} {r:List Oper} {s s':S} {k:S->Prop} (h:RK P cs all r s' k)
  (e:∀ K:S->Prop,K s'->stepK P cs all o s K:=by intro K hK; simp only [push_cast,↓reduceIte,Nat.reduceAdd,Nat.reduceSub,Nat.reduceMul,Nat.reduceEqDiff,Nat.reduceLeDiff,reduceCtorEq,Nat.reduceBEq,Nat.reduceLT,Int.reduceToNat,Int.reduceLE,hx]; intros; exact hK):RK P cs all (o::r) s k:=
 ⟨opsK_step fun K hK=>e K (hK _ h.out)⟩
theorem enA {s s1:S} {ks:List Nat} {ds:List Nm} (h:Q .normal s1)
  (e:∀ K:S->Prop,K s1->K (s.cut ks ds):=by intro K hK; simp only [push_cast,↓reduceIte,Nat.reduceAdd,Nat.reduceSub,Nat.reduceMul,Nat.reduceEqDiff,Nat.reduceLeDiff,reduceCtorEq,Nat.reduceBEq,Nat.reduceLT,Int.reduceToNat,Int.reduceLE]; exact hK):RK P cs all [] s (fun s'=>Q .normal (s'.cut ks ds)):=⟨e (Q .normal) h⟩
theorem rgA (ks:List Nat) (ds:List Nm) {s:S} {id:Nat} {l:List Oper} (h:RK P cs l l s (fun s'=>Q .normal (s'.cut ks ds)))
  (hcs:cs.Ok P:=by exact hcs)
  (hc:opsC g.nt l l=true:=by rw [hn]; rfl):AW P g (.region id l.toArray false) Q s:=
 AW_reg ks ds hcs hc h.out
theorem cdA {t:Tmp} {x y:Code} {s:S} {b:Bool} {A B:Prop} (h:if b=true then A else B) (hc:getT s.t t=.one (.c (.d (.bool b)))) (h1:A->AW P g x Q s) (h2:B->AW P g y Q s) (htb:t<TB:=by decide):AW P g (.cond (.tmp t) x y) Q s:=
 AW_cond hc (fun hb=>h1 (by rw [if_pos hb] at h; exact h)) (fun hb=>h2 (by rw [if_neg (by rw [hb]; exact Bool.false_ne_true)] at h; exact h)) htb
theorem rB_eta (b:UInt8):rB.enc b=[D.int .u8 ((b.toNat:Nat):Int)]:=rfl
theorem siA {a b:S}
  (e:a=b:=by first | (simp only [push_cast,↓reduceIte,Nat.reduceAdd,Nat.reduceSub,Nat.reduceMul,Nat.reduceEqDiff,Nat.reduceLeDiff,reduceCtorEq,Nat.reduceBEq,Nat.reduceLT,Int.reduceToNat,Int.reduceLE]; done) | simp only [push_cast,List.map_append,List.map_cons,List.map_nil,rB_eta,↓reduceIte,Nat.reduceAdd,Nat.reduceSub,Nat.reduceMul,Nat.reduceEqDiff,Nat.reduceLeDiff,reduceCtorEq,Nat.reduceBEq,Nat.reduceLT,Int.reduceToNat,Int.reduceLE]):a=b:=e
theorem fiA {p q:Prop} (h:q)
  (e:q->p:=by intro h; first | ((try simp only [push_cast,↓reduceIte,Nat.reduceAdd,Nat.reduceSub,Nat.reduceMul,Nat.reduceEqDiff,Nat.reduceLeDiff,reduceCtorEq,Nat.reduceBEq,Nat.reduceLT,Int.reduceToNat,Int.reduceLE]); intros; exact h) | (simp only [push_cast,↓reduceIte,Nat.reduceAdd,Nat.reduceSub,Nat.reduceMul,Nat.reduceEqDiff,Nat.reduceLeDiff,reduceCtorEq,Nat.reduceBEq,Nat.reduceLT,Int.reduceToNat,Int.reduceLE] at h ⊢; exact h)):p:=e h
theorem useA {p q F:Prop} (ho:p) (hx:F)
  (e:p->q:=by intro h; first | (simp only [push_cast,↓reduceIte,Nat.reduceAdd,Nat.reduceSub,Nat.reduceMul,Nat.reduceEqDiff,Nat.reduceLeDiff,reduceCtorEq,Nat.reduceBEq,Nat.reduceLT,Int.reduceToNat,Int.reduceLE] at h; exact h) | exact h):q/\p/\F:=⟨e ho,ho,hx⟩
end
end Go.Am
end

section
namespace Go.Am
def T.isD:T->Bool
 | .d _=>true
 | _=>false
def T.frB (n:Nm) (row:List D):T->T
 | .pl p=>match p.path with
  | []=>if p.root=n then .el row p.off else .pl p
  | _=>(T.pl p).kill (badR n)
 | t=>t.kill (badR n)
def S.frzB (n:Nm) (s:S):S:=
 match getR s.m n with
 | some ⟨true,cells⟩=>if cells.all T.isD=true then ⟨mapT (AV.map (T.frB n (cells.map T.toD))) s.t,killM (badR n) (delR s.m n)⟩ else s
 | _=>s
theorem FRow_of_x {H:FH} {row:List D} {b o:Nat} (h:∀ j,j<row.length->∃ y,H b (o+j)=some y/\FDx H (row.getD j default) y):∃ m,FRow H m row b o:=by
 have key:∀ n,n<=row.length->∃ m,∀ j,j<n->∃ y,H b (o+j)=some y/\FD H m (row.getD j default) y:=by
  intro n
  induction n with
  | zero=>exact fun _=>⟨0,fun j hj=>by omega⟩
  | succ n ih=>
   intro hn
   obtain ⟨m1,h1⟩:=ih (by omega)
   obtain ⟨y,hy,m2,hf⟩:=h n (by omega)
   refine ⟨m1+m2,fun j hj=>?_⟩
   by_cases hjn:j=n
   ·subst hjn; exact ⟨y,hy,FD_mono (fun _ _ _ h=>h) _ _ _ _ (by omega) hf⟩
   ·obtain ⟨z,hz,hf⟩:=h1 j (by omega)
    exact ⟨z,hz,FD_mono (fun _ _ _ h=>h) _ _ _ _ (by omega) hf⟩
 exact key row.length (Nat.le_refl _)
section
variable {P:Program} {g:G} {s:S} {a:Act} {w:World} {H:FH} {γ:Gam} {F:Nm->Fp}
theorem tot_del_eq {F:Nm->Fp} {m:Mm} {n:Nm} {r:Root} (hk:getR m n=some r) (c:Nat):tot F (delR m n) c+F n c=tot F m c:=by
 induction m with
 | nil=>simp [getR] at hk
 | cons x m ih=>
  obtain ⟨k,y⟩:=x
  simp only [getR,delR] at hk ⊢
  by_cases hkn:k=n
  ·subst hkn; rw [if_pos rfl,tot_cons]; dsimp only; omega
  ·rw [if_neg hkn] at hk
   rw [if_neg hkn,tot_cons,tot_cons]
   have:=ih hk
   dsimp only at this ⊢
   omega
theorem RX_frzB (h:RX g s a w H γ F) (n:Nm):∃ H',RX g (s.frzB n) a w H' γ F:=by
 unfold S.frzB
 split
 rotate_left
 ·exact ⟨H,h⟩
 rename_i cells hr
 split
 rotate_left
 ·exact ⟨H,h⟩
 rename_i hall
 have hR:=h.mem.roots _ (getR_mem hr)
 unfold RootR at hR
 rw [if_pos rfl] at hR
 obtain ⟨b,cs,ty,fz,f,e1,e2,e3,e4,e5,e6⟩:=hR
 dsimp only at e1 e4 e5 e6
 have hd:=RX_drop h n
 have hdm:(s.drop n).m=killM (badR n) (delR s.m n):=rfl
 have tdel:∀ c,tot F (killM (badR n) (delR s.m n)) c+F n c=tot F s.m c:=fun c=>by rw [tot_killM]; exact tot_del_eq hr c
 let H':FH:=fun k o=>if k=b then w.cell? ⟨k,o,none⟩ else H k o
 have hFb:F n b≠0:=by
  have:=e6 b; rw [if_pos rfl] at this; omega
 have htb:tot F s.m b≠0:=by have:=tdel b; omega
 have hH:∀ k o y,H k o=some y->H' k o=some y:=by
  intro k o y hy
  simp only [H']
  split
  ·exact h.mem.agree k o y hy
  ·exact hy
 have hag:∀ k o y,H' k o=some y->w.cell? ⟨k,o,none⟩=some y:=by
  intro k o y hy
  simp only [H'] at hy
  split at hy
  ·exact hy
  ·exact h.mem.agree k o y hy
 have hmem:=hd.mem
 rw [hdm] at hmem
 have hKr:Keeps w γ (killM (badR n) (delR s.m n)) w γ (killM (badR n) (delR s.m n)):=⟨fun q hq=>⟨hq,rfl⟩,fun q hq=>⟨hq,rfl⟩⟩
 have hcell:∀ j,w.cell? ⟨b,j,none⟩=cs[j]? := fun j=>by simp [World.cell?,e2]
 have hrow:∃ m,FRow H' m (cells.map T.toD) b 0:=by
  refine FRow_of_x (fun j hj=>?_)
  rw [List.length_map] at hj
  have hcj:cells[j]? = some cells[j]:=List.getElem?_eq_getElem hj
  obtain ⟨v,q,v1,v2,_⟩:=Ts_get e5 hcj
  have hisD:=List.all_eq_true.1 hall cells[j] (List.getElem_mem hj)
  refine ⟨v,?_,?_⟩
  ·simp only [H',if_true,Nat.zero_add]
   rw [hcell]
   simpa using v1
  ·rw [List.getD,List.getElem?_map,hcj]
   simp only [Option.map_some,Option.getD_some]
   generalize cells[j]=t at v2 hisD
   cases t with
   | d x=>exact FDx_mono hH v2.2
   | _=>simp [T.isD] at hisD
 refine ⟨H',⟨?_,?_,h.nt,h.df,fun i=>?_⟩⟩
 ·refine ⟨hag,fun x hx=>RootR_keeps hKr hH rfl (fun _ _=>rfl) (hmem.roots x hx),hmem.keys,hmem.le1,hmem.lt,fun k hk o=>?_⟩
  have hkb:k≠b:=by
   intro e; subst e
   have h1:=tdel k; have h2:=h.mem.le1 k; dsimp only at hk; omega
  simp only [H']
  rw [if_neg hkb]
  exact hmem.nofz k hk o
 ·refine ⟨h.fr.size,h.fr.os,h.fr.tape,h.fr.output,h.fr.block,fun k o y hy=>hH _ _ _ (h.fr.hold k o y hy),fun k o h1 h2=>?_,fun k hk=>h.fr.tt k ?_,h.fr.nz.1,fun k o x l c h1 h2=>?_⟩
  rotate_left 2
  ·by_cases hkb:k=b
   ·subst hkb
    have e0:fz=(0,0):=e3.1
    subst e0
    exact ⟨_,_,e2⟩
   ·simp only [H'] at h1
    rw [if_neg hkb] at h1
    exact h.fr.nz.2 k o x l c h1 h2
  ·by_cases hkb:k=b
   ·subst hkb; exact h.fr.tt k htb
   ·simp only [H'] at h1
    rw [if_neg hkb] at h1
    exact h.fr.hnew k o h1 h2
  ·have h1:=tdel k; dsimp only at hk; omega
 ·show AR w H' γ _ (getT (mapT _ s.t) i) _
  rw [getT_mapT rfl]
  refine AR_map (fun t y ht=>?_) (h.t i)
  have hk:=fun (t:T) (ht:TR w H γ s.m t (fun _=>0) y)=>TR_kill (KeepsB_del (n:=n)) hH (fun _ hb=>absurd rfl hb) ht
  cases t with
  | pl p=>
   obtain ⟨pn,po,pp⟩:=p
   cases pp with
   | nil=>
    simp only [T.frB]
    split
    ·rename_i hc
     subst hc
     obtain ⟨_,_,ad,had,hy⟩:=ht
     obtain ⟨m,hm⟩:=hrow
     have:ad=⟨b,po,none⟩:=by
      simp only [plA,e1,Option.some.injEq] at had; exact had.symm
     subst this
     exact ⟨fun _=>rfl,b,0,m,by rw [hy,Nat.zero_add],hm⟩
    ·rename_i hc
     have:=hk _ ht
     have hb:badR n false ⟨pn,po,[]⟩=false:=by simp [badR,hc]
     simp only [T.kill,hb,Bool.false_eq_true,if_false] at this
     exact this
   | cons st q=>exact hk _ ht
  | _=>exact hk _ ht
theorem R_frzB (h:R g s a w) (n:Nm):R g (s.frzB n) a w:=by
 obtain ⟨H,γ,F,h⟩:=h
 obtain ⟨H',h'⟩:=RX_frzB h n
 exact ⟨H',γ,F,h'⟩
variable {Q:Exit->S->Prop}
theorem frB (n:Nm) {c:Code} {s s1:S} (h:AW P g c Q s1)
  (e:∀ K:S->Prop,K s1->K (s.frzB n):=by intro K hK; simp only [push_cast,↓reduceIte,Nat.reduceAdd,Nat.reduceSub,Nat.reduceMul,Nat.reduceEqDiff,Nat.reduceLeDiff,reduceCtorEq,Nat.reduceBEq,Nat.reduceLT,Int.reduceToNat,Int.reduceLE]; exact hK):AW P g c Q s:=by
 have h2:=e (fun s'=>AW P g c Q s') h
 intro a w hR
 exact h2 a w (R_frzB hR n)
end
def tI (k:IntKind) (n:Int):T:=.d (.int k n)
def dI (k:IntKind) (n:Int):D:=.int k n
theorem tI_owned (k:IntKind) (n:Int):(tI k n).owned=false:=rfl
theorem tI_all (k:IntKind) (L:List Int):(L.map (tI k)).all T.isD=true:=by
 rw [List.all_eq_true]; intro x hx; rw [List.mem_map] at hx; obtain ⟨n,_,rfl⟩:=hx; rfl
theorem tI_toD (k:IntKind) (L:List Int):(L.map (tI k)).map T.toD=L.map (dI k):=by
 rw [List.map_map]; rfl
theorem tI_set (k:IntKind) (L:List Int) (n:Nat) (v:Int):(L.map (tI k)).set n (.d (.int k v))=(L.set n v).map (tI k):=by
 rw [List.map_set]; rfl
theorem decBy_dI (L:List Int):decBy (L.map fun n=>[dI .u8 n])=some (L.map fun n=>UInt8.ofNat n.toNat):=by
 induction L with
 | nil=>rfl
 | cons n L ih=>rw [List.map_cons,dI,decBy,ih]; rfl
theorem decBy_mm (L:List Int):decBy ((L.map (dI .u8)).map fun x=>[x])=some (L.map fun n=>UInt8.ofNat n.toNat):=by
 rw [List.map_map]; exact decBy_dI L
attribute [push_cast] Pl.at roomO lookO setO okO
attribute [push_cast high] tI_owned
attribute [push_cast] T.isD T.frB S.frzB mapT frzRoot tI_all tI_toD tI_set decBy_mm Nat.zero_add Nat.add_zero Nat.mul_one Nat.sub_zero T.toD List.replicate_succ List.replicate_zero
end Go.Am
end

section
namespace Go.Am
section
variable {P:Program} {cs:CT} {all:List Oper} {g:G} {Q:Exit->S->Prop}
end
end Go.Am
end

section
open Go Go.Am
namespace Lt
structure Var where
 Name:List UInt8
 Type_:List UInt8
 deriving Inhabited,DecidableEq
def Var.enc (x:Var):List D:=[.str x.Name,.str x.Type_]
def Var.dec:List D->Option Var
 | [.str v0,.str v1]=>some ⟨v0,v1⟩
 | _=>none
theorem Var.dec_inv:∀ (l:List D) (x:Var),Var.dec l=some x->l=x.enc:=by
 intro l x h
 unfold Var.dec at h
 split at h
 ·simp only [Option.some.injEq] at h; subst h; rfl
 ·simp at h
def Var.rw:Rw Var:=⟨Var.enc,Var.dec,Var.dec_inv⟩
theorem Var.rows (l:List Var):(∀ x∈l.map Var.enc,x.length=2)=True:=by
 simp [Var.enc]
attribute [push_cast] Var.enc Var.dec Var.rows
structure Arg where
 Kind:Int
 S:List UInt8
 N:Int
 deriving Inhabited,DecidableEq
def Arg.enc (x:Arg):List D:=[.int .i64 x.Kind,.str x.S,.int .i64 x.N]
def Arg.dec:List D->Option Arg
 | [.int .i64 v0,.str v1,.int .i64 v2]=>some ⟨v0,v1,v2⟩
 | _=>none
theorem Arg.dec_inv:∀ (l:List D) (x:Arg),Arg.dec l=some x->l=x.enc:=by
 intro l x h
 unfold Arg.dec at h
 split at h
 ·simp only [Option.some.injEq] at h; subst h; rfl
 ·simp at h
def Arg.rw:Rw Arg:=⟨Arg.enc,Arg.dec,Arg.dec_inv⟩
theorem Arg.rows (l:List Arg):(∀ x∈l.map Arg.enc,x.length=3)=True:=by
 simp [Arg.enc]
attribute [push_cast] Arg.enc Arg.dec Arg.rows
structure In where
 Block:List UInt8
 A:Arg
 deriving Inhabited,DecidableEq
def In.enc (x:In):List D:=[.str x.Block,.int .i64 x.A.Kind,.str x.A.S,.int .i64 x.A.N]
def In.dec:List D->Option In
 | [.str v0,.int .i64 v1,.str v2,.int .i64 v3]=>some ⟨v0,⟨v1,v2,v3⟩⟩
 | _=>none
theorem In.dec_inv:∀ (l:List D) (x:In),In.dec l=some x->l=x.enc:=by
 intro l x h
 unfold In.dec at h
 split at h
 ·simp only [Option.some.injEq] at h; subst h; rfl
 ·simp at h
def In.rw:Rw In:=⟨In.enc,In.dec,In.dec_inv⟩
theorem In.rows (l:List In):(∀ x∈l.map In.enc,x.length=4)=True:=by
 simp [In.enc]
attribute [push_cast] In.enc In.dec In.rows
structure Phi where
 Dst:List UInt8
 Ins:List In
 deriving Inhabited,DecidableEq
def Phi.enc (x:Phi):List D:=[.str x.Dst,.li (x.Ins.map In.enc)]
def Phi.dec:List D->Option Phi
 | [.str v0,.li v1]=>(decL In.rw v1).bind fun w1=>some ⟨v0,w1⟩
 | _=>none
theorem Phi.dec_inv:∀ (l:List D) (x:Phi),Phi.dec l=some x->l=x.enc:=by
 intro l x h
 unfold Phi.dec at h
 split at h
 ·simp only [Option.bind_eq_some_iff,Option.some.injEq] at h
  obtain ⟨w1,hw1,rfl⟩:=h
  rw [decL_inv hw1]; rfl
 ·simp at h
def Phi.rw:Rw Phi:=⟨Phi.enc,Phi.dec,Phi.dec_inv⟩
theorem Phi.rows (l:List Phi):(∀ x∈l.map Phi.enc,x.length=2)=True:=by
 simp [Phi.enc]
attribute [push_cast] Phi.enc Phi.dec Phi.rows
structure Bind where
 Name:List UInt8
 A:Arg
 deriving Inhabited,DecidableEq
def Bind.enc (x:Bind):List D:=[.str x.Name,.int .i64 x.A.Kind,.str x.A.S,.int .i64 x.A.N]
def Bind.dec:List D->Option Bind
 | [.str v0,.int .i64 v1,.str v2,.int .i64 v3]=>some ⟨v0,⟨v1,v2,v3⟩⟩
 | _=>none
theorem Bind.dec_inv:∀ (l:List D) (x:Bind),Bind.dec l=some x->l=x.enc:=by
 intro l x h
 unfold Bind.dec at h
 split at h
 ·simp only [Option.some.injEq] at h; subst h; rfl
 ·simp at h
def Bind.rw:Rw Bind:=⟨Bind.enc,Bind.dec,Bind.dec_inv⟩
theorem Bind.rows (l:List Bind):(∀ x∈l.map Bind.enc,x.length=4)=True:=by
 simp [Bind.enc]
attribute [push_cast] Bind.enc Bind.dec Bind.rows
structure Frame where
 Func:List UInt8
 Block:List UInt8
 At:Int
 Vars:List Bind
 deriving Inhabited,DecidableEq
def Frame.enc (x:Frame):List D:=[.str x.Func,.str x.Block,.int .i64 x.At,.li (x.Vars.map Bind.enc)]
def Frame.dec:List D->Option Frame
 | [.str v0,.str v1,.int .i64 v2,.li v3]=>(decL Bind.rw v3).bind fun w3=>some ⟨v0,v1,v2,w3⟩
 | _=>none
theorem Frame.dec_inv:∀ (l:List D) (x:Frame),Frame.dec l=some x->l=x.enc:=by
 intro l x h
 unfold Frame.dec at h
 split at h
 ·simp only [Option.bind_eq_some_iff,Option.some.injEq] at h
  obtain ⟨w3,hw3,rfl⟩:=h
  rw [decL_inv hw3]; rfl
 ·simp at h
def Frame.rw:Rw Frame:=⟨Frame.enc,Frame.dec,Frame.dec_inv⟩
theorem Frame.rows (l:List Frame):(∀ x∈l.map Frame.enc,x.length=4)=True:=by
 simp [Frame.enc]
attribute [push_cast] Frame.enc Frame.dec Frame.rows
structure Virt where
 Class:List UInt8
 Vals:List Arg
 deriving Inhabited,DecidableEq
def Virt.enc (x:Virt):List D:=[.str x.Class,.li (x.Vals.map Arg.enc)]
def Virt.dec:List D->Option Virt
 | [.str v0,.li v1]=>(decL Arg.rw v1).bind fun w1=>some ⟨v0,w1⟩
 | _=>none
theorem Virt.dec_inv:∀ (l:List D) (x:Virt),Virt.dec l=some x->l=x.enc:=by
 intro l x h
 unfold Virt.dec at h
 split at h
 ·simp only [Option.bind_eq_some_iff,Option.some.injEq] at h
  obtain ⟨w1,hw1,rfl⟩:=h
  rw [decL_inv hw1]; rfl
 ·simp at h
def Virt.rw:Rw Virt:=⟨Virt.enc,Virt.dec,Virt.dec_inv⟩
theorem Virt.rows (l:List Virt):(∀ x∈l.map Virt.enc,x.length=2)=True:=by
 simp [Virt.enc]
attribute [push_cast] Virt.enc Virt.dec Virt.rows
structure Instr where
 Op:Int
 Dst:List UInt8
 Name:List UInt8
 Args:List Arg
 Frames:List Frame
 Objs:List Virt
 deriving Inhabited,DecidableEq
def Instr.enc (x:Instr):List D:=[.int .i64 x.Op,.str x.Dst,.str x.Name,.li (x.Args.map Arg.enc),.li (x.Frames.map Frame.enc),.li (x.Objs.map Virt.enc)]
def Instr.dec:List D->Option Instr
 | [.int .i64 v0,.str v1,.str v2,.li v3,.li v4,.li v5]=>(decL Arg.rw v3).bind fun w3=>(decL Frame.rw v4).bind fun w4=>(decL Virt.rw v5).bind fun w5=>some ⟨v0,v1,v2,w3,w4,w5⟩
 | _=>none
theorem Instr.dec_inv:∀ (l:List D) (x:Instr),Instr.dec l=some x->l=x.enc:=by
 intro l x h
 unfold Instr.dec at h
 split at h
 ·simp only [Option.bind_eq_some_iff,Option.some.injEq] at h
  obtain ⟨w3,hw3,w4,hw4,w5,hw5,rfl⟩:=h
  rw [decL_inv hw3,decL_inv hw4,decL_inv hw5]; rfl
 ·simp at h
def Instr.rw:Rw Instr:=⟨Instr.enc,Instr.dec,Instr.dec_inv⟩
theorem Instr.rows (l:List Instr):(∀ x∈l.map Instr.enc,x.length=6)=True:=by
 simp [Instr.enc]
attribute [push_cast] Instr.enc Instr.dec Instr.rows
structure Term where
 Kind:Int
 A:Arg
 To:List (List UInt8)
 N:Int
 deriving Inhabited,DecidableEq
def Term.enc (x:Term):List D:=[.int .i64 x.Kind,.int .i64 x.A.Kind,.str x.A.S,.int .i64 x.A.N,.li (x.To.map rS.enc),.int .i64 x.N]
def Term.dec:List D->Option Term
 | [.int .i64 v0,.int .i64 v1,.str v2,.int .i64 v3,.li v4,.int .i64 v5]=>(decL rS v4).bind fun w4=>some ⟨v0,⟨v1,v2,v3⟩,w4,v5⟩
 | _=>none
theorem Term.dec_inv:∀ (l:List D) (x:Term),Term.dec l=some x->l=x.enc:=by
 intro l x h
 unfold Term.dec at h
 split at h
 ·simp only [Option.bind_eq_some_iff,Option.some.injEq] at h
  obtain ⟨w4,hw4,rfl⟩:=h
  rw [decL_inv hw4]; rfl
 ·simp at h
def Term.rw:Rw Term:=⟨Term.enc,Term.dec,Term.dec_inv⟩
theorem Term.rows (l:List Term):(∀ x∈l.map Term.enc,x.length=6)=True:=by
 simp [Term.enc]
attribute [push_cast] Term.enc Term.dec Term.rows
structure Block where
 Name:List UInt8
 Phis:List Phi
 Code:List Instr
 End:Term
 deriving Inhabited,DecidableEq
def Block.enc (x:Block):List D:=[.str x.Name,.li (x.Phis.map Phi.enc),.li (x.Code.map Instr.enc),.int .i64 x.End.Kind,.int .i64 x.End.A.Kind,.str x.End.A.S,.int .i64 x.End.A.N,.li (x.End.To.map rS.enc),.int .i64 x.End.N]
def Block.dec:List D->Option Block
 | [.str v0,.li v1,.li v2,.int .i64 v3,.int .i64 v4,.str v5,.int .i64 v6,.li v7,.int .i64 v8]=>(decL Phi.rw v1).bind fun w1=>(decL Instr.rw v2).bind fun w2=>(decL rS v7).bind fun w7=>some ⟨v0,w1,w2,⟨v3,⟨v4,v5,v6⟩,w7,v8⟩⟩
 | _=>none
theorem Block.dec_inv:∀ (l:List D) (x:Block),Block.dec l=some x->l=x.enc:=by
 intro l x h
 unfold Block.dec at h
 split at h
 ·simp only [Option.bind_eq_some_iff,Option.some.injEq] at h
  obtain ⟨w1,hw1,w2,hw2,w7,hw7,rfl⟩:=h
  rw [decL_inv hw1,decL_inv hw2,decL_inv hw7]; rfl
 ·simp at h
def Block.rw:Rw Block:=⟨Block.enc,Block.dec,Block.dec_inv⟩
theorem Block.rows (l:List Block):(∀ x∈l.map Block.enc,x.length=9)=True:=by
 simp [Block.enc]
attribute [push_cast] Block.enc Block.dec Block.rows
structure Func where
 Name:List UInt8
 Result:List UInt8
 Params:List Var
 Vars:List Var
 Blocks:List Block
 deriving Inhabited,DecidableEq
def Func.enc (x:Func):List D:=[.str x.Name,.str x.Result,.li (x.Params.map Var.enc),.li (x.Vars.map Var.enc),.li (x.Blocks.map Block.enc)]
def Func.dec:List D->Option Func
 | [.str v0,.str v1,.li v2,.li v3,.li v4]=>(decL Var.rw v2).bind fun w2=>(decL Var.rw v3).bind fun w3=>(decL Block.rw v4).bind fun w4=>some ⟨v0,v1,w2,w3,w4⟩
 | _=>none
theorem Func.dec_inv:∀ (l:List D) (x:Func),Func.dec l=some x->l=x.enc:=by
 intro l x h
 unfold Func.dec at h
 split at h
 ·simp only [Option.bind_eq_some_iff,Option.some.injEq] at h
  obtain ⟨w2,hw2,w3,hw3,w4,hw4,rfl⟩:=h
  rw [decL_inv hw2,decL_inv hw3,decL_inv hw4]; rfl
 ·simp at h
def Func.rw:Rw Func:=⟨Func.enc,Func.dec,Func.dec_inv⟩
theorem Func.rows (l:List Func):(∀ x∈l.map Func.enc,x.length=5)=True:=by
 simp [Func.enc]
attribute [push_cast] Func.enc Func.dec Func.rows
structure Class where
 Name:List UInt8
 Fields:List Var
 deriving Inhabited,DecidableEq
def Class.enc (x:Class):List D:=[.str x.Name,.li (x.Fields.map Var.enc)]
def Class.dec:List D->Option Class
 | [.str v0,.li v1]=>(decL Var.rw v1).bind fun w1=>some ⟨v0,w1⟩
 | _=>none
theorem Class.dec_inv:∀ (l:List D) (x:Class),Class.dec l=some x->l=x.enc:=by
 intro l x h
 unfold Class.dec at h
 split at h
 ·simp only [Option.bind_eq_some_iff,Option.some.injEq] at h
  obtain ⟨w1,hw1,rfl⟩:=h
  rw [decL_inv hw1]; rfl
 ·simp at h
def Class.rw:Rw Class:=⟨Class.enc,Class.dec,Class.dec_inv⟩
theorem Class.rows (l:List Class):(∀ x∈l.map Class.enc,x.length=2)=True:=by
 simp [Class.enc]
attribute [push_cast] Class.enc Class.dec Class.rows
structure Extern where
 Name:List UInt8
 N:Int
 deriving Inhabited,DecidableEq
def Extern.enc (x:Extern):List D:=[.str x.Name,.int .i64 x.N]
def Extern.dec:List D->Option Extern
 | [.str v0,.int .i64 v1]=>some ⟨v0,v1⟩
 | _=>none
theorem Extern.dec_inv:∀ (l:List D) (x:Extern),Extern.dec l=some x->l=x.enc:=by
 intro l x h
 unfold Extern.dec at h
 split at h
 ·simp only [Option.some.injEq] at h; subst h; rfl
 ·simp at h
def Extern.rw:Rw Extern:=⟨Extern.enc,Extern.dec,Extern.dec_inv⟩
theorem Extern.rows (l:List Extern):(∀ x∈l.map Extern.enc,x.length=2)=True:=by
 simp [Extern.enc]
attribute [push_cast] Extern.enc Extern.dec Extern.rows
structure Program where
 SSA:Bool
 Classes:List Class
 Globals:List Var
 Externs:List Extern
 Funcs:List Func
 deriving Inhabited,DecidableEq
def Program.enc (x:Program):List D:=[.bool x.SSA,.li (x.Classes.map Class.enc),.li (x.Globals.map Var.enc),.li (x.Externs.map Extern.enc),.li (x.Funcs.map Func.enc)]
def Program.dec:List D->Option Program
 | [.bool v0,.li v1,.li v2,.li v3,.li v4]=>(decL Class.rw v1).bind fun w1=>(decL Var.rw v2).bind fun w2=>(decL Extern.rw v3).bind fun w3=>(decL Func.rw v4).bind fun w4=>some ⟨v0,w1,w2,w3,w4⟩
 | _=>none
theorem Program.dec_inv:∀ (l:List D) (x:Program),Program.dec l=some x->l=x.enc:=by
 intro l x h
 unfold Program.dec at h
 split at h
 ·simp only [Option.bind_eq_some_iff,Option.some.injEq] at h
  obtain ⟨w1,hw1,w2,hw2,w3,hw3,w4,hw4,rfl⟩:=h
  rw [decL_inv hw1,decL_inv hw2,decL_inv hw3,decL_inv hw4]; rfl
 ·simp at h
def Program.rw:Rw Program:=⟨Program.enc,Program.dec,Program.dec_inv⟩
theorem Program.rows (l:List Program):(∀ x∈l.map Program.enc,x.length=5)=True:=by
 simp [Program.enc]
attribute [push_cast] Program.enc Program.dec Program.rows
structure Pair where
 F0:List UInt8
 F1:List UInt8
 deriving Inhabited,DecidableEq
def Pair.enc (x:Pair):List D:=[.str x.F0,.str x.F1]
def Pair.dec:List D->Option Pair
 | [.str v0,.str v1]=>some ⟨v0,v1⟩
 | _=>none
theorem Pair.dec_inv:∀ (l:List D) (x:Pair),Pair.dec l=some x->l=x.enc:=by
 intro l x h
 unfold Pair.dec at h
 split at h
 ·simp only [Option.some.injEq] at h; subst h; rfl
 ·simp at h
def Pair.rw:Rw Pair:=⟨Pair.enc,Pair.dec,Pair.dec_inv⟩
theorem Pair.rows (l:List Pair):(∀ x∈l.map Pair.enc,x.length=2)=True:=by
 simp [Pair.enc]
attribute [push_cast] Pair.enc Pair.dec Pair.rows
structure way where
 from_:Int
 at_:Int
 to:Int
 deriving Inhabited,DecidableEq
def way.enc (x:way):List D:=[.int .i64 x.from_,.int .i64 x.at_,.int .i64 x.to]
def way.dec:List D->Option way
 | [.int .i64 v0,.int .i64 v1,.int .i64 v2]=>some ⟨v0,v1,v2⟩
 | _=>none
theorem way.dec_inv:∀ (l:List D) (x:way),way.dec l=some x->l=x.enc:=by
 intro l x h
 unfold way.dec at h
 split at h
 ·simp only [Option.some.injEq] at h; subst h; rfl
 ·simp at h
def way.rw:Rw way:=⟨way.enc,way.dec,way.dec_inv⟩
theorem way.rows (l:List way):(∀ x∈l.map way.enc,x.length=3)=True:=by
 simp [way.enc]
attribute [push_cast] way.enc way.dec way.rows
structure Reader where
 p:Program
 at_:Int
 where_:Int
 first:Bool
 long:Int
 deriving Inhabited,DecidableEq
def Reader.enc (x:Reader):List D:=[.bool x.p.SSA,.li (x.p.Classes.map Class.enc),.li (x.p.Globals.map Var.enc),.li (x.p.Externs.map Extern.enc),.li (x.p.Funcs.map Func.enc),.int .i64 x.at_,.int .i64 x.where_,.bool x.first,.int .i64 x.long]
def Reader.dec:List D->Option Reader
 | [.bool v0,.li v1,.li v2,.li v3,.li v4,.int .i64 v5,.int .i64 v6,.bool v7,.int .i64 v8]=>(decL Class.rw v1).bind fun w1=>(decL Var.rw v2).bind fun w2=>(decL Extern.rw v3).bind fun w3=>(decL Func.rw v4).bind fun w4=>some ⟨⟨v0,w1,w2,w3,w4⟩,v5,v6,v7,v8⟩
 | _=>none
theorem Reader.dec_inv:∀ (l:List D) (x:Reader),Reader.dec l=some x->l=x.enc:=by
 intro l x h
 unfold Reader.dec at h
 split at h
 ·simp only [Option.bind_eq_some_iff,Option.some.injEq] at h
  obtain ⟨w1,hw1,w2,hw2,w3,hw3,w4,hw4,rfl⟩:=h
  rw [decL_inv hw1,decL_inv hw2,decL_inv hw3,decL_inv hw4]; rfl
 ·simp at h
def Reader.rw:Rw Reader:=⟨Reader.enc,Reader.dec,Reader.dec_inv⟩
theorem Reader.rows (l:List Reader):(∀ x∈l.map Reader.enc,x.length=9)=True:=by
 simp [Reader.enc]
attribute [push_cast] Reader.enc Reader.dec Reader.rows
structure Fault where
 e:Int
 deriving Inhabited,DecidableEq
def Fault.enc (x:Fault):List D:=[.int .i64 x.e]
def Fault.dec:List D->Option Fault
 | [.int .i64 v0]=>some ⟨v0⟩
 | _=>none
theorem Fault.dec_inv:∀ (l:List D) (x:Fault),Fault.dec l=some x->l=x.enc:=by
 intro l x h
 unfold Fault.dec at h
 split at h
 ·simp only [Option.some.injEq] at h; subst h; rfl
 ·simp at h
def Fault.rw:Rw Fault:=⟨Fault.enc,Fault.dec,Fault.dec_inv⟩
theorem Fault.rows (l:List Fault):(∀ x∈l.map Fault.enc,x.length=1)=True:=by
 simp [Fault.enc]
attribute [push_cast] Fault.enc Fault.dec Fault.rows
structure Line where
 N:Int
 Words:List (List UInt8)
 deriving Inhabited,DecidableEq
def Line.enc (x:Line):List D:=[.int .i64 x.N,.li (x.Words.map rS.enc)]
def Line.dec:List D->Option Line
 | [.int .i64 v0,.li v1]=>(decL rS v1).bind fun w1=>some ⟨v0,w1⟩
 | _=>none
theorem Line.dec_inv:∀ (l:List D) (x:Line),Line.dec l=some x->l=x.enc:=by
 intro l x h
 unfold Line.dec at h
 split at h
 ·simp only [Option.bind_eq_some_iff,Option.some.injEq] at h
  obtain ⟨w1,hw1,rfl⟩:=h
  rw [decL_inv hw1]; rfl
 ·simp at h
def Line.rw:Rw Line:=⟨Line.enc,Line.dec,Line.dec_inv⟩
theorem Line.eta (x:Line):(⟨x.N,x.Words⟩:Line)=x:=rfl
theorem Line.rwe (x:Line):Line.rw.enc x=x.enc:=rfl
theorem Line.rwd (l:List D):Line.rw.dec l=Line.dec l:=rfl
theorem Line.rwm:Line.rw.enc=Line.enc:=rfl
theorem Line.rows (l:List Line):(∀ x∈l.map Line.enc,x.length=2)=True:=by
 simp [Line.enc]
attribute [push_cast] Line.enc Line.dec Line.eta Line.rwe Line.rwd Line.rwm Line.rows
structure RForm where
 Word:List UInt8
 Dst:Bool
 Named:Bool
 Least:Int
 Most:Int
 deriving Inhabited,DecidableEq
def RForm.enc (x:RForm):List D:=[.str x.Word,.bool x.Dst,.bool x.Named,.int .i64 x.Least,.int .i64 x.Most]
def RForm.dec:List D->Option RForm
 | [.str v0,.bool v1,.bool v2,.int .i64 v3,.int .i64 v4]=>some ⟨v0,v1,v2,v3,v4⟩
 | _=>none
theorem RForm.dec_inv:∀ (l:List D) (x:RForm),RForm.dec l=some x->l=x.enc:=by
 intro l x h
 unfold RForm.dec at h
 split at h
 ·simp only [Option.some.injEq] at h; subst h; rfl
 ·simp at h
def RForm.rw:Rw RForm:=⟨RForm.enc,RForm.dec,RForm.dec_inv⟩
theorem RForm.rows (l:List RForm):(∀ x∈l.map RForm.enc,x.length=5)=True:=by
 simp [RForm.enc]
attribute [push_cast] RForm.enc RForm.dec RForm.rows
structure Form where
 Word:List UInt8
 Dst:Bool
 Named:Bool
 Least:Int
 Most:Int
 deriving Inhabited,DecidableEq
def Form.enc (x:Form):List D:=[.str x.Word,.bool x.Dst,.bool x.Named,.int .i64 x.Least,.int .i64 x.Most]
def Form.dec:List D->Option Form
 | [.str v0,.bool v1,.bool v2,.int .i64 v3,.int .i64 v4]=>some ⟨v0,v1,v2,v3,v4⟩
 | _=>none
theorem Form.dec_inv:∀ (l:List D) (x:Form),Form.dec l=some x->l=x.enc:=by
 intro l x h
 unfold Form.dec at h
 split at h
 ·simp only [Option.some.injEq] at h; subst h; rfl
 ·simp at h
def Form.rw:Rw Form:=⟨Form.enc,Form.dec,Form.dec_inv⟩
theorem Form.rows (l:List Form):(∀ x∈l.map Form.enc,x.length=5)=True:=by
 simp [Form.enc]
attribute [push_cast] Form.enc Form.dec Form.rows
end Lt
end

section
namespace Go.Am
open Go
inductive Sn where
 | Var | Arg | In | Phi | Bind | Frame | Virt | Instr | Term | Block | Func | Class | Extern | Program | Pair | way | Reader | Fault | Line | RForm | Form
 deriving DecidableEq,Inhabited
inductive U where
 | i (k:IntKind) | b8 | bo | s | sl (u:U) | st (n:Sn)
 deriving DecidableEq,Inhabited
abbrev StTy:Sn->Type
 | .Var=>Lt.Var
 | .Arg=>Lt.Arg
 | .In=>Lt.In
 | .Phi=>Lt.Phi
 | .Bind=>Lt.Bind
 | .Frame=>Lt.Frame
 | .Virt=>Lt.Virt
 | .Instr=>Lt.Instr
 | .Term=>Lt.Term
 | .Block=>Lt.Block
 | .Func=>Lt.Func
 | .Class=>Lt.Class
 | .Extern=>Lt.Extern
 | .Program=>Lt.Program
 | .Pair=>Lt.Pair
 | .way=>Lt.way
 | .Reader=>Lt.Reader
 | .Fault=>Lt.Fault
 | .Line=>Lt.Line
 | .RForm=>Lt.RForm
 | .Form=>Lt.Form
abbrev El:U->Type
 | .i _=>Int
 | .b8=>UInt8
 | .bo=>Bool
 | .s=>List UInt8
 | .sl u=>List (El u)
 | .st n=>StTy n
abbrev Fl:List U->Type
 | []=>Unit
 | [u]=>El u
 | u::v::r=>El u×Fl (v::r)
def Fl.cons:(u:U)->(us:List U)->El u->Fl us->Fl (u::us)
 | _,[],x,_=>x
 | _,_::_,x,y=>(x,y)
def Fl.hd:(u:U)->(us:List U)->Fl (u::us)->El u
 | _,[],x=>x
 | _,_::_,x=>x.1
def Fl.tl:(u:U)->(us:List U)->Fl (u::us)->Fl us
 | _,[],_=>()
 | _,_::_,x=>x.2
structure SD (α:Type) where
 fs:List U
 mkF:Fl fs->α
 un:α->Fl fs
 l1:∀ x,mkF (un x)=x
 l2:∀ y,un (mkF y)=y
 enc:α->List D
 df:α
def sd:(n:Sn)->SD (StTy n)
 | .Var=>⟨[.s,.s],fun x=>⟨x.1,x.2⟩,fun x=>(x.Name,x.Type_),fun _=>rfl,fun _=>rfl,Lt.Var.enc,default⟩
 | .Arg=>⟨[(.i .i64),.s,(.i .i64)],fun x=>⟨x.1,x.2.1,x.2.2⟩,fun x=>(x.Kind,x.S,x.N),fun _=>rfl,fun _=>rfl,Lt.Arg.enc,default⟩
 | .In=>⟨[.s,(.i .i64),.s,(.i .i64)],fun x=>⟨x.1,⟨x.2.1,x.2.2.1,x.2.2.2⟩⟩,fun x=>(x.Block,x.A.Kind,x.A.S,x.A.N),fun _=>rfl,fun _=>rfl,Lt.In.enc,default⟩
 | .Phi=>⟨[.s,(.sl (.st .In))],fun x=>⟨x.1,x.2⟩,fun x=>(x.Dst,x.Ins),fun _=>rfl,fun _=>rfl,Lt.Phi.enc,default⟩
 | .Bind=>⟨[.s,(.i .i64),.s,(.i .i64)],fun x=>⟨x.1,⟨x.2.1,x.2.2.1,x.2.2.2⟩⟩,fun x=>(x.Name,x.A.Kind,x.A.S,x.A.N),fun _=>rfl,fun _=>rfl,Lt.Bind.enc,default⟩
 | .Frame=>⟨[.s,.s,(.i .i64),(.sl (.st .Bind))],fun x=>⟨x.1,x.2.1,x.2.2.1,x.2.2.2⟩,fun x=>(x.Func,x.Block,x.At,x.Vars),fun _=>rfl,fun _=>rfl,Lt.Frame.enc,default⟩
 | .Virt=>⟨[.s,(.sl (.st .Arg))],fun x=>⟨x.1,x.2⟩,fun x=>(x.Class,x.Vals),fun _=>rfl,fun _=>rfl,Lt.Virt.enc,default⟩
 | .Instr=>⟨[(.i .i64),.s,.s,(.sl (.st .Arg)),(.sl (.st .Frame)),(.sl (.st .Virt))],fun x=>⟨x.1,x.2.1,x.2.2.1,x.2.2.2.1,x.2.2.2.2.1,x.2.2.2.2.2⟩,fun x=>(x.Op,x.Dst,x.Name,x.Args,x.Frames,x.Objs),fun _=>rfl,fun _=>rfl,Lt.Instr.enc,default⟩
 | .Term=>⟨[(.i .i64),(.i .i64),.s,(.i .i64),(.sl .s),(.i .i64)],fun x=>⟨x.1,⟨x.2.1,x.2.2.1,x.2.2.2.1⟩,x.2.2.2.2.1,x.2.2.2.2.2⟩,fun x=>(x.Kind,x.A.Kind,x.A.S,x.A.N,x.To,x.N),fun _=>rfl,fun _=>rfl,Lt.Term.enc,default⟩
 | .Block=>⟨[.s,(.sl (.st .Phi)),(.sl (.st .Instr)),(.i .i64),(.i .i64),.s,(.i .i64),(.sl .s),(.i .i64)],fun x=>⟨x.1,x.2.1,x.2.2.1,⟨x.2.2.2.1,⟨x.2.2.2.2.1,x.2.2.2.2.2.1,x.2.2.2.2.2.2.1⟩,x.2.2.2.2.2.2.2.1,x.2.2.2.2.2.2.2.2⟩⟩,fun x=>(x.Name,x.Phis,x.Code,x.End.Kind,x.End.A.Kind,x.End.A.S,x.End.A.N,x.End.To,x.End.N),fun _=>rfl,fun _=>rfl,Lt.Block.enc,default⟩
 | .Func=>⟨[.s,.s,(.sl (.st .Var)),(.sl (.st .Var)),(.sl (.st .Block))],fun x=>⟨x.1,x.2.1,x.2.2.1,x.2.2.2.1,x.2.2.2.2⟩,fun x=>(x.Name,x.Result,x.Params,x.Vars,x.Blocks),fun _=>rfl,fun _=>rfl,Lt.Func.enc,default⟩
 | .Class=>⟨[.s,(.sl (.st .Var))],fun x=>⟨x.1,x.2⟩,fun x=>(x.Name,x.Fields),fun _=>rfl,fun _=>rfl,Lt.Class.enc,default⟩
 | .Extern=>⟨[.s,(.i .i64)],fun x=>⟨x.1,x.2⟩,fun x=>(x.Name,x.N),fun _=>rfl,fun _=>rfl,Lt.Extern.enc,default⟩
 | .Program=>⟨[.bo,(.sl (.st .Class)),(.sl (.st .Var)),(.sl (.st .Extern)),(.sl (.st .Func))],fun x=>⟨x.1,x.2.1,x.2.2.1,x.2.2.2.1,x.2.2.2.2⟩,fun x=>(x.SSA,x.Classes,x.Globals,x.Externs,x.Funcs),fun _=>rfl,fun _=>rfl,Lt.Program.enc,default⟩
 | .Pair=>⟨[.s,.s],fun x=>⟨x.1,x.2⟩,fun x=>(x.F0,x.F1),fun _=>rfl,fun _=>rfl,Lt.Pair.enc,default⟩
 | .way=>⟨[(.i .i64),(.i .i64),(.i .i64)],fun x=>⟨x.1,x.2.1,x.2.2⟩,fun x=>(x.from_,x.at_,x.to),fun _=>rfl,fun _=>rfl,Lt.way.enc,default⟩
 | .Reader=>⟨[.bo,(.sl (.st .Class)),(.sl (.st .Var)),(.sl (.st .Extern)),(.sl (.st .Func)),(.i .i64),(.i .i64),.bo,(.i .i64)],fun x=>⟨⟨x.1,x.2.1,x.2.2.1,x.2.2.2.1,x.2.2.2.2.1⟩,x.2.2.2.2.2.1,x.2.2.2.2.2.2.1,x.2.2.2.2.2.2.2.1,x.2.2.2.2.2.2.2.2⟩,fun x=>(x.p.SSA,x.p.Classes,x.p.Globals,x.p.Externs,x.p.Funcs,x.at_,x.where_,x.first,x.long),fun _=>rfl,fun _=>rfl,Lt.Reader.enc,default⟩
 | .Fault=>⟨[(.i .i64)],fun x=>⟨x⟩,fun x=>x.e,fun _=>rfl,fun _=>rfl,Lt.Fault.enc,default⟩
 | .Line=>⟨[(.i .i64),(.sl .s)],fun x=>⟨x.1,x.2⟩,fun x=>(x.N,x.Words),fun _=>rfl,fun _=>rfl,Lt.Line.enc,default⟩
 | .RForm=>⟨[.s,.bo,.bo,(.i .i64),(.i .i64)],fun x=>⟨x.1,x.2.1,x.2.2.1,x.2.2.2.1,x.2.2.2.2⟩,fun x=>(x.Word,x.Dst,x.Named,x.Least,x.Most),fun _=>rfl,fun _=>rfl,Lt.RForm.enc,default⟩
 | .Form=>⟨[.s,.bo,.bo,(.i .i64),(.i .i64)],fun x=>⟨x.1,x.2.1,x.2.2.1,x.2.2.2.1,x.2.2.2.2⟩,fun x=>(x.Word,x.Dst,x.Named,x.Least,x.Most),fun _=>rfl,fun _=>rfl,Lt.Form.enc,default⟩
end Go.Am
end

section
namespace Go.Am
inductive C where
 | i (k:IntKind) (n:Int)
 | b (x:UInt8)
 | bo (x:Bool)
 | s (l:List UInt8)
 | li (u:U) (l:List (El u))
 | v (x:Value)
 | any
 deriving Inhabited
def dflt:(u:U)->El u
 | .i _=>(default:Int)
 | .b8=>(default:UInt8)
 | .bo=>(default:Bool)
 | .s=>(default:List UInt8)
 | .sl _=>[]
 | .st n=>(sd n).df
def castL (u' u:U) (l:List (El u')):Option (List (El u)):=if h:u'=u then some (cast (by rw [h]) l) else none
theorem castL_eq {u' u:U} {l:List (El u')} {x:List (El u)} (h:castL u' u l=some x):∃ e:u'=u,x=e ▸ l:=by
 unfold castL at h
 split at h
 ·rename_i e; subst e; exact ⟨rfl,(Option.some.inj h).symm⟩
 ·cases h
def cellOf:(u:U)->El u->C
 | .i k,n=>.i k n
 | .b8,x=>.b x
 | .bo,x=>.bo x
 | .s,l=>.s l
 | .sl u,l=>.li u l
 | .st _,_=>.any
def ofCell:(u:U)->C->Option (El u)
 | .i k,.i k' n=>if k'=k then some n else none
 | .b8,.b x=>some x
 | .bo,.bo x=>some x
 | .s,.s l=>some l
 | .sl u,.li u' l=>castL u' u l
 | _,_=>none
def leaf:U->Bool
 | .st _=>false
 | _=>true
theorem ofCell_eq {u:U} {c:C} {x:El u} (h:ofCell u c=some x):c=cellOf u x:=by
 unfold ofCell at h
 split at h
 ·split at h
  ·rename_i e; subst e; rw [<- Option.some.inj h]; rfl
  ·cases h
 ·rw [<- Option.some.inj h]; rfl
 ·rw [<- Option.some.inj h]; rfl
 ·rw [<- Option.some.inj h]; rfl
 ·obtain ⟨e,rfl⟩:=castL_eq h; subst e; rfl
 ·cases h
def cellsF:(us:List U)->Fl us->List C
 | [],_=>[]
 | u::r,x=>cellOf u (Fl.hd u r x)::cellsF r (Fl.tl u r x)
def ofCells:(us:List U)->List C->Option (Fl us)
 | [],[]=>some ()
 | u::r,c::cs=>match ofCell u c,ofCells r cs with
  | some x,some y=>some (Fl.cons u r x y)
  | _,_=>none
 | _,_=>none
theorem hd_cons (u:U) (us:List U) (x:El u) (y:Fl us):Fl.hd u us (Fl.cons u us x y)=x:=by cases us <;> rfl
theorem tl_cons (u:U) (us:List U) (x:El u) (y:Fl us):Fl.tl u us (Fl.cons u us x y)=y:=by cases us <;> rfl
theorem ofCells_eq:∀ {us:List U} {cs:List C} {x:Fl us},ofCells us cs=some x->cs=cellsF us x
 | [],[],_,_=>rfl
 | u::r,c::cs,x,h=>by
  simp only [ofCells] at h
  cases h1:ofCell u c with
  | none=>rw [h1] at h; cases h
  | some a=>
   cases h2:ofCells r cs with
   | none=>rw [h1,h2] at h; cases h
   | some b=>
    rw [h1,h2] at h
    simp only [Option.some.injEq] at h
    subst h
    rw [cellsF,hd_cons,tl_cons,<- ofCell_eq h1,<- ofCells_eq h2]
 | [],_::_,_,h=>by simp [ofCells] at h
 | _::_,[],_,h=>by simp [ofCells] at h
def flat:(u:U)->El u->List C
 | .st n,x=>cellsF (sd n).fs ((sd n).un x)
 | .i k,x=>[.i k x]
 | .b8,x=>[.b x]
 | .bo,x=>[.bo x]
 | .s,x=>[.s x]
 | .sl u,x=>[.li u x]
def unflat:(u:U)->List C->Option (El u)
 | .st n,cs=>match ofCells (sd n).fs cs with
  | some y=>some ((sd n).mkF y)
  | none=>none
 | u,[c]=>ofCell u c
 | _,_=>none
theorem flat_leaf:∀ {u:U} (_:leaf u=true) (x:El u),flat u x=[cellOf u x]
 | .i _,_,_=>rfl
 | .b8,_,_=>rfl
 | .bo,_,_=>rfl
 | .s,_,_=>rfl
 | .sl _,_,_=>rfl
 | .st _,h,_=>by cases h
theorem unflat_eq {u:U} {cs:List C} {x:El u} (h:unflat u cs=some x):cs=flat u x:=by
 cases u with
 | st n=>
  simp only [unflat] at h
  cases h1:ofCells (sd n).fs cs with
  | none=>rw [h1] at h; cases h
  | some y=>
   rw [h1] at h
   have hx:=Option.some.inj h
   subst hx
   show cs=cellsF (sd n).fs ((sd n).un ((sd n).mkF y))
   rw [(sd n).l2,<- ofCells_eq h1]
 | _=>
  cases cs with
  | nil=>cases h
  | cons c r=>cases r with
   | nil=>rw [flat_leaf rfl,<- ofCell_eq h]
   | cons _ _=>cases h
def nc:U->Nat
 | .st n=>(sd n).fs.length
 | _=>1
theorem cellsF_length:∀ (us:List U) (x:Fl us),(cellsF us x).length=us.length
 | [],_=>rfl
 | u::r,x=>by simp only [cellsF,List.length_cons,cellsF_length r]
theorem flat_length {u:U} (x:El u):(flat u x).length=nc u:=by
 cases u with
 | st n=>exact cellsF_length _ _
 | _=>rfl
def encU:(u:U)->El u->List D
 | .i k,n=>[.int k n]
 | .b8,x=>[.int .u8 (x.toNat:Int)]
 | .bo,x=>[.bool x]
 | .s,l=>[.str l]
 | .sl u,l=>[.li (l.map (encU u))]
 | .st n,x=>(sd n).enc x
def C.toD:C->D
 | .i k n=>.int k n
 | .b x=>.int .u8 (x.toNat:Int)
 | .bo x=>.bool x
 | .s l=>.str l
 | .li u l=>.li (l.map (encU u))
 | .v x=>.v x
 | .any=>.any
theorem sd_enc:∀ (n:Sn) (x:StTy n),(cellsF (sd n).fs ((sd n).un x)).map C.toD=(sd n).enc x:=by
 intro n; cases n <;> intro x <;> rfl
theorem flat_enc {u:U} (x:El u):(flat u x).map C.toD=encU u x:=by
 cases u with
 | st n=>exact sd_enc n x
 | _=>rfl
theorem encU_length {u:U} (x:El u):(encU u x).length=nc u:=by rw [<- flat_enc,List.length_map,flat_length]
inductive Tt where
 | d (c:C)
 | nil
 | ow (sh:List Sh) (u:U) (l:List (El u))
 | mp (ku vu:U) (l:List (El ku×El vu))
 | el (row:List C) (off:Nat)
 | ga (u:U) (l:List (El u)) (i:Nat)
 | pl (p:Pl)
 | rf (p:Pl)
 | any
 deriving Inhabited
def Tt.toT:Tt->T
 | .d c=>.d c.toD
 | .nil=>.nil
 | .ow sh u l=>.ow sh (l.map (encU u))
 | .mp ku vu l=>.mp (l.map fun x=>((cellOf ku x.1).toD,(cellOf vu x.2).toD))
 | .el row off=>.el (row.map C.toD) off
 | .ga u l i=>.el (l.map fun x=>(cellOf u x).toD) i
 | .pl p=>.pl p
 | .rf p=>.rf p
 | .any=>.any
inductive A1 where
 | c (t:Tt)
 | agg (ts:List Tt)
 deriving Inhabited
def A1.toV:A1->AV1
 | .c t=>.c t.toT
 | .agg ts=>.agg (ts.map Tt.toT)
inductive At where
 | one (x:A1)
 | tup (vs:List A1)
 | any
 deriving Inhabited
def At.toV:At->AV
 | .one x=>.one x.toV
 | .tup vs=>.tup (vs.map A1.toV)
 | .any=>.any
structure Rt where
 blk:Bool
 cells:List Tt
 hole:Option (Nat×Step×List Step)
def holed (cells:List T):Option (Nat×Step×List Step)->List T
 | none=>cells
 | some (off,st,q)=>match cells[off]? with
  | some (.ow sub l)=>cells.set off (.ow sub (setO sub l .any (st::q)))
  | _=>cells
def Rt.toR (r:Rt):Root:=⟨r.blk,holed (r.cells.map Tt.toT) r.hole⟩
structure St where
 nx:Nat
 t:List (Nat×Nat×At)
 m:List (Nm×Nat×Rt)
def St.toS (s:St):S:=⟨s.t.map fun x=>(x.1,x.2.2.toV),s.m.map fun x=>(x.1,x.2.2.toR)⟩
def gtA:List (Nat×Nat×At)->Nat->At
 | [],_=>.any
 | (k,_,v)::t,i=>match Nat.beq k i with
  | true=>v
  | false=>gtA t i
def getM:List (Nm×Nat×Rt)->Nm->Option Rt
 | [],_=>none
 | (k,_,r)::m,n=>if k=n then some r else getM m n
def setM:List (Nm×Nat×Rt)->Nm->Nat->Rt->List (Nm×Nat×Rt)
 | [],_,_,_=>[]
 | (k,j,x)::m,n,i,r=>if k=n then (k,i,r)::m else (k,j,x)::setM m n i r
def delM:List (Nm×Nat×Rt)->Nm->List (Nm×Nat×Rt)
 | [],_=>[]
 | (k,j,x)::m,n=>if k=n then delM m n else (k,j,x)::delM m n
theorem gtA_toS (i:Nat):∀ t:List (Nat×Nat×At),getT (t.map fun x=>(x.1,x.2.2.toV)) i=(gtA t i).toV
 | []=>rfl
 | (k,j,v)::t=>by
  simp only [List.map_cons,getT,gtA]
  by_cases h:k=i
  ·subst h; rw [if_pos rfl,Nat.beq_refl]
  ·rw [if_neg h]
   have:Nat.beq k i=false:=by
    cases hb:Nat.beq k i
    ·rfl
    ·exact absurd (Nat.eq_of_beq_eq_true hb) h
   rw [this]; exact gtA_toS i t
abbrev toM (m:List (Nm×Nat×Rt)):Mm:=m.map fun x=>(x.1,x.2.2.toR)
theorem getM_toM (n:Nm):∀ m:List (Nm×Nat×Rt),getR (toM m) n=(getM m n).map Rt.toR
 | []=>rfl
 | (k,j,v)::m=>by
  simp only [toM,List.map_cons,getR,getM]
  by_cases h:k=n
  ·rw [if_pos h,if_pos h]; rfl
  ·rw [if_neg h,if_neg h]; exact getM_toM n m
theorem setM_toM (n:Nm) (i:Nat) (r:Rt):∀ m:List (Nm×Nat×Rt),toM (setM m n i r)=setR (toM m) n r.toR
 | []=>rfl
 | (k,j,v)::m=>by
  simp only [toM,List.map_cons,setR,setM]
  by_cases h:k=n
  ·rw [if_pos h,if_pos h]; rfl
  ·rw [if_neg h,if_neg h,List.map_cons]; exact congrArg _ (setM_toM n i r m)
abbrev ND (m:List (Nm×Nat×Rt)):Prop:=(m.map (·.1)).Nodup
theorem delM_id (n:Nm):∀ m:List (Nm×Nat×Rt),n ∉ m.map (·.1)->delM m n=m
 | [],_=>rfl
 | (k,j,v)::m,h=>by
  simp only [List.map_cons,List.mem_cons,not_or] at h
  simp only [delM]
  rw [if_neg (fun e=>h.1 e.symm),delM_id n m h.2]
theorem delM_toM (n:Nm):∀ m:List (Nm×Nat×Rt),ND m->toM (delM m n)=delR (toM m) n
 | [],_=>rfl
 | (k,j,v)::m,hn=>by
  have hn':k ∉ m.map (·.1)/\(m.map (·.1)).Nodup:=by simpa [ND] using hn
  simp only [toM,List.map_cons,delR,delM]
  by_cases h:k=n
  ·subst h; rw [if_pos rfl,if_pos rfl,delM_id k m hn'.1]
  ·rw [if_neg h,if_neg h,List.map_cons]; exact congrArg _ (delM_toM n m hn'.2)
def St.put (s:St):Option Tmp->At->St
 | none,_=>s
 | some d,v=>⟨s.nx+1,(d,s.nx,v)::s.t,s.m⟩
end Go.Am
end

section
namespace Go.Am
def Tt.kill (bad:Bool->Pl->Bool):Tt->Tt
 | .pl p=>if bad false p then .any else .pl p
 | .rf p=>if bad true p then .any else .rf p
 | t=>t
def A1.kill (bad:Bool->Pl->Bool):A1->A1
 | .c t=>.c (t.kill bad)
 | .agg ts=>.agg (ts.map (·.kill bad))
def At.kill (bad:Bool->Pl->Bool):At->At
 | .one x=>.one (x.kill bad)
 | .tup xs=>.tup (xs.map (·.kill bad))
 | .any=>.any
def Tt.ment (n:Nm):Tt->Bool
 | .pl p=>decide (p.root=n)
 | .rf p=>decide (p.root=n)
 | _=>false
def Tt.hit (bad:Bool->Pl->Bool):Tt->Bool
 | .pl p=>bad false p
 | .rf p=>bad true p
 | _=>false
def A1.hit (bad:Bool->Pl->Bool):A1->Bool
 | .c t=>t.hit bad
 | .agg ts=>ts.any (·.hit bad)
def At.hit (bad:Bool->Pl->Bool):At->Bool
 | .one x=>x.hit bad
 | .tup xs=>xs.any (·.hit bad)
 | .any=>false
def Rt.kill (bad:Bool->Pl->Bool) (r:Rt):Rt:=⟨r.blk,r.cells.map (·.kill bad),r.hole⟩
def stp:Bool->Nat->Nat->Nat
 | true,i,_=>i
 | false,_,j=>j
def killA (bad:Bool->Pl->Bool) (nx:Nat) (t:List (Nat×Nat×At)):List (Nat×Nat×At):=t.map fun x=>(x.1,stp (x.2.2.hit bad) nx x.2.1,x.2.2.kill bad)
def killMm (bad:Bool->Pl->Bool) (nx:Nat) (m:List (Nm×Nat×Rt)):List (Nm×Nat×Rt):=m.map fun x=>(x.1,stp (x.2.2.cells.any (·.hit bad)) nx x.2.1,x.2.2.kill bad)
def St.drop (s:St) (n:Nm):St:=⟨s.nx+1,killA (badR n) s.nx s.t,killMm (badR n) s.nx (delM s.m n)⟩
def St.fresh (s:St) (n:Nm):St:=match getM s.m n with
 | none=>s
 | some _=>s.drop n
def St.root (s:St) (n:Nm) (r:Rt):St:=⟨s.nx+1,s.t,(n,s.nx,r)::s.m⟩
def Tt.frz (q:Pl) (u:U) (l:List (El u)):Tt->Tt
 | .rf p=>match p with
  | ⟨n,o,[]⟩=>if n=q.root/\o=q.off then .d (.li u l) else (Tt.rf ⟨n,o,[]⟩).kill (thr q)
  | p=>(Tt.rf p).kill (thr q)
 | t=>t.kill (thr q)
def A1.map (f:Tt->Tt):A1->A1
 | .c t=>.c (f t)
 | .agg ts=>.agg (ts.map f)
def At.map (f:Tt->Tt):At->At
 | .one x=>.one (x.map f)
 | .tup xs=>.tup (xs.map (·.map f))
 | .any=>.any
def setCell (m:List (Nm×Nat×Rt)) (n:Nm) (i:Nat) (off:Nat) (t:Tt):List (Nm×Nat×Rt):=match getM m n with
 | some r=>setM m n i { r with cells:=r.cells.set off t }
 | none=>m
def thrF (q:Pl) (rf:Bool) (p:Pl):Bool:=thr q rf p||(rf&&decide (p.root=q.root/\p.off=q.off))
def frzPt (s:St) (q:Pl):St:=
 match q.path,getM s.m q.root with
 | [],some r=>match r.hole,r.cells[q.off]? with
  | none,some (.ow _ u l)=>⟨s.nx+1,s.t.map fun x=>(x.1,stp (x.2.2.hit (thrF q)) s.nx x.2.1,x.2.2.map (Tt.frz q u l)),
    setCell (killMm (thr q) s.nx (setCell s.m q.root s.nx q.off .any)) q.root s.nx q.off (.d (.li u l))⟩
  | _,_=>s
 | _,_=>s
def frzTt (s:St):Tt->St
 | .rf p=>frzPt s p
 | _=>s
def frzTts:St->List Tt->St
 | s,[]=>s
 | s,t::ts=>frzTts (frzTt s t) ts
def frzAt (s:St):At->St
 | .one (.c t)=>frzTt s t
 | .one (.agg ts)=>frzTts s ts
 | _=>s
def frzAts (s:St):List At->St
 | []=>s
 | v::vs=>frzAts (frzAt s v) vs
def mkC (k:IntKind) (n:Int):C:=match k with
 | .u8=>.b (UInt8.ofNat n.toNat)
 | k=>.i k n
def intOf:C->Option (IntKind×Int)
 | .i k n=>match k with
  | .u8=>none
  | k=>some (k,n)
 | .b x=>some (.u8,(x.toNat:Int))
 | _=>none
def cstTt:Value->Tt
 | .bool b=>.d (.bo b)
 | .int k n=>match k with
  | .u8=>if 0<=n/\n < 256 then .d (.b (UInt8.ofNat n.toNat)) else .any
  | k=>.d (.i k n)
 | .string s=>.d (.s s.data.toList)
 | .slice none 0 0=>.nil
 | .pointer none=>.d (.v (.pointer none))
 | .map none=>.d (.v (.map none))
 | .nilFunc=>.d (.v .nilFunc)
 | .nilIface=>.d (.v .nilIface)
 | .func f a b=>.d (.v (.func f a b))
 | _=>.any
def cstA:Value->At
 | .agg cs=>.one (.agg (cs.toList.map cstTt))
 | v=>.one (.c (cstTt v))
abbrev sct (x:C):At:=.one (.c (.d x))
def globC (k:Nat):Option (List (List UInt8)):=match globT k with
 | none=>none
 | some _=>some gw
def evA (s:St):Operand->At
 | .tmp t=>gtA s.t t
 | .const v=>cstA v
 | .func f=>sct (.v (.func (.func f) #[] #[]))
 | .global g=>match globC g with
  | some l=>.one (.c (.ga .s l 0))
  | none=>.any
def pickT (c x y:At) (k:At->Prop):Prop:=
 match c with
 | .one (.c (.d (.bo b)))=>if b=true then k x else k y
 | _=>False
def numT (op:BinOp) (k:IntKind) (a b:Int) (K:C->Prop):Prop:=
 match op with
 | .add=>K (mkC k (k.wrap (a+b)))
 | .sub=>K (mkC k (k.wrap (a-b)))
 | .mul=>K (mkC k (k.wrap (a*b)))
 | .quo=>b≠0/\K (mkC k (k.wrap (a.tdiv b)))
 | .rem=>b≠0/\K (mkC k (a.tmod b))
 | .and=>K (mkC k (k.wrap (BitVec.ofInt k.bits a &&& BitVec.ofInt k.bits b).toNat))
 | .or=>K (mkC k (k.wrap (BitVec.ofInt k.bits a ||| BitVec.ofInt k.bits b).toNat))
 | .xor=>K (mkC k (k.wrap (BitVec.ofInt k.bits a ^^^ BitVec.ofInt k.bits b).toNat))
 | .andNot=>K (mkC k (k.wrap (BitVec.ofInt k.bits a &&& ~~~BitVec.ofInt k.bits b).toNat))
 | .shl=>0<=b/\K (mkC k (k.wrap (a*2 ^ (min b.toNat k.bits))))
 | .shr=>0<=b/\K (mkC k (a.fdiv (2 ^ (min b.toNat k.bits))))
 | .eql=>K (.bo (decide (a=b)))
 | .neq=>K (.bo (!decide (a=b)))
 | .lss=>K (.bo (decide (a<b)))
 | .leq=>K (.bo (decide (a<=b)))
 | .gtr=>K (.bo (decide (b<a)))
 | .geq=>K (.bo (decide (b<=a)))
def isSh:BinOp->Bool
 | .shl=>true
 | .shr=>true
 | _=>false
def binC (op:BinOp) (x y:C) (K:C->Prop):Prop:=
 match x,y with
 | .s a,.s b=>match op with
  | .add=>a.length+b.length<=4611686018427387904/\K (.s (a++b))
  | .eql=>K (.bo (decide (a=b)))
  | .neq=>K (.bo (!decide (a=b)))
  | .lss=>K (.bo (Op.bytesLess a b))
  | .leq=>K (.bo (Op.bytesLess a b||decide (a=b)))
  | .gtr=>K (.bo (!(Op.bytesLess a b||decide (a=b))))
  | .geq=>K (.bo (!Op.bytesLess a b))
  | _=>False
 | x,y=>match intOf x,intOf y with
  | some (k,a),some (k',b)=>if isSh op=true\/k=k' then numT op k a b K else False
  | _,_=>False
def eqC (ck:CK) (x y:C):Option Bool:=
 match ck with
 | .i=>match intOf x,intOf y with
  | some (k,a),some (k',b)=>if k=k' then some (decide (a=b)) else none
  | _,_=>none
 | .s=>match x,y with
  | .s a,.s b=>some (decide (a=b))
  | _,_=>none
 | .b=>match x,y with
  | .bo a,.bo b=>some (a==b)
  | _,_=>none
def eqCs:List (Nat×CK)->List C->List C->Option Bool
 | [],_,_=>some true
 | (o,ck)::l,xs,ys=>match xs[o]?,ys[o]? with
  | some x,some y=>match eqC ck x y,l with
   | some b,[]=>some b
   | some b,l=>match eqCs l xs ys with
    | some r=>some (b&&r)
    | none=>none
   | none,_=>none
  | _,_=>none
def TC:Tt->C
 | .d c=>c
 | _=>.any
def binT (P:Program) (op:BinOp) (t:TypeId) (x y:At) (k:At->Prop):Prop:=
 match x,y with
 | .one (.c (.d (.bo a))),.one (.c (.d (.bo b)))=>match (ty P t).k with
  | .bool=>match op with
   | .eql=>k (sct (.bo (a==b)))
   | .neq=>k (sct (.bo (!(a==b))))
   | _=>False
  | _=>False
 | .one (.c (.d a)),.one (.c (.d b))=>binC op a b fun d=>k (sct d)
 | .one (.agg xs),.one (.agg ys)=>match eqTab P t with
  | some l=>match eqCs l (xs.map TC) (ys.map TC),op with
   | some b,.eql=>k (sct (.bo b))
   | some b,.neq=>k (sct (.bo (!b)))
   | _,_=>False
  | none=>False
 | _,_=>False
def unT (op:UnOp) (x:At) (k:At->Prop):Prop:=
 match op,x with
 | .not,.one (.c (.d (.bo b)))=>k (sct (.bo (!b)))
 | .neg,.one (.c (.d c))=>match intOf c with
  | some (κ,n)=>k (sct (mkC κ (κ.wrap (0-n))))
  | none=>False
 | .xor,.one (.c (.d c))=>match intOf c with
  | some (κ,n)=>k (sct (mkC κ (κ.wrap (BitVec.ofInt κ.bits (if κ.signed then -1 else κ.max) ^^^ BitVec.ofInt κ.bits n).toNat)))
  | none=>False
 | _,_=>False
def extractT (x:At) (i:Nat) (k:At->Prop):Prop:=
 match x with
 | .tup vs=>match vs[i]? with
  | some v=>k (.one v)
  | none=>False
 | _=>False
def inT (sub:List Sh) (u:U) (l:List (El u)) (n:Nat):List Step->Option (List Tt)
 | []=>none
 | [st]=>match Nat.ble (st.off+n) sub.length with
  | true=>some (List.zipWith (fun s c=>match s,c with
    | Sh.fr,x=>Tt.d x
    | Sh.ow s,C.li u' l'=>Tt.ow s u' l'
    | _,_=>Tt.any) ((sub.drop st.off).take n) (((flat u (l.getD st.idx (dflt u))).drop st.off).take n))
  | false=>none
 | st::st'::r=>match sub[st.off]?,(flat u (l.getD st.idx (dflt u)))[st.off]? with
  | some (.ow s),some (.li u' l')=>inT s u' l' n (st'::r)
  | _,_=>none
def okHole:Option (Nat×Step×List Step)->List Step->Bool
 | none,_=>true
 | some (_,_,q'),p=>Nat.blt p.length (q'.length+1)
def atT (m:List (Nm×Nat×Rt)) (p:Pl) (n:Nat):Option (List Tt):=
 match getM m p.root with
 | none=>none
 | some r=>match p.path with
  | []=>match Nat.ble (p.off+n) r.cells.length with
   | true=>some ((r.cells.drop p.off).take n)
   | false=>none
  | st::q=>match okHole r.hole (st::q),r.cells[p.off]? with
   | true,some (.ow sub u l)=>inT sub u l n (st::q)
   | _,_=>none
def refTt (q:Pl):Tt->Tt
 | .ow _ _ _=>.rf q
 | .mp _ _ _=>.rf q
 | t=>t
def refTts (p:Pl) (ts:List Tt):List Tt:=ts.zipIdx.map fun x=>refTt (p.add x.2) x.1
def sliceAt (m:List (Nm×Nat×Rt)) (p:Pl):Option ((_:List Sh)×(u:U)×List (El u)):=
 match atT m p 1 with
 | some [.ow sh u l]=>some ⟨sh,u,l⟩
 | _=>none
def gift:Option (Nat×Bool)->Nat->Prop->Prop
 | none,n,q=>n<=4611686018427387904->q
 | some _,_,q=>q
def lenT (gd:Option (Nat×Bool)) (m:List (Nm×Nat×Rt)) (x:At) (k:Nat->Prop):Prop:=
 match x with
 | .one (.c (.d (.s l)))=>gift gd l.length (k l.length)
 | .one (.c (.d (.li _ l)))=>gift gd l.length (k l.length)
 | .one (.c .nil)=>k 0
 | .one (.c (.rf p))=>match sliceAt m p with
  | some ⟨_,_,l⟩=>gift gd l.length (k l.length)
  | _=>False
 | _=>False
def strAtT (x i:At) (k:At->Prop):Prop:=
 match x,i with
 | .one (.c (.d (.s l))),.one (.c (.d (.i _ n)))=>(0<=n/\n.toNat<l.length)/\k (sct (.b (l.getD n.toNat 0)))
 | _,_=>False
def boundT (x:Option At) (d:Nat) (k:Nat->Prop):Prop:=
 match x with
 | none=>k d
 | some (.one (.c (.d (.i _ n))))=>0<=n/\k n.toNat
 | _=>False
def sliceT (P:Program) (t:TypeId) (x:At) (lo hi:Option At) (k:At->Prop):Prop:=
 match x with
 | .one (.c (.d (.s l)))=>match (ty P t).k with
  | .str=>boundT lo 0 fun a=>boundT hi l.length fun b=>(a<=b/\b<=l.length)/\k (sct (.s ((l.drop a).take (b-a))))
  | _=>False
 | .one (.c (.d (.li u l)))=>match (ty P t).k with
  | .sl e=>match (ty P e).ok&&Nat.beq (nc u) (ty P e).size with
   | true=>boundT lo 0 fun a=>boundT hi l.length fun b=>(a<=b/\b<=l.length)/\k (sct (.li u ((l.drop a).take (b-a))))
   | false=>False
  | _=>False
 | .one (.c .nil)=>match (ty P t).k with
  | .sl e=>match (ty P e).ok with
   | true=>boundT lo 0 fun a=>boundT hi 0 fun b=>a<=b/\b<=0/\k (.one (.c .nil))
   | false=>False
  | _=>False
 | _=>False
def hasRoomT (m:List (Nm×Nat×Rt)) (p:Pl) (n:Nat):Bool:=
 match getM m p.root with
 | none=>false
 | some r=>match p.path,r.cells[p.off]? with
  | [],_=>Nat.ble (n+1) (r.cells.length-p.off)
  | st::q,some (.ow sub _ _)=>match roomO sub (st::q) with
   | some k=>Nat.ble (n+1) k
   | none=>false
  | _,_=>false
def fieldAddrT (P:Program) (m:List (Nm×Nat×Rt)) (t:TypeId) (x:At) (i:Nat) (k:At->Prop):Prop:=
 match (ty P t).k with
 | .st fs=>match fs[i]? with
  | some (off,size+1,_)=>match x with
   | .one (.c (.pl p))=>match hasRoomT m p off with
    | true=>k (.one (.c (.pl (p.add off))))
    | false=>False
   | .one (.c (.el row o))=>k (.one (.c (.el row (o+off))))
   | _=>False
  | _=>False
 | _=>False
def indexAddrT (P:Program) (m:List (Nm×Nat×Rt)) (t:TypeId) (x i:At) (k:At->Prop):Prop:=
 match i with
 | .one (.c (.d (.i _ n)))=>match (ty P t).k with
  | .sl e=>match x with
   | .one (.c (.d (.li u l)))=>match (ty P e).ok&&Nat.beq (nc u) (ty P e).size with
    | true=>(0<=n/\n.toNat<l.length)/\k (.one (.c (.el (flat u (l.getD n.toNat (dflt u))) 0)))
    | false=>False
   | .one (.c (.rf p))=>match (ty P e).ok&&Nat.ble 1 (ty P e).size with
    | true=>match sliceAt m p with
     | some ⟨sh,_,l⟩=>match Nat.beq sh.length (ty P e).size with
      | true=>(0<=n/\n < (l.length:Int))/\k (.one (.c (.pl (p.at n.toNat (ty P e).size))))
      | false=>False
     | _=>False
    | false=>False
   | _=>False
  | .ar N e=>match x with
   | .one (.c (.ga u l i))=>match (ty P e).ok&&Nat.beq (ty P e).size 1&&leaf u with
    | true=>(0<=n/\n < (N:Int))/\k (.one (.c (.ga u l (n.toNat+i))))
    | false=>False
   | .one (.c (.pl p))=>match (ty P e).ok&&hasRoomT m p (n.toNat*(ty P e).size) with
    | true=>(0<=n/\n < (N:Int))/\k (.one (.c (.pl (p.add (n.toNat*(ty P e).size)))))
    | false=>False
   | _=>False
  | _=>False
 | _=>False
def loadT (P:Program) (m:List (Nm×Nat×Rt)) (t:TypeId) (x:At) (k:At->Prop):Prop:=
 match (ty P t).ok with
 | true=>match x with
  | .one (.c (.el row o))=>match (ty P t).agg with
   | true=>match Nat.ble (o+(ty P t).size) row.length with
    | true=>k (.one (.agg (((row.drop o).take (ty P t).size).map Tt.d)))
    | false=>False
   | false=>match row[o]? with
    | some c=>k (sct c)
    | none=>False
  | .one (.c (.ga u l i))=>match (ty P t).agg,leaf u with
   | false,true=>i<l.length/\k (sct (cellOf u (l.getD i (dflt u))))
   | _,_=>False
  | .one (.c (.pl p))=>match (ty P t).agg with
   | true=>match atT m p (ty P t).size with
    | some ts=>k (.one (.agg (refTts p ts)))
    | none=>False
   | false=>match atT m p 1 with
    | some [t']=>k (.one (.c (refTt p t')))
    | _=>False
  | _=>False
 | false=>False
def fieldT (P:Program) (t:TypeId) (x:At) (i:Nat) (k:At->Prop):Prop:=
 match (ty P t).k,x with
 | .st fs,.one (.agg ts)=>match fs[i]? with
  | some (off,_,some false)=>match ts[off]? with
   | some t'=>k (.one (.c t'))
   | none=>False
  | some (off,size,some true)=>match Nat.ble (off+size) ts.length with
   | true=>k (.one (.agg ((ts.drop off).take size)))
   | false=>False
  | _=>False
 | _,_=>False
def nilCheckT (x:At) (k:At->Prop):Prop:=
 match x with
 | .one (.c (.pl _))=>k x
 | .one (.c (.el _ _))=>k x
 | .one (.c (.ga _ _ _))=>k x
 | _=>False
def Tt.sure:Tt->Bool
 | .any=>false
 | .d .any=>false
 | _=>true
def cellsAt:At->Option (List Tt)
 | .one (.c t)=>some [t]
 | .one (.agg ts)=>some ts
 | _=>none
def fillTt (pl:Nat->Option (Nat×Nat)):List Tt->List (Nat×At)->Option (List Tt)
 | ts,[]=>some ts
 | ts,(i,x)::r=>match pl i,cellsAt x with
  | some (off,size),some cs=>match Nat.beq cs.length size&&Nat.ble (off+cs.length) ts.length&&cs.all Tt.sure with
   | true=>fillTt pl (overw ts off cs) r
   | false=>none
  | _,_=>none
def partsT (s:St) (ps:Array (Nat×Operand)):List (Nat×At):=ps.toList.map fun x=>(x.1,evA s x.2)
def buildT (P:Program) (t:TypeId) (parts:List (Nat×At)) (k:At->Prop):Prop:=
 match zst P t with
 | some (zs,places)=>match fillTt (places[·]?) (zs.map cstTt) parts with
  | some ts=>k (.one (.agg ts))
  | none=>False
 | none=>False
def convT (P:Program) (su du:TypeId) (x:At) (k:At->Prop):Prop:=
 match (ty P su).k,(ty P du).k with
 | .int _,.int κ=>match x with
  | .one (.c (.d c))=>match intOf c with
   | some (_,n)=>k (sct (mkC κ (κ.wrap n)))
   | none=>False
  | _=>False
 | .sl e,.str=>match (ty P e).k with
  | .int .u8=>match x with
   | .one (.c (.d (.li .b8 l)))=>k (sct (.s l))
   | .one (.c .nil)=>k (sct (.s []))
   | _=>False
  | _=>False
 | _,_=>False
def allocT (P:Program) (s:St) (t:TypeId) (d:Tmp) (k:St->Prop):Prop:=
 match zcells P t with
 | some (z::zs)=>match Nat.blt d 1000000 with
  | true=>k (((s.fresh (locN t d)).root (locN t d) ⟨true,(z::zs).map cstTt,none⟩).put (some d) (.one (.c (.pl ⟨locN t d,0,[]⟩))))
  | false=>False
 | _=>False
def boxT (s:St) (x:Operand) (d:Tmp) (k:St->Prop):Prop:=
 match cellsAt (evA (s.fresh (.loc d)) x) with
 | some (t::ts)=>match (t::ts).all Tt.sure&&Nat.blt d 1000000 with
  | true=>k (((s.fresh (.loc d)).root (.loc d) ⟨true,t::ts,none⟩).put (some d) (.one (.c (.pl ⟨.loc d,0,[]⟩))))
  | false=>False
 | _=>False
def Ut:=List (TypeId×U)
def Ut.get:Ut->TypeId->Option U
 | [],_=>none
 | (t,u)::r,i=>match Nat.beq t i with
  | true=>some u
  | false=>Ut.get r i
def canC (u:U) (c:Tt):Option (El u):=
 match c with
 | .d c=>ofCell u c
 | .nil=>match u with
  | .sl _=>some []
  | _=>none
 | _=>none
def canCs:(us:List U)->List Tt->Option (Fl us)
 | [],[]=>some ()
 | u::r,c::cs=>match canC u c,canCs r cs with
  | some x,some y=>some (Fl.cons u r x y)
  | _,_=>none
 | _,_=>none
def canU (u:U) (ts:List Tt):Option (El u):=
 match u with
 | .st n=>match canCs (sd n).fs ts with
  | some y=>some ((sd n).mkF y)
  | none=>none
 | u=>match ts with
  | [t]=>canC u t
  | _=>none
def canRows (u:U):List (List Tt)->Option (List (El u))
 | []=>some []
 | r::rs=>match canU u r,canRows u rs with
  | some x,some xs=>some (x::xs)
  | _,_=>none
def Tt.noRf:Tt->Bool
 | .rf _=>false
 | _=>true
def At.noRf:At->Bool
 | .one (.c t)=>t.noRf
 | .one (.agg ts)=>ts.all Tt.noRf
 | _=>true
def buildSliceT (P:Program) (E:Ut) (s0:St) (t:TypeId) (len:Nat) (ps:Array (Nat×Operand)) (d:Tmp) (k:St->Prop):Prop:=
 match (ty P t).k with
 | .sl e=>match E.get e,zcells P e with
  | some u,some _=>match (ty P e).ok&&Nat.beq (nc u) (ty P e).size&&Nat.ble (len*nc u) 16777216&&Nat.ble len 16777216 with
   | true=>
    let s1:=frzAts s0 (ps.toList.map fun x=>evA s0 x.2)
    let s:=s1.fresh (.gh d)
    match fillTt (fun i=>some (i*nc u,nc u)) (List.replicate (len*nc u) .any) (partsT s ps),(partsT s1 ps).all (fun x=>x.2.noRf) with
    | some ts,true=>match canRows u (chunk (nc u) len ts) with
     | some l=>k ((s.root (.gh d) ⟨false,[.ow (List.replicate (nc u) .fr) u l],none⟩).put (some d) (.one (.c (.rf ⟨.gh d,0,[]⟩))))
     | none=>False
    | _,_=>False
   | false=>False
  | _,_=>False
 | _=>False
def Tt.owned:Tt->Bool
 | .ow _ _ _=>true
 | .mp _ _ _=>true
 | _=>false
def rowT (u:U) (x:El u) (off:Nat) (c:C):Option (El u):=match (flat u x)[off]? with
 | some _=>unflat u ((flat u x).set off c)
 | none=>none
def setT1 (sub:List Sh) (u:U) (l:List (El u)) (t:Tt):List Step->Option (List (El u))
 | []=>none
 | [st]=>match sub[st.off]?,t with
  | some .fr,.d c=>match rowT u (l.getD st.idx (dflt u)) st.off c with
   | some x=>some (l.set st.idx x)
   | none=>none
  | some .fr,.nil=>match (flat u (l.getD st.idx (dflt u)))[st.off]? with
   | some (.li u' _)=>match rowT u (l.getD st.idx (dflt u)) st.off (.li u' []) with
    | some x=>some (l.set st.idx x)
    | none=>none
   | _=>none
  | _,_=>none
 | st::st'::r=>match sub[st.off]?,(flat u (l.getD st.idx (dflt u)))[st.off]? with
  | some (.ow s),some (.li u' l')=>match setT1 s u' l' t (st'::r) with
   | some l''=>match rowT u (l.getD st.idx (dflt u)) st.off (.li u' l'') with
    | some x=>some (l.set st.idx x)
    | none=>none
   | none=>none
  | _,_=>none
mutual
def shpEq:Sh->Sh->Bool
 | .fr,.fr=>true
 | .ow a,.ow b=>shpEqs a b
 | _,_=>false
def shpEqs:List Sh->List Sh->Bool
 | [],[]=>true
 | a::r,b::q=>shpEq a b&&shpEqs r q
 | _,_=>false
end
def fillH (sub:List Sh) (u:U) (l:List (El u)) (sh:List Sh) (v:U) (lv:List (El v)):List Step->Option (List (El u))
 | []=>none
 | [st]=>match sub[st.off]?,(flat u (l.getD st.idx (dflt u)))[st.off]? with
  | some (.ow s),some _=>match shpEqs s sh,rowT u (l.getD st.idx (dflt u)) st.off (.li v lv) with
   | true,some x=>some (l.set st.idx x)
   | _,_=>none
  | _,_=>none
 | st::st'::r=>match sub[st.off]?,(flat u (l.getD st.idx (dflt u)))[st.off]? with
  | some (.ow s),some (.li u' l')=>match fillH s u' l' sh v lv (st'::r) with
   | some l''=>match rowT u (l.getD st.idx (dflt u)) st.off (.li u' l'') with
    | some x=>some (l.set st.idx x)
    | none=>none
   | none=>none
  | _,_=>none
def frs (sub:List Sh) (off:Nat):Nat->Bool
 | 0=>true
 | n+1=>match sub[off]? with
  | some .fr=>frs sub (off+1) n
  | _=>false
def overC (cs:List C) (off:Nat):List Tt->Option (List C)
 | []=>some cs
 | .d c::r=>match c,cs[off]? with
  | .any,_=>none
  | c,some _=>overC (cs.set off c) (off+1) r
  | _,none=>none
 | .nil::r=>match cs[off]? with
  | some (.li u' _)=>overC (cs.set off (.li u' [])) (off+1) r
  | _=>none
 | _=>none
def setTs (sub:List Sh) (u:U) (l:List (El u)) (ts:List Tt):List Step->Option (List (El u))
 | []=>none
 | [st]=>match frs sub st.off ts.length,overC (flat u (l.getD st.idx (dflt u))) st.off ts with
  | true,some cs=>match unflat u cs with
   | some x=>some (l.set st.idx x)
   | none=>none
  | _,_=>none
 | st::st'::r=>match sub[st.off]?,(flat u (l.getD st.idx (dflt u)))[st.off]? with
  | some (.ow s),some (.li u' l')=>match setTs s u' l' ts (st'::r) with
   | some l''=>match rowT u (l.getD st.idx (dflt u)) st.off (.li u' l'') with
    | some x=>some (l.set st.idx x)
    | none=>none
   | none=>none
  | _,_=>none
def okTP (sub:List Sh) (u:U) (l:List (El u)):List Step->Prop->Prop
 | [],_=>False
 | [st],k=>st.idx<l.length/\k
 | st::st'::r,k=>match sub[st.off]?,(flat u (l.getD st.idx (dflt u)))[st.off]? with
  | some (.ow s),some (.li u' l')=>st.idx<l.length/\okTP s u' l' (st'::r) k
  | _,_=>False
def eqPath:List Step->List Step->Prop->Prop
 | [],[],p=>p
 | a::r,b::q,p=>match Nat.beq a.esz b.esz&&Nat.beq a.off b.off with
  | true=>a.idx=b.idx/\eqPath r q p
  | false=>False
 | _,_,_=>False
def putT (s:St) (p:Pl) (t:Tt) (k:St->Prop):Prop:=
 match getM s.m p.root with
 | none=>False
 | some r=>match p.path,r.hole,r.cells[p.off]? with
  | [],none,some t0=>match t0.owned with
   | false=>k ⟨s.nx+1,s.t,setM s.m p.root s.nx { r with cells:=r.cells.set p.off t }⟩
   | true=>False
  | st::q,none,some (.ow sub u l)=>match setT1 sub u l t (st::q) with
   | some l'=>okTP sub u l (st::q) (k ⟨s.nx+1,s.t,setM s.m p.root s.nx { r with cells:=r.cells.set p.off (.ow sub u l') }⟩)
   | none=>False
  | st::q,some (off,st',q'),some (.ow sub u l)=>match Nat.beq off p.off,t with
   | true,.ow sh v lv=>match fillH sub u l sh v lv (st::q) with
    | some l'=>okTP sub u l (st::q) (eqPath (st'::q') (st::q) (k ⟨s.nx+1,s.t,setM s.m p.root s.nx ⟨r.blk,r.cells.set p.off (.ow sub u l'),none⟩⟩))
    | none=>False
   | _,_=>False
  | _,_,_=>False
def isDN:Tt->Bool
 | .d _=>true
 | .nil=>true
 | _=>false
def rowSt (p:Pl) (ts:List Tt):Bool:=!p.path.isEmpty&&Nat.blt 1 ts.length&&ts.all isDN
def putRowT (s:St) (p:Pl) (ts:List Tt) (k:St->Prop):Prop:=
 match getM s.m p.root with
 | none=>False
 | some r=>match p.path,r.hole,r.cells[p.off]? with
  | st::q,none,some (.ow sub u l)=>match setTs sub u l ts (st::q) with
   | some l'=>okTP sub u l (st::q) (k ⟨s.nx+1,s.t,setM s.m p.root s.nx { r with cells:=r.cells.set p.off (.ow sub u l') }⟩)
   | none=>False
  | _,_,_=>False
def storesT (s:St) (p:Pl):List Tt->(St->Prop)->Prop
 | [],k=>k s
 | .rf q::ts,k=>match getM s.m q.root with
  | some ⟨false,[.ow sub u l],none⟩=>match q.path,decide (q.root=p.root),ts.all fun t=>!t.ment q.root with
   | [],false,true=>putT (s.drop q.root) p (.ow sub u l) fun s'=>storesT s' (p.add 1) ts k
   | _,_,_=>False
  | _=>False
 | .any::_,_=>False
 | .d .any::_,_=>False
 | t::ts,k=>putT s p t fun s'=>storesT s' (p.add 1) ts k
def storeT (P:Program) (s:St) (t:TypeId) (x v:At) (k:St->Prop):Prop:=
 match x,cellsAt v with
 | .one (.c (.pl p)),some ts=>match (ty P t).ok&&Nat.beq ts.length (ty P t).size&&hasRoomT s.m p (ts.length - 1) with
  | true=>match rowSt p ts with
   | true=>putRowT s p ts k
   | false=>storesT s p ts k
  | false=>False
 | _,_=>False
def takeT (s:St) (q:Pl):Option St:=
 match getM s.m q.root with
 | none=>none
 | some r=>match q.path,r.hole with
  | [],none=>some ⟨s.nx+1,killA (thr q) s.nx s.t,killMm (thr q) s.nx (setM s.m q.root s.nx { r with cells:=r.cells.set q.off .any })⟩
  | st::p,none=>some ⟨s.nx+1,killA (thr q) s.nx s.t,killMm (thr q) s.nx (setM s.m q.root s.nx { r with hole:=some (q.off,st,p) })⟩
  | _,_=>none
def srcT (u:U):At->Option (List (El u))
 | .one (.c .nil)=>some []
 | .one (.c (.d (.li u' l)))=>castL u' u l
 | .one (.c (.d (.s b)))=>match u with
  | .b8=>some b
  | _=>none
 | _=>none
def baseT (s:St) (u:U):At->Option (St×List Sh×List (El u))
 | .one (.c .nil)=>some (s,List.replicate (nc u) .fr,[])
 | .one (.c (.rf q))=>match sliceAt s.m q with
  | some ⟨sub,u',l⟩=>match castL u' u l,Nat.beq sub.length (nc u),takeT s q with
   | some l',true,some s'=>some (s',sub,l')
   | _,_,_=>none
  | none=>none
 | _=>none
def appendT (P:Program) (E:Ut) (s00:St) (t u0:TypeId) (x y:Operand) (d:Tmp) (k:St->Prop):Prop:=
 let s:=frzAt s00 (evA s00 y)
 match (ty P t).k with
 | .sl e=>match E.get e,zcells P e with
  | some u,some z=>match (ty P e).ok&&(ty P u0).k.isSS&&Nat.beq z.length (ty P e).size&&Nat.beq (nc u) (ty P e).size with
   | true=>match srcT u (evA s y),baseT s u (evA s x) with
    | some ys,some (s1,sub,l)=>match sub.all Sh.isFr with
     | true=>(l.length+ys.length<=4611686018427387904/\(l.length+ys.length)*(ty P e).bytes<=140737488355328) /\
      k (((s1.fresh (.gh d)).root (.gh d) ⟨false,[.ow sub u (l++ys)],none⟩).put (some d) (.one (.c (.rf ⟨.gh d,0,[]⟩))))
     | false=>False
    | _,_=>False
   | false=>False
  | _,_=>False
 | _=>False
def subOk:List Sh->List Tt->Bool
 | [],[]=>true
 | .fr::r,_::ts=>subOk r ts
 | .ow _::r,.nil::ts=>subOk r ts
 | _,_=>false
def buildSliceT2 (P:Program) (E:Ut) (sub:List Sh) (s0:St) (t:TypeId) (len:Nat) (ps:Array (Nat×Operand)) (d:Tmp) (k:St->Prop):Prop:=
 match (ty P t).k with
 | .sl e=>match E.get e,zcells P e with
  | some u,some _=>match (ty P e).ok&&Nat.beq (nc u) (ty P e).size&&Nat.ble (len*nc u) 16777216&&Nat.ble len 16777216&&Nat.beq sub.length (nc u) with
   | true=>
    let s1:=frzAts s0 (ps.toList.map fun x=>evA s0 x.2)
    let s:=s1.fresh (.gh d)
    match fillTt (fun i=>some (i*nc u,nc u)) (List.replicate (len*nc u) .any) (partsT s ps),(partsT s1 ps).all (fun x=>x.2.noRf) with
    | some ts,true=>match canRows u (chunk (nc u) len ts),subOk (List.replicate len sub).flatten ts with
     | some l,true=>k ((s.root (.gh d) ⟨false,[.ow sub u l],none⟩).put (some d) (.one (.c (.rf ⟨.gh d,0,[]⟩))))
     | _,_=>False
    | _,_=>False
   | false=>False
  | _,_=>False
 | _=>False
def rfOne:List Tt->Nat->Option (Nat×Pl)
 | [],_=>none
 | .rf q::_,j=>some (j,q)
 | _::r,j=>rfOne r (j+1)
def rfPart (sub:List Sh) (s:St) (ps:Array (Nat×Operand)):Bool:=match partsT s ps with
 | [(0,.one (.agg ts))]=>match rfOne ts 0 with
  | some (j,_)=>match sub[j]? with
   | some (.ow _)=>true
   | _=>false
  | none=>false
 | _=>false
def buildSliceT3 (P:Program) (E:Ut) (sub:List Sh) (s:St) (t:TypeId) (len:Nat) (ps:Array (Nat×Operand)) (d:Tmp) (k:St->Prop):Prop:=
 match (ty P t).k with
 | .sl e=>match E.get e,zcells P e,partsT s ps with
  | some u,some _,[(0,.one (.agg ts))]=>match rfOne ts 0 with
   | some (j,q)=>match sub[j]?,sliceAt s.m q with
    | some (.ow sub'),some ⟨_,u',_⟩=>match baseT s u' (.one (.c (.rf q))) with
     | some (s1,sub3,l')=>match (ty P e).ok&&Nat.beq (nc u) (ty P e).size&&Nat.ble (nc u) 16777216&&Nat.beq len 1&&Nat.beq sub.length (nc u)&&Nat.beq ts.length (nc u)&&(shpEqs sub3 sub'&&((ts.set j .nil).all Tt.noRf&&subOk sub (ts.set j .nil))),canRows u [ts.set j (.d (.li u' l'))] with
      | true,some l=>k (((s1.fresh (.gh d)).root (.gh d) ⟨false,[.ow sub u l],none⟩).put (some d) (.one (.c (.rf ⟨.gh d,0,[]⟩))))
      | _,_=>False
     | none=>False
    | _,_=>False
   | none=>False
  | _,_,_=>False
 | _=>False
def appendT2 (P:Program) (E:Ut) (s:St) (t u0:TypeId) (x y:Operand) (d:Tmp) (k:St->Prop):Prop:=
 match (ty P t).k with
 | .sl e=>match E.get e,zcells P e with
  | some u,some z=>match (ty P e).ok&&(ty P u0).k.isSS&&Nat.beq z.length (ty P e).size&&Nat.beq (nc u) (ty P e).size with
   | true=>match baseT s u (evA s y) with
    | some (s1,sub1,ys)=>match baseT s1 u (evA s1 x) with
     | some (s2,sub,l)=>match shpEqs sub1 sub with
      | true=>(l.length+ys.length<=4611686018427387904/\(l.length+ys.length)*(ty P e).bytes<=140737488355328) /\
       k (((s2.fresh (.gh d)).root (.gh d) ⟨false,[.ow sub u (l++ys)],none⟩).put (some d) (.one (.c (.rf ⟨.gh d,0,[]⟩))))
      | false=>False
     | none=>False
    | none=>False
   | false=>False
  | _,_=>False
 | _=>False
def owBase (s:St):At->Bool
 | .one (.c (.rf q))=>match sliceAt s.m q with
  | some ⟨sub,_,_⟩=>!(sub.all Sh.isFr)
  | none=>false
 | _=>false
def frPath (sub:List Sh):List Step->Bool
 | []=>false
 | [st]=>match sub[st.off]? with
  | some .fr=>true
  | _=>false
 | st::st'::r=>match sub[st.off]? with
  | some (.ow s)=>frPath s (st'::r)
  | _=>false
def frCell (m:List (Nm×Nat×Rt)) (p:Pl):Bool:=
 match getM m p.root with
 | none=>false
 | some r=>match p.path,r.hole,r.cells[p.off]? with
  | st::q,none,some (.ow sub _ _)=>frPath sub (st::q)
  | _,_,_=>false
def blkRt (m:List (Nm×Nat×Rt)) (n:Nm):Bool:=
 match getM m n with
 | some r=>r.blk
 | none=>false
def frzSt (s:St) (p:Pl):List Tt->St
 | []=>s
 | .rf q::ts=>match frCell s.m p||blkRt s.m q.root with
  | true=>frzSt (frzPt s q) (p.add 1) ts
  | false=>frzSt s (p.add 1) ts
 | _::ts=>frzSt s (p.add 1) ts
def frzTo (s:St) (x v:At):St:=
 match x,cellsAt v with
 | .one (.c (.pl p)),some ts=>frzSt s p ts
 | _,_=>s
abbrev PKt:=Value->St->Prop
abbrev CKt:=PKt->St->List Operand->(St->At->Prop)->Prop
abbrev CTt:=List (Nat×CKt)
def CTt.get:CTt->Nat->Option CKt
 | [],_=>none
 | (f,c)::r,i=>match Nat.beq f i with
  | true=>some c
  | false=>CTt.get r i
def isStrA:At->Bool
 | .one (.c (.d (.s _)))=>true
 | _=>false
structure En where
 P:Program
 E:Ut
 cs:CTt
 sh:List (TypeId×List Sh)
 pk:PKt
def shGet:List (TypeId×List Sh)->TypeId->Option (List Sh)
 | [],_=>none
 | (t,u)::r,i=>match Nat.beq t i with
  | true=>some u
  | false=>shGet r i
def shOf (e:En) (t:TypeId):Option (List Sh):=match (ty e.P t).k with
 | .sl el=>shGet e.sh el
 | _=>none
def movT (tm:Nat):List Sh->Nat->St->St
 | [],_,s=>s
 | .fr::r,j,s=>movT tm r (j+1) s
 | .ow _::r,j,s=>match gtA s.t tm with
  | .one (.agg ts)=>match ts[j]? with
   | some (.rf q)=>match q.path,blkRt s.m q.root,sliceAt s.m q with
    | [],true,some ⟨_,u,_⟩=>match baseT s u (.one (.c (.rf q))) with
     | some (s1,sub,l)=>
      let s2:=(s1.fresh (.gh (700000+j))).root (.gh (700000+j)) ⟨false,[.ow sub u l],none⟩
      match gtA s2.t tm with
      | .one (.agg ts2)=>movT tm r (j+1) (s2.put (some tm) (.one (.agg (ts2.set j (.rf ⟨.gh (700000+j),0,[]⟩)))))
      | _=>movT tm r (j+1) s2
     | none=>movT tm r (j+1) s
    | _,_,_=>movT tm r (j+1) s
   | _=>movT tm r (j+1) s
  | _=>s
def movS (sh:List (TypeId×List Sh)) (s:St) (t:TypeId) (v:Operand):St:=match shGet sh (t+1000000),v with
 | some l,.tmp tm=>movT tm l 0 s
 | _,_=>s
def fnAt:At->Option Nat
 | .one (.c (.d (.v (.func (.func f) a b))))=>match a.size,b.size with
  | 0,0=>some f
  | _,_=>none
 | _=>none
def uOf (P:Program) (E:Ut) (t:TypeId):Option U:=match (ty P t).k with
 | .str=>some .s
 | .bool=>some .bo
 | .int .u8=>some .b8
 | .int k=>some (.i k)
 | .sl e=>match E.get e with
  | some u=>some (.sl u)
  | none=>none
 | _=>none
def okKey (P:Program) (t:TypeId):U->Bool
 | .s=>decide ((ty P t).k=.str)
 | .bo=>decide ((ty P t).k=.bool)
 | .i k=>decide ((ty P t).k=.int k)
 | _=>false
def keyE:(u:U)->El u->El u->Bool
 | .i _,a,b=>decide ((a:Int)=b)
 | .bo,a,b=>(a:Bool)==b
 | .s,a,b=>decide ((a:List UInt8)=b)
 | _,_,_=>false
def lookE {β:Type} (ku:U):List (El ku×β)->El ku->Option β
 | [],_=>none
 | x::l,k=>match keyE ku x.1 k with
  | true=>some x.2
  | false=>lookE ku l k
def insE {β:Type} (ku:U):List (El ku×β)->El ku->β->List (El ku×β)
 | [],k,v=>[(k,v)]
 | x::l,k,v=>match keyE ku x.1 k with
  | true=>(k,v)::l
  | false=>x::insE ku l k v
def zOK (P:Program) (t:TypeId) (u:U):Bool:=match (P.info? t).bind (·.zero),u with
 | some (.int k n),.i k'=>decide (k=k')&&decide (n=0)&&decide (k≠.u8)
 | some (.bool b),.bo=>!b
 | some (.string s),.s=>s.data.toList.isEmpty
 | some (.slice none 0 0),.sl _=>true
 | _,_=>false
def mapAtT (m:List (Nm×Nat×Rt)) (p:Pl):Option ((ku:U)×(vu:U)×List (El ku×El vu)):=match getM m p.root with
 | none=>none
 | some r=>match p.path,r.hole,r.cells[p.off]? with
  | [],none,some (.mp ku vu l)=>some ⟨ku,vu,l⟩
  | _,_,_=>none
def resM (vu:U) (ok:Bool) (r:Option (El vu)):At:=match ok with
 | true=>.tup [.c (.d (cellOf vu (r.getD (dflt vu)))),.c (.d (.bo r.isSome))]
 | false=>.one (.c (.d (cellOf vu (r.getD (dflt vu)))))
def makeMapT (P:Program) (E:Ut) (s:St) (t:TypeId) (d:Tmp) (k:St->Prop):Prop:=match (ty P t).k with
 | .mp kt et=>match uOf P E kt,uOf P E et with
  | some ku,some vu=>k (((s.fresh (.gh d)).root (.gh d) ⟨false,[.mp ku vu []],none⟩).put (some d) (.one (.c (.rf ⟨.gh d,0,[]⟩))))
  | _,_=>False
 | _=>False
def mapGetT (P:Program) (m:List (Nm×Nat×Rt)) (t:TypeId) (x key:At) (ok:Bool) (k:At->Prop):Prop:=match (ty P t).k with
 | .mp kt et=>match x,key with
  | .one (.c (.rf p)),.one (.c (.d c))=>match mapAtT m p with
   | some ⟨ku,vu,l⟩=>match okKey P kt ku&&zOK P et vu,ofCell ku c with
    | true,some kx=>k (resM vu ok (lookE ku l kx))
    | _,_=>False
   | none=>False
  | _,_=>False
 | _=>False
def mapSetT (P:Program) (s:St) (t:TypeId) (x key v:At) (k:St->Prop):Prop:=match (ty P t).k with
 | .mp kt _=>match x,key,v with
  | .one (.c (.rf p)),.one (.c (.d c)),.one (.c tv)=>match mapAtT s.m p,getM s.m p.root with
   | some ⟨ku,vu,l⟩,some r=>match okKey P kt ku&&leaf vu,ofCell ku c,canU vu [tv] with
    | true,some kx,some vx=>k ⟨s.nx+1,s.t,setM s.m p.root s.nx { r with cells:=r.cells.set p.off (.mp ku vu (insE ku l kx vx)) }⟩
    | _,_,_=>False
   | _,_=>False
  | _,_,_=>False
 | _=>False
def rowOK:List Sh->U->Bool
 | [.fr],_=>true
 | [.ow _],.sl _=>true
 | _,_=>false
def sameOp:Operand->Operand->Bool
 | .tmp a,.tmp b=>Nat.beq a b
 | _,_=>false
def makeSliceT (e:En) (s:St) (t:TypeId) (n c:At) (same:Bool) (d:Tmp) (k:St->Prop):Prop:=match (ty e.P t).k,same with
 | .sl el,true=>match n with
  | .one (.c (.d (.i .i64 n)))=>match e.E.get el with
   | some u=>match zOK e.P el u&&Nat.beq (ty e.P el).size 1&&rowOK ((shGet e.sh el).getD [.fr]) u with
    | true=>(0<=n/\n<=4611686018427387904/\(ty e.P el).bytes*n.toNat<=281474976710656) /\
     k (((s.fresh (.gh d)).root (.gh d) ⟨false,[.ow ((shGet e.sh el).getD [.fr]) u (List.replicate n.toNat (dflt u))],none⟩).put (some d) (.one (.c (.rf ⟨.gh d,0,[]⟩))))
    | false=>False
   | none=>False
  | _=>False
 | _,_=>False
def preF (s:St) (o:Oper):St:=
 match o.op with
 | .convert _ _ x=>frzAt s (evA s x)
 | .slice _ x _ _ _=>frzAt s (evA s x)
 | _=>s
def qT (e:En) (o:Oper) (s:St) (k:At->Prop):Prop:=
 match o.op with
 | .move x=>k (evA s x)
 | .assign x=>k (evA s x)
 | .pick c x y=>pickT (evA s c) (evA s x) (evA s y) k
 | .binOp op t x y _=>binT e.P op t (evA s x) (evA s y) k
 | .unOp op _ x=>unT op (evA s x) k
 | .load t x=>loadT e.P s.m t (evA s x) k
 | .field t x i=>fieldT e.P t (evA s x) i k
 | .fieldAddr t x i=>fieldAddrT e.P s.m t (evA s x) i k
 | .indexAddr t x i=>indexAddrT e.P s.m t (evA s x) (evA s i) k
 | .index t x i=>match (ty e.P t).k with
  | .str=>strAtT (evA s x) (evA s i) k
  | _=>False
 | .extract x i=>extractT (evA s x) i k
 | .convert su du x=>convT e.P su du (evA s x) k
 | .slice t x lo hi none=>sliceT e.P t (evA s x) (lo.map (evA s)) (hi.map (evA s)) k
 | .nilCheck x=>nilCheckT (evA s x) k
 | .build t ps=>buildT e.P t (partsT s ps) k
 | .call c=>match c.callee,c.args.toList,c.argTypes.toList with
  | .builtin .len,[x],[t]=>match lenTy (ty e.P t).k (isStrA (evA s x)) with
   | true=>lenT o.guard s.m (evA s x) fun n=>k (sct (.i .i64 (n:Int)))
   | false=>False
  | _,_,_=>False
 | _=>False
def lT (e:En) (o:Oper) (s:St) (k:St->Prop):Prop:=
 match o.op with
 | .store t x v=>let s0:=movS e.sh s t v; let s1:=frzTo s0 (evA s0 x) (evA s0 v); storeT e.P s1 t (evA s1 x) (evA s1 v) fun s'=>k (s'.put o.dst .any)
 | .alloc t=>match o.dst with
  | some d=>allocT e.P s t d k
  | none=>False
 | .box _ x=>match o.dst with
  | some d=>boxT s x d k
  | none=>False
 | .buildSlice t n ps=>match o.dst with
  | some d=>match shOf e t with
   | none=>buildSliceT e.P e.E s t n ps d k
   | some sub=>match rfPart sub s ps with
    | true=>buildSliceT3 e.P e.E sub s t n ps d k
    | false=>buildSliceT2 e.P e.E sub s t n ps d k
  | none=>False
 | .call c=>match c.callee,c.args.toList,c.argTypes.toList with
  | .builtin .append,[x,y],[t,u]=>match o.dst with
   | some d=>match owBase s (evA s x) with
    | false=>appendT e.P e.E s t u x y d k
    | true=>appendT2 e.P e.E s t u x y d k
   | none=>False
  | .value (.func f),args,_=>match e.cs.get f with
   | some C=>C e.pk s args fun s' av=>k (s'.put o.dst av)
   | none=>False
  | .value (.tmp t),args,_=>match fnAt (gtA s.t t),Nat.blt t 100000 with
   | some f,true=>match e.cs.get f with
    | some C=>C e.pk s args fun s' av=>k (s'.put o.dst av)
    | none=>False
   | _,_=>False
  | _,_,_=>False
 | .makeMap t r=>match o.dst,r with
  | some d,none=>makeMapT e.P e.E s t d k
  | some d,some x=>match evA s x with
   | .one (.c (.d (.i _ _)))=>makeMapT e.P e.E s t d k
   | _=>False
  | none,_=>False
 | .lookup t x i ok=>mapGetT e.P s.m t (evA s x) (evA s i) ok fun v=>k (s.put o.dst v)
 | .mapUpdate t m i v=>let s1:=frzAt s (evA s v); mapSetT e.P s1 t (evA s1 m) (evA s1 i) (evA s1 v) fun s'=>k (s'.put o.dst .any)
 | .makeSlice t n c=>match o.dst with
  | some d=>makeSliceT e s t (evA s n) (evA s c) (sameOp n c) d k
  | none=>False
 | _=>False
def opT (e:En) (o:Oper) (s:St) (k:St->Prop):Prop:=
 match isQ o with
 | true=>let s1:=preF s o; qT e o s1 fun v=>k (s1.put o.dst v)
 | false=>lT e o s k
def dand (p:Prop) [d:Decidable p] (b:Bool):Bool:=match d with
 | .isTrue _=>b
 | .isFalse _=>false
abbrev CKb:=St->List Operand->(St->At->Bool)->Bool
abbrev CBt:=List (Nat×CKb)
def CBt.get:CBt->Nat->Option CKb
 | [],_=>none
 | (f,c)::r,i=>match Nat.beq f i with
  | true=>some c
  | false=>CBt.get r i
structure EnB where
 e:En
 cs:CBt
def pickB (c x y:At) (k:At->Bool):Bool:=
 match c with
 | .one (.c (.d (.bo b)))=>if b=true then k x else k y
 | _=>false
def numB (op:BinOp) (k:IntKind) (a b:Int) (K:C->Bool):Bool:=
 match op with
 | .add=>K (mkC k (k.wrap (a+b)))
 | .sub=>K (mkC k (k.wrap (a-b)))
 | .mul=>K (mkC k (k.wrap (a*b)))
 | .quo=>dand (b≠0) (K (mkC k (k.wrap (a.tdiv b))))
 | .rem=>dand (b≠0) (K (mkC k (a.tmod b)))
 | .and=>K (mkC k (k.wrap (BitVec.ofInt k.bits a &&& BitVec.ofInt k.bits b).toNat))
 | .or=>K (mkC k (k.wrap (BitVec.ofInt k.bits a ||| BitVec.ofInt k.bits b).toNat))
 | .xor=>K (mkC k (k.wrap (BitVec.ofInt k.bits a ^^^ BitVec.ofInt k.bits b).toNat))
 | .andNot=>K (mkC k (k.wrap (BitVec.ofInt k.bits a &&& ~~~BitVec.ofInt k.bits b).toNat))
 | .shl=>dand (0<=b) (K (mkC k (k.wrap (a*2 ^ (min b.toNat k.bits)))))
 | .shr=>dand (0<=b) (K (mkC k (a.fdiv (2 ^ (min b.toNat k.bits)))))
 | .eql=>K (.bo (decide (a=b)))
 | .neq=>K (.bo (!decide (a=b)))
 | .lss=>K (.bo (decide (a<b)))
 | .leq=>K (.bo (decide (a<=b)))
 | .gtr=>K (.bo (decide (b<a)))
 | .geq=>K (.bo (decide (b<=a)))
def binCB (op:BinOp) (x y:C) (K:C->Bool):Bool:=
 match x,y with
 | .s a,.s b=>match op with
  | .add=>dand (a.length+b.length<=4611686018427387904) (K (.s (a++b)))
  | .eql=>K (.bo (decide (a=b)))
  | .neq=>K (.bo (!decide (a=b)))
  | .lss=>K (.bo (Op.bytesLess a b))
  | .leq=>K (.bo (Op.bytesLess a b||decide (a=b)))
  | .gtr=>K (.bo (!(Op.bytesLess a b||decide (a=b))))
  | .geq=>K (.bo (!Op.bytesLess a b))
  | _=>false
 | x,y=>match intOf x,intOf y with
  | some (k,a),some (k',b)=>if isSh op=true\/k=k' then numB op k a b K else false
  | _,_=>false
def binB (P:Program) (op:BinOp) (t:TypeId) (x y:At) (k:At->Bool):Bool:=
 match x,y with
 | .one (.c (.d (.bo a))),.one (.c (.d (.bo b)))=>match (ty P t).k with
  | .bool=>match op with
   | .eql=>k (sct (.bo (a==b)))
   | .neq=>k (sct (.bo (!(a==b))))
   | _=>false
  | _=>false
 | .one (.c (.d a)),.one (.c (.d b))=>binCB op a b fun d=>k (sct d)
 | .one (.agg xs),.one (.agg ys)=>match eqTab P t with
  | some l=>match eqCs l (xs.map TC) (ys.map TC),op with
   | some b,.eql=>k (sct (.bo b))
   | some b,.neq=>k (sct (.bo (!b)))
   | _,_=>false
  | none=>false
 | _,_=>false
def unB (op:UnOp) (x:At) (k:At->Bool):Bool:=
 match op,x with
 | .not,.one (.c (.d (.bo b)))=>k (sct (.bo (!b)))
 | .neg,.one (.c (.d c))=>match intOf c with
  | some (κ,n)=>k (sct (mkC κ (κ.wrap (0-n))))
  | none=>false
 | .xor,.one (.c (.d c))=>match intOf c with
  | some (κ,n)=>k (sct (mkC κ (κ.wrap (BitVec.ofInt κ.bits (if κ.signed then -1 else κ.max) ^^^ BitVec.ofInt κ.bits n).toNat)))
  | none=>false
 | _,_=>false
def extractB (x:At) (i:Nat) (k:At->Bool):Bool:=
 match x with
 | .tup vs=>match vs[i]? with
  | some v=>k (.one v)
  | none=>false
 | _=>false
def lenB (gd:Option (Nat×Bool)) (m:List (Nm×Nat×Rt)) (x:At) (k:Nat->Bool):Bool:=
 match x with
 | .one (.c (.d (.s l)))=>k l.length
 | .one (.c (.d (.li _ l)))=>k l.length
 | .one (.c .nil)=>k 0
 | .one (.c (.rf p))=>match sliceAt m p with
  | some ⟨_,_,l⟩=>k l.length
  | _=>false
 | _=>false
def strAtB (x i:At) (k:At->Bool):Bool:=
 match x,i with
 | .one (.c (.d (.s l))),.one (.c (.d (.i _ n)))=>dand ((0<=n/\n.toNat<l.length)) (k (sct (.b (l.getD n.toNat 0))))
 | _,_=>false
def boundB (x:Option At) (d:Nat) (k:Nat->Bool):Bool:=
 match x with
 | none=>k d
 | some (.one (.c (.d (.i _ n))))=>dand (0<=n) (k n.toNat)
 | _=>false
def sliceB (P:Program) (t:TypeId) (x:At) (lo hi:Option At) (k:At->Bool):Bool:=
 match x with
 | .one (.c (.d (.s l)))=>match (ty P t).k with
  | .str=>boundB lo 0 fun a=>boundB hi l.length fun b=>dand ((a<=b/\b<=l.length)) (k (sct (.s ((l.drop a).take (b-a)))))
  | _=>false
 | .one (.c (.d (.li u l)))=>match (ty P t).k with
  | .sl e=>match (ty P e).ok&&Nat.beq (nc u) (ty P e).size with
   | true=>boundB lo 0 fun a=>boundB hi l.length fun b=>dand ((a<=b/\b<=l.length)) (k (sct (.li u ((l.drop a).take (b-a)))))
   | false=>false
  | _=>false
 | .one (.c .nil)=>match (ty P t).k with
  | .sl e=>match (ty P e).ok with
   | true=>boundB lo 0 fun a=>boundB hi 0 fun b=>dand (a<=b/\b<=0) (k (.one (.c .nil)))
   | false=>false
  | _=>false
 | _=>false
def fieldAddrB (P:Program) (m:List (Nm×Nat×Rt)) (t:TypeId) (x:At) (i:Nat) (k:At->Bool):Bool:=
 match (ty P t).k with
 | .st fs=>match fs[i]? with
  | some (off,size+1,_)=>match x with
   | .one (.c (.pl p))=>match hasRoomT m p off with
    | true=>k (.one (.c (.pl (p.add off))))
    | false=>false
   | .one (.c (.el row o))=>k (.one (.c (.el row (o+off))))
   | _=>false
  | _=>false
 | _=>false
def indexAddrB (P:Program) (m:List (Nm×Nat×Rt)) (t:TypeId) (x i:At) (k:At->Bool):Bool:=
 match i with
 | .one (.c (.d (.i _ n)))=>match (ty P t).k with
  | .sl e=>match x with
   | .one (.c (.d (.li u l)))=>match (ty P e).ok&&Nat.beq (nc u) (ty P e).size with
    | true=>dand ((0<=n/\n.toNat<l.length)) (k (.one (.c (.el (flat u (l.getD n.toNat (dflt u))) 0))))
    | false=>false
   | .one (.c (.rf p))=>match (ty P e).ok&&Nat.ble 1 (ty P e).size with
    | true=>match sliceAt m p with
     | some ⟨sh,_,l⟩=>match Nat.beq sh.length (ty P e).size with
      | true=>dand ((0<=n/\n < (l.length:Int))) (k (.one (.c (.pl (p.at n.toNat (ty P e).size)))))
      | false=>false
     | _=>false
    | false=>false
   | _=>false
  | .ar N e=>match x with
   | .one (.c (.ga u l i))=>match (ty P e).ok&&Nat.beq (ty P e).size 1&&leaf u with
    | true=>dand ((0<=n/\n < (N:Int))) (k (.one (.c (.ga u l (n.toNat+i)))))
    | false=>false
   | .one (.c (.pl p))=>match (ty P e).ok&&hasRoomT m p (n.toNat*(ty P e).size) with
    | true=>dand ((0<=n/\n < (N:Int))) (k (.one (.c (.pl (p.add (n.toNat*(ty P e).size))))))
    | false=>false
   | _=>false
  | _=>false
 | _=>false
def loadB (P:Program) (m:List (Nm×Nat×Rt)) (t:TypeId) (x:At) (k:At->Bool):Bool:=
 match (ty P t).ok with
 | true=>match x with
  | .one (.c (.el row o))=>match (ty P t).agg with
   | true=>match Nat.ble (o+(ty P t).size) row.length with
    | true=>k (.one (.agg (((row.drop o).take (ty P t).size).map Tt.d)))
    | false=>false
   | false=>match row[o]? with
    | some c=>k (sct c)
    | none=>false
  | .one (.c (.ga u l i))=>match (ty P t).agg,leaf u with
   | false,true=>dand (i<l.length) (k (sct (cellOf u (l.getD i (dflt u)))))
   | _,_=>false
  | .one (.c (.pl p))=>match (ty P t).agg with
   | true=>match atT m p (ty P t).size with
    | some ts=>k (.one (.agg (refTts p ts)))
    | none=>false
   | false=>match atT m p 1 with
    | some [t']=>k (.one (.c (refTt p t')))
    | _=>false
  | _=>false
 | false=>false
def fieldB (P:Program) (t:TypeId) (x:At) (i:Nat) (k:At->Bool):Bool:=
 match (ty P t).k,x with
 | .st fs,.one (.agg ts)=>match fs[i]? with
  | some (off,_,some false)=>match ts[off]? with
   | some t'=>k (.one (.c t'))
   | none=>false
  | some (off,size,some true)=>match Nat.ble (off+size) ts.length with
   | true=>k (.one (.agg ((ts.drop off).take size)))
   | false=>false
  | _=>false
 | _,_=>false
def nilCheckB (x:At) (k:At->Bool):Bool:=
 match x with
 | .one (.c (.pl _))=>k x
 | .one (.c (.el _ _))=>k x
 | .one (.c (.ga _ _ _))=>k x
 | _=>false
def buildB (P:Program) (t:TypeId) (parts:List (Nat×At)) (k:At->Bool):Bool:=
 match zst P t with
 | some (zs,places)=>match fillTt (places[·]?) (zs.map cstTt) parts with
  | some ts=>k (.one (.agg ts))
  | none=>false
 | none=>false
def convB (P:Program) (su du:TypeId) (x:At) (k:At->Bool):Bool:=
 match (ty P su).k,(ty P du).k with
 | .int _,.int κ=>match x with
  | .one (.c (.d c))=>match intOf c with
   | some (_,n)=>k (sct (mkC κ (κ.wrap n)))
   | none=>false
  | _=>false
 | .sl e,.str=>match (ty P e).k with
  | .int .u8=>match x with
   | .one (.c (.d (.li .b8 l)))=>k (sct (.s l))
   | .one (.c .nil)=>k (sct (.s []))
   | _=>false
  | _=>false
 | _,_=>false
def allocB (P:Program) (s:St) (t:TypeId) (d:Tmp) (k:St->Bool):Bool:=
 match zcells P t with
 | some (z::zs)=>match Nat.blt d 1000000 with
  | true=>k (((s.fresh (locN t d)).root (locN t d) ⟨true,(z::zs).map cstTt,none⟩).put (some d) (.one (.c (.pl ⟨locN t d,0,[]⟩))))
  | false=>false
 | _=>false
def boxB (s:St) (x:Operand) (d:Tmp) (k:St->Bool):Bool:=
 match cellsAt (evA (s.fresh (.loc d)) x) with
 | some (t::ts)=>match (t::ts).all Tt.sure&&Nat.blt d 1000000 with
  | true=>k (((s.fresh (.loc d)).root (.loc d) ⟨true,t::ts,none⟩).put (some d) (.one (.c (.pl ⟨.loc d,0,[]⟩))))
  | false=>false
 | _=>false
def buildSliceB (P:Program) (E:Ut) (s0:St) (t:TypeId) (len:Nat) (ps:Array (Nat×Operand)) (d:Tmp) (k:St->Bool):Bool:=
 match (ty P t).k with
 | .sl e=>match E.get e,zcells P e with
  | some u,some _=>match (ty P e).ok&&Nat.beq (nc u) (ty P e).size&&Nat.ble (len*nc u) 16777216&&Nat.ble len 16777216 with
   | true=>
    let s1:=frzAts s0 (ps.toList.map fun x=>evA s0 x.2)
    let s:=s1.fresh (.gh d)
    match fillTt (fun i=>some (i*nc u,nc u)) (List.replicate (len*nc u) .any) (partsT s ps),(partsT s1 ps).all (fun x=>x.2.noRf) with
    | some ts,true=>match canRows u (chunk (nc u) len ts) with
     | some l=>k ((s.root (.gh d) ⟨false,[.ow (List.replicate (nc u) .fr) u l],none⟩).put (some d) (.one (.c (.rf ⟨.gh d,0,[]⟩))))
     | none=>false
    | _,_=>false
   | false=>false
  | _,_=>false
 | _=>false
def okTPB (sub:List Sh) (u:U) (l:List (El u)):List Step->Bool->Bool
 | [],_=>false
 | [st],k=>dand (st.idx<l.length) (k)
 | st::st'::r,k=>match sub[st.off]?,(flat u (l.getD st.idx (dflt u)))[st.off]? with
  | some (.ow s),some (.li u' l')=>dand (st.idx<l.length) (okTPB s u' l' (st'::r) k)
  | _,_=>false
def eqPathB:List Step->List Step->Bool->Bool
 | [],[],p=>p
 | a::r,b::q,p=>match Nat.beq a.esz b.esz&&Nat.beq a.off b.off with
  | true=>dand (a.idx=b.idx) (eqPathB r q p)
  | false=>false
 | _,_,_=>false
def putB (s:St) (p:Pl) (t:Tt) (k:St->Bool):Bool:=
 match getM s.m p.root with
 | none=>false
 | some r=>match p.path,r.hole,r.cells[p.off]? with
  | [],none,some t0=>match t0.owned with
   | false=>k ⟨s.nx+1,s.t,setM s.m p.root s.nx { r with cells:=r.cells.set p.off t }⟩
   | true=>false
  | st::q,none,some (.ow sub u l)=>match setT1 sub u l t (st::q) with
   | some l'=>okTPB sub u l (st::q) (k ⟨s.nx+1,s.t,setM s.m p.root s.nx { r with cells:=r.cells.set p.off (.ow sub u l') }⟩)
   | none=>false
  | st::q,some (off,st',q'),some (.ow sub u l)=>match Nat.beq off p.off,t with
   | true,.ow sh v lv=>match fillH sub u l sh v lv (st::q) with
    | some l'=>okTPB sub u l (st::q) (eqPathB (st'::q') (st::q) (k ⟨s.nx+1,s.t,setM s.m p.root s.nx ⟨r.blk,r.cells.set p.off (.ow sub u l'),none⟩⟩))
    | none=>false
   | _,_=>false
  | _,_,_=>false
def putRowB (s:St) (p:Pl) (ts:List Tt) (k:St->Bool):Bool:=
 match getM s.m p.root with
 | none=>false
 | some r=>match p.path,r.hole,r.cells[p.off]? with
  | st::q,none,some (.ow sub u l)=>match setTs sub u l ts (st::q) with
   | some l'=>okTPB sub u l (st::q) (k ⟨s.nx+1,s.t,setM s.m p.root s.nx { r with cells:=r.cells.set p.off (.ow sub u l') }⟩)
   | none=>false
  | _,_,_=>false
def storesB (s:St) (p:Pl):List Tt->(St->Bool)->Bool
 | [],k=>k s
 | .rf q::ts,k=>match getM s.m q.root with
  | some ⟨false,[.ow sub u l],none⟩=>match q.path,decide (q.root=p.root),ts.all fun t=>!t.ment q.root with
   | [],false,true=>putB (s.drop q.root) p (.ow sub u l) fun s'=>storesB s' (p.add 1) ts k
   | _,_,_=>false
  | _=>false
 | .any::_,_=>false
 | .d .any::_,_=>false
 | t::ts,k=>putB s p t fun s'=>storesB s' (p.add 1) ts k
def storeB (P:Program) (s:St) (t:TypeId) (x v:At) (k:St->Bool):Bool:=
 match x,cellsAt v with
 | .one (.c (.pl p)),some ts=>match (ty P t).ok&&Nat.beq ts.length (ty P t).size&&hasRoomT s.m p (ts.length - 1) with
  | true=>match rowSt p ts with
   | true=>putRowB s p ts k
   | false=>storesB s p ts k
  | false=>false
 | _,_=>false
def appendB (P:Program) (E:Ut) (s00:St) (t u0:TypeId) (x y:Operand) (d:Tmp) (k:St->Bool):Bool:=
 let s:=frzAt s00 (evA s00 y)
 match (ty P t).k with
 | .sl e=>match E.get e,zcells P e with
  | some u,some z=>match (ty P e).ok&&(ty P u0).k.isSS&&Nat.beq z.length (ty P e).size&&Nat.beq (nc u) (ty P e).size with
   | true=>match srcT u (evA s y),baseT s u (evA s x) with
    | some ys,some (s1,sub,l)=>match sub.all Sh.isFr with
     | true=>dand ((l.length+ys.length<=4611686018427387904/\(l.length+ys.length)*(ty P e).bytes<=140737488355328)) (k (((s1.fresh (.gh d)).root (.gh d) ⟨false,[.ow sub u (l++ys)],none⟩).put (some d) (.one (.c (.rf ⟨.gh d,0,[]⟩)))))
     | false=>false
    | _,_=>false
   | false=>false
  | _,_=>false
 | _=>false
def buildSliceT2B (P:Program) (E:Ut) (sub:List Sh) (s0:St) (t:TypeId) (len:Nat) (ps:Array (Nat×Operand)) (d:Tmp) (k:St->Bool):Bool:=
 match (ty P t).k with
 | .sl e=>match E.get e,zcells P e with
  | some u,some _=>match (ty P e).ok&&Nat.beq (nc u) (ty P e).size&&Nat.ble (len*nc u) 16777216&&Nat.ble len 16777216&&Nat.beq sub.length (nc u) with
   | true=>
    let s1:=frzAts s0 (ps.toList.map fun x=>evA s0 x.2)
    let s:=s1.fresh (.gh d)
    match fillTt (fun i=>some (i*nc u,nc u)) (List.replicate (len*nc u) .any) (partsT s ps),(partsT s1 ps).all (fun x=>x.2.noRf) with
    | some ts,true=>match canRows u (chunk (nc u) len ts),subOk (List.replicate len sub).flatten ts with
     | some l,true=>k ((s.root (.gh d) ⟨false,[.ow sub u l],none⟩).put (some d) (.one (.c (.rf ⟨.gh d,0,[]⟩))))
     | _,_=>false
    | _,_=>false
   | false=>false
  | _,_=>false
 | _=>false
def buildSliceT3B (P:Program) (E:Ut) (sub:List Sh) (s:St) (t:TypeId) (len:Nat) (ps:Array (Nat×Operand)) (d:Tmp) (k:St->Bool):Bool:=
 match (ty P t).k with
 | .sl e=>match E.get e,zcells P e,partsT s ps with
  | some u,some _,[(0,.one (.agg ts))]=>match rfOne ts 0 with
   | some (j,q)=>match sub[j]?,sliceAt s.m q with
    | some (.ow sub'),some ⟨_,u',_⟩=>match baseT s u' (.one (.c (.rf q))) with
     | some (s1,sub3,l')=>match (ty P e).ok&&Nat.beq (nc u) (ty P e).size&&Nat.ble (nc u) 16777216&&Nat.beq len 1&&Nat.beq sub.length (nc u)&&Nat.beq ts.length (nc u)&&(shpEqs sub3 sub'&&((ts.set j .nil).all Tt.noRf&&subOk sub (ts.set j .nil))),canRows u [ts.set j (.d (.li u' l'))] with
      | true,some l=>k (((s1.fresh (.gh d)).root (.gh d) ⟨false,[.ow sub u l],none⟩).put (some d) (.one (.c (.rf ⟨.gh d,0,[]⟩))))
      | _,_=>false
     | none=>false
    | _,_=>false
   | none=>false
  | _,_,_=>false
 | _=>false
def appendT2B (P:Program) (E:Ut) (s:St) (t u0:TypeId) (x y:Operand) (d:Tmp) (k:St->Bool):Bool:=
 match (ty P t).k with
 | .sl e=>match E.get e,zcells P e with
  | some u,some z=>match (ty P e).ok&&(ty P u0).k.isSS&&Nat.beq z.length (ty P e).size&&Nat.beq (nc u) (ty P e).size with
   | true=>match baseT s u (evA s y) with
    | some (s1,sub1,ys)=>match baseT s1 u (evA s1 x) with
     | some (s2,sub,l)=>match shpEqs sub1 sub with
      | true=>dand ((l.length+ys.length<=4611686018427387904/\(l.length+ys.length)*(ty P e).bytes<=140737488355328)) (k (((s2.fresh (.gh d)).root (.gh d) ⟨false,[.ow sub u (l++ys)],none⟩).put (some d) (.one (.c (.rf ⟨.gh d,0,[]⟩)))))
      | false=>false
     | none=>false
    | none=>false
   | false=>false
  | _,_=>false
 | _=>false
def makeMapB (P:Program) (E:Ut) (s:St) (t:TypeId) (d:Tmp) (k:St->Bool):Bool:=match (ty P t).k with
 | .mp kt et=>match uOf P E kt,uOf P E et with
  | some ku,some vu=>k (((s.fresh (.gh d)).root (.gh d) ⟨false,[.mp ku vu []],none⟩).put (some d) (.one (.c (.rf ⟨.gh d,0,[]⟩))))
  | _,_=>false
 | _=>false
def mapGetB (P:Program) (m:List (Nm×Nat×Rt)) (t:TypeId) (x key:At) (ok:Bool) (k:At->Bool):Bool:=match (ty P t).k with
 | .mp kt et=>match x,key with
  | .one (.c (.rf p)),.one (.c (.d c))=>match mapAtT m p with
   | some ⟨ku,vu,l⟩=>match okKey P kt ku&&zOK P et vu,ofCell ku c with
    | true,some kx=>k (resM vu ok (lookE ku l kx))
    | _,_=>false
   | none=>false
  | _,_=>false
 | _=>false
def mapSetB (P:Program) (s:St) (t:TypeId) (x key v:At) (k:St->Bool):Bool:=match (ty P t).k with
 | .mp kt _=>match x,key,v with
  | .one (.c (.rf p)),.one (.c (.d c)),.one (.c tv)=>match mapAtT s.m p,getM s.m p.root with
   | some ⟨ku,vu,l⟩,some r=>match okKey P kt ku&&leaf vu,ofCell ku c,canU vu [tv] with
    | true,some kx,some vx=>k ⟨s.nx+1,s.t,setM s.m p.root s.nx { r with cells:=r.cells.set p.off (.mp ku vu (insE ku l kx vx)) }⟩
    | _,_,_=>false
   | _,_=>false
  | _,_,_=>false
 | _=>false
def makeSliceB (e:EnB) (s:St) (t:TypeId) (n c:At) (same:Bool) (d:Tmp) (k:St->Bool):Bool:=match (ty e.e.P t).k,same with
 | .sl el,true=>match n with
  | .one (.c (.d (.i .i64 n)))=>match e.e.E.get el with
   | some u=>match zOK e.e.P el u&&Nat.beq (ty e.e.P el).size 1&&rowOK ((shGet e.e.sh el).getD [.fr]) u with
    | true=>dand ((0<=n/\n<=4611686018427387904/\(ty e.e.P el).bytes*n.toNat<=281474976710656)) (k (((s.fresh (.gh d)).root (.gh d) ⟨false,[.ow ((shGet e.e.sh el).getD [.fr]) u (List.replicate n.toNat (dflt u))],none⟩).put (some d) (.one (.c (.rf ⟨.gh d,0,[]⟩)))))
    | false=>false
   | none=>false
  | _=>false
 | _,_=>false
def qB (e:EnB) (o:Oper) (s:St) (k:At->Bool):Bool:=
 match o.op with
 | .move x=>k (evA s x)
 | .assign x=>k (evA s x)
 | .pick c x y=>pickB (evA s c) (evA s x) (evA s y) k
 | .binOp op t x y _=>binB e.e.P op t (evA s x) (evA s y) k
 | .unOp op _ x=>unB op (evA s x) k
 | .load t x=>loadB e.e.P s.m t (evA s x) k
 | .field t x i=>fieldB e.e.P t (evA s x) i k
 | .fieldAddr t x i=>fieldAddrB e.e.P s.m t (evA s x) i k
 | .indexAddr t x i=>indexAddrB e.e.P s.m t (evA s x) (evA s i) k
 | .index t x i=>match (ty e.e.P t).k with
  | .str=>strAtB (evA s x) (evA s i) k
  | _=>false
 | .extract x i=>extractB (evA s x) i k
 | .convert su du x=>convB e.e.P su du (evA s x) k
 | .slice t x lo hi none=>sliceB e.e.P t (evA s x) (lo.map (evA s)) (hi.map (evA s)) k
 | .nilCheck x=>nilCheckB (evA s x) k
 | .build t ps=>buildB e.e.P t (partsT s ps) k
 | .call c=>match c.callee,c.args.toList,c.argTypes.toList with
  | .builtin .len,[x],[t]=>match lenTy (ty e.e.P t).k (isStrA (evA s x)) with
   | true=>lenB o.guard s.m (evA s x) fun n=>k (sct (.i .i64 (n:Int)))
   | false=>false
  | _,_,_=>false
 | _=>false
def lB (e:EnB) (o:Oper) (s:St) (k:St->Bool):Bool:=
 match o.op with
 | .store t x v=>let s0:=movS e.e.sh s t v; let s1:=frzTo s0 (evA s0 x) (evA s0 v); storeB e.e.P s1 t (evA s1 x) (evA s1 v) fun s'=>k (s'.put o.dst .any)
 | .alloc t=>match o.dst with
  | some d=>allocB e.e.P s t d k
  | none=>false
 | .box _ x=>match o.dst with
  | some d=>boxB s x d k
  | none=>false
 | .buildSlice t n ps=>match o.dst with
  | some d=>match shOf e.e t with
   | none=>buildSliceB e.e.P e.e.E s t n ps d k
   | some sub=>match rfPart sub s ps with
    | true=>buildSliceT3B e.e.P e.e.E sub s t n ps d k
    | false=>buildSliceT2B e.e.P e.e.E sub s t n ps d k
  | none=>false
 | .call c=>match c.callee,c.args.toList,c.argTypes.toList with
  | .builtin .append,[x,y],[t,u]=>match o.dst with
   | some d=>match owBase s (evA s x) with
    | false=>appendB e.e.P e.e.E s t u x y d k
    | true=>appendT2B e.e.P e.e.E s t u x y d k
   | none=>false
  | .value (.func f),args,_=>match CBt.get e.cs f with
   | some C=>C s args fun s' av=>k (s'.put o.dst av)
   | none=>false
  | .value (.tmp t),args,_=>match fnAt (gtA s.t t),Nat.blt t 100000 with
   | some f,true=>match CBt.get e.cs f with
    | some C=>C s args fun s' av=>k (s'.put o.dst av)
    | none=>false
   | _,_=>false
  | _,_,_=>false
 | .makeMap t r=>match o.dst,r with
  | some d,none=>makeMapB e.e.P e.e.E s t d k
  | some d,some x=>match evA s x with
   | .one (.c (.d (.i _ _)))=>makeMapB e.e.P e.e.E s t d k
   | _=>false
  | none,_=>false
 | .lookup t x i ok=>mapGetB e.e.P s.m t (evA s x) (evA s i) ok fun v=>k (s.put o.dst v)
 | .mapUpdate t m i v=>let s1:=frzAt s (evA s v); mapSetB e.e.P s1 t (evA s1 m) (evA s1 i) (evA s1 v) fun s'=>k (s'.put o.dst .any)
 | .makeSlice t n c=>match o.dst with
  | some d=>makeSliceB e s t (evA s n) (evA s c) (sameOp n c) d k
  | none=>false
 | _=>false
def opB (e:EnB) (o:Oper) (s:St) (k:St->Bool):Bool:=
 match isQ o with
 | true=>let s1:=preF s o; qB e o s1 fun v=>k (s1.put o.dst v)
 | false=>lB e o s k
end Go.Am
end

section
namespace Go.Am
def opsT (e:En) (all:List Oper):List Oper->St->(St->Prop)->Prop
 | [],s,k=>k s
 | o::r,s,k=>match o.guard with
  | none=>opT e o s fun s'=>opsT e all r s' k
  | some (j,want)=>match (all[j]?).bind (·.dst) with
   | some d=>match gtA s.t d with
    | .one (.c (.d (.bo c)))=>match want with
     | true=>if c=true then opT e o (s.put (some d) (sct (.bo true))) fun s'=>opsT e all r s' k
      else opsT e all r ((s.put (some d) (sct (.bo false))).put o.dst (.tup [])) k
     | false=>if c=true then opsT e all r ((s.put (some d) (sct (.bo true))).put o.dst (.tup [])) k
      else opT e o (s.put (some d) (sct (.bo false))) fun s'=>opsT e all r s' k
    | .tup []=>opsT e all r (s.put o.dst (.tup [])) k
    | _=>False
   | none=>False
def St.clr (s:St):St:=⟨s.nx,[],s.m⟩
abbrev En.cl (e:En):En:=⟨e.P,e.E,e.cs,e.sh,fun v s=>e.pk v s.clr⟩
def isElT:At->Bool
 | .one (.c (.el _ _))=>true
 | .one (.c (.ga _ _ _))=>true
 | _=>false
def frozenT (s:St) (o:Oper):Bool:=
 match o.op with
 | .load _ x=>isElT (evA s x)
 | _=>true
def behT (ops:Array Oper) (listed:Array Bool) (i:Nat):List Nat:=
 (List.range ops.size).foldl (fun A j=>if unlisted listed j&&!(Nat.beq j i)&&(match ops[j]? with
  | some o=>o.after.any fun e=>Region.binds .any e&&unlisted listed e.on&&(Nat.beq e.on i||A.contains e.on)
  | none=>false) then j::A else A) []
def pickQ (ops:Array Oper) (listed:Array Bool) (s:St):List Nat->Option (Nat×List Nat×Bool)
 | []=>none
 | i::r=>match ops[i]? with
  | none=>pickQ ops listed s r
  | some o=>match isQ o with
   | false=>pickQ ops listed s r
   | true=>match frozenT s o with
    | true=>match takeC ops listed i [] true with
     | true=>some (i,[],true)
     | false=>pickQ ops listed s r
    | false=>match takeC ops listed i (behT ops listed i) false with
     | true=>some (i,behT ops listed i,false)
     | false=>pickQ ops listed s r
def gT (ops:List Oper) (o:Oper) (s:St) (f:St->Prop) (no:St->Prop):Prop:=
 match o.guard with
 | none=>f s
 | some (j,want)=>match (ops[j]?).bind (·.dst) with
  | some d=>match gtA s.t d with
   | .one (.c (.d (.bo c)))=>match want with
    | true=>if c=true then f (s.put (some d) (sct (.bo true))) else no ((s.put (some d) (sct (.bo false))).put o.dst (.tup []))
    | false=>if c=true then no ((s.put (some d) (sct (.bo true))).put o.dst (.tup [])) else f (s.put (some d) (sct (.bo false)))
   | .tup []=>no (s.put o.dst (.tup []))
   | _=>False
  | none=>False
def allT (f:Nat->Prop):List Nat->Prop
 | []=>True
 | [i]=>f i
 | i::r=>f i/\allT f r
def drawT (e:En) (ops:Array Oper):Nat->Array Bool->St->(St->Prop)->Prop
 | 0,listed,s,k=>match Region.ready .any ops listed with
  | []=>k s
  | _=>False
 | n+1,listed,s,k=>match Region.ready .any ops listed with
  | []=>k s
  | i0::rd=>match pickQ ops listed s (i0::rd) with
   | some (i,_,fz)=>match ops[i]? with
    | some o=>match o.guard with
     | none=>let s1:=preF s o; qT e o s1 fun v=>drawT e ops n (listed.setIfInBounds i true) (s1.put o.dst v) k
     | some _=>gT ops.toList o s (fun s=>match !fz||frozenT s o with
      | true=>qT e o s fun v=>drawT e ops n (listed.setIfInBounds i true) (s.put o.dst v) k
      | false=>False) (fun s=>drawT e ops n (listed.setIfInBounds i true) s k)
    | none=>False
   | none=>allT (fun i=>match ops[i]? with
    | some o=>gT ops.toList o s (fun s=>opT e.cl o s fun s'=>drawT e ops n (listed.setIfInBounds i true) s' k) (fun s=>drawT e ops n (listed.setIfInBounds i true) s k)
    | none=>False) (i0::rd)
inductive Sp where
 | sl (k:Nat) (u:U)
 | ow (k:Nat) (sh:List Sh) (u:U)
 | rt (n:Nm) (sh:List Sh) (u:U)
 | mp (n:Nm) (ku vu:U)
abbrev Sp.ty:Sp->Type
 | .sl _ u=>El u
 | .ow _ _ u=>List (El u)
 | .rt _ _ u=>El u
 | .mp _ ku vu=>List (El ku×El vu)
abbrev FSp:List Sp->Type
 | []=>Unit
 | [p]=>p.ty
 | p::q::r=>p.ty×FSp (q::r)
def FSp.cons:(p:Sp)->(r:List Sp)->p.ty->FSp r->FSp (p::r)
 | _,[],x,_=>x
 | _,_::_,x,y=>(x,y)
def FSp.hd:(p:Sp)->(r:List Sp)->FSp (p::r)->p.ty
 | _,[],x=>x
 | _,_::_,x=>x.1
def FSp.tl:(p:Sp)->(r:List Sp)->FSp (p::r)->FSp r
 | _,[],_=>()
 | _,_::_,x=>x.2
theorem FSp_hd (p:Sp) (r:List Sp) (x:p.ty) (y:FSp r):FSp.hd p r (FSp.cons p r x y)=x:=by cases r <;> rfl
theorem FSp_tl (p:Sp) (r:List Sp) (x:p.ty) (y:FSp r):FSp.tl p r (FSp.cons p r x y)=y:=by cases r <;> rfl
def castE (ku vu ku' vu':U) (l:List (El ku×El vu)):Option (List (El ku'×El vu')):=if h:ku=ku'/\vu=vu' then some (h.1 ▸ h.2 ▸ l) else none
structure Sg where
 ks:List Nat
 kr:List Nm
 ps:List (Nat×Nm×Nat)
 sp:List Sp
def toAt:(u:U)->El u->At
 | .st n,x=>.one (.agg ((flat (.st n) x).map Tt.d))
 | u,x=>sct (cellOf u x)
def toA1:(u:U)->El u->A1
 | .st n,x=>.agg ((flat (.st n) x).map Tt.d)
 | u,x=>.c (.d (cellOf u x))
def ownN (k:Nat):Nm:=.gh (900000+k)
def rtCells:List Sh->List C->List Tt
 | .ow s::r,.li u l::cs=>.ow s u l::rtCells r cs
 | _::r,c::cs=>.d c::rtCells r cs
 | _,_=>[]
def rtCellsN:List Sh->List C->List Tt
 | .ow []::r,_::cs=>.nil::rtCellsN r cs
 | .ow (a::b)::r,.li u l::cs=>.ow (a::b) u l::rtCellsN r cs
 | _::r,c::cs=>.d c::rtCellsN r cs
 | _,_=>[]
def unmark:List Sh->List Sh
 | []=>[]
 | .ow []::r=>.fr::unmark r
 | s::r=>s::unmark r
def lookS:List (Nat×Nat×At)->Nat->Option (Nat×At)
 | [],_=>none
 | (k,j,v)::t,i=>match Nat.beq k i with
  | true=>some (j,v)
  | false=>lookS t i
def lookM:List (Nm×Nat×Rt)->Nm->Option (Nat×Rt)
 | [],_=>none
 | (k,j,v)::t,i=>if k=i then some (j,v) else lookM t i
def layS (nx:Nat):(sp:List Sp)->FSp sp->List (Nat×Nat×At)
 | [],_=>[]
 | .sl k u::r,x=>(k,nx,toAt u (FSp.hd (.sl k u) r x))::layS nx r (FSp.tl (.sl k u) r x)
 | .ow k sh u::r,x=>(k,nx,.one (.c (.rf ⟨ownN k,0,[]⟩)))::layS nx r (FSp.tl (.ow k sh u) r x)
 | .rt n sh u::r,x=>layS nx r (FSp.tl (.rt n sh u) r x)
 | .mp n ku vu::r,x=>layS nx r (FSp.tl (.mp n ku vu) r x)
def layM (nx:Nat):(sp:List Sp)->FSp sp->List (Nm×Nat×Rt)
 | [],_=>[]
 | .sl k u::r,x=>layM nx r (FSp.tl (.sl k u) r x)
 | .ow k sh u::r,x=>(ownN k,nx,⟨false,[.ow sh u (FSp.hd (.ow k sh u) r x)],none⟩)::layM nx r (FSp.tl (.ow k sh u) r x)
 | .rt n sh u::r,x=>(n,nx,⟨true,rtCellsN sh (flat u (FSp.hd (.rt n sh u) r x)),none⟩)::layM nx r (FSp.tl (.rt n sh u) r x)
 | .mp n ku vu::r,x=>(n,nx,⟨false,[.mp ku vu (FSp.hd (.mp n ku vu) r x)],none⟩)::layM nx r (FSp.tl (.mp n ku vu) r x)
def keepS (t:List (Nat×Nat×At)):List Nat->List (Nat×Nat×At)
 | []=>[]
 | k::r=>match lookS t k with
  | some (j,v)=>(k,j,v)::keepS t r
  | none=>keepS t r
def keepM (m:List (Nm×Nat×Rt)):List Nm->List (Nm×Nat×Rt)
 | []=>[]
 | k::r=>match lookM m k with
  | some (j,v)=>(k,j,v)::keepM m r
  | none=>keepM m r
def Sg.st (σ:Sg) (s:St) (x:FSp σ.sp):St:=⟨s.nx+1,keepS s.t σ.ks++(σ.ps.map (fun p=>(p.1,s.nx,.one (.c (.pl ⟨p.2.1,p.2.2,[]⟩))))++layS s.nx σ.sp x),keepM s.m σ.kr++layM s.nx σ.sp x⟩
def own1T (s:St) (k:Nat) (sh:List Sh) (u:U):St:=
 match gtA s.t k with
 | .one (.c .nil)=>
  let s1:=s.fresh (ownN k)
  ⟨s1.nx+1,(k,s1.nx,.one (.c (.rf ⟨ownN k,0,[]⟩)))::s1.t,(ownN k,s1.nx,⟨false,[.ow sh u []],none⟩)::s1.m⟩
 | .one (.c (.rf ⟨n,0,[]⟩))=>match decide (n=ownN k),getM s.m n with
  | false,some ⟨false,[.ow sh' u' l],none⟩=>
   let s1:=(s.drop n).fresh (ownN k)
   ⟨s1.nx+1,(k,s1.nx,.one (.c (.rf ⟨ownN k,0,[]⟩)))::s1.t,(ownN k,s1.nx,⟨false,[.ow sh' u' l],none⟩)::s1.m⟩
  | _,_=>s
 | _=>s
def ownCellsT (s:St) (n:Nm) (us:List U):List Sh->Nat->St
 | [],_=>s
 | .ow sh::r,off=>match getM s.m n with
  | some ⟨true,cells,none⟩=>match cells[off]?,us[off]? with
   | some .nil,some (.sl u)=>ownCellsT ⟨s.nx+1,s.t,setM s.m n s.nx ⟨true,cells.set off (.ow sh u []),none⟩⟩ n us r (off+1)
   | _,_=>ownCellsT s n us r (off+1)
  | _=>s
 | .fr::r,off=>match getM s.m n with
  | some ⟨true,cells,none⟩=>match cells[off]? with
   | some (.ow _ _ _)=>ownCellsT (frzPt s ⟨n,off,[]⟩) n us r (off+1)
   | _=>ownCellsT s n us r (off+1)
  | _=>s
def cellUs:U->List U
 | .st n=>(sd n).fs
 | u=>[u]
def prep:List Sp->St->St
 | [],s=>s
 | .sl k _::r,s=>prep r (frzAt s (gtA s.t k))
 | .ow k sh u::r,s=>prep r (own1T s k sh u)
 | .rt n sh u::r,s=>prep r (ownCellsT s n (cellUs u) (unmark sh) 0)
 | .mp _ _ _::r,s=>prep r s
mutual
def shEq:Sh->Sh->Bool
 | .fr,.fr=>true
 | .ow a,.ow b=>shEqs a b
 | _,_=>false
def shEqs:List Sh->List Sh->Bool
 | [],[]=>true
 | a::r,b::q=>shEq a b&&shEqs r q
 | _,_=>false
end
def canA1 (u:U):A1->Option (El u)
 | .c t=>match leaf u with
  | true=>canU u [t]
  | false=>none
 | .agg ts=>match leaf u with
  | true=>none
  | false=>canU u ts
def canAt (u:U):At->Option (El u)
 | .one x=>canA1 u x
 | _=>none
def unRt:List Sh->List Tt->Option (List Tt)
 | [],[]=>some []
 | .ow s::r,.ow s' u l::cs=>match shEqs s s',unRt r cs with
  | true,some x=>some (.d (.li u l)::x)
  | _,_=>none
 | .fr::r,.d c::cs=>match unRt r cs with
  | some x=>some (.d c::x)
  | none=>none
 | .fr::r,.nil::cs=>match unRt r cs with
  | some x=>some (.nil::x)
  | none=>none
 | _,_=>none
def unRtN:List Sh->List Tt->Option (List Tt)
 | [],[]=>some []
 | .ow []::r,.nil::cs=>match unRtN r cs with
  | some x=>some (.nil::x)
  | none=>none
 | .ow (a::b)::r,.ow s' u l::cs=>match shEqs (a::b) s',unRtN r cs with
  | true,some x=>some (.d (.li u l)::x)
  | _,_=>none
 | .fr::r,.d c::cs=>match unRtN r cs with
  | some x=>some (.d c::x)
  | none=>none
 | .fr::r,.nil::cs=>match unRtN r cs with
  | some x=>some (.nil::x)
  | none=>none
 | _,_=>none
def unSp (s:St):(p:Sp)->Option p.ty
 | .sl k u=>canAt u (gtA s.t k)
 | .ow k sh u=>match gtA s.t k,getM s.m (ownN k) with
  | .one (.c (.rf ⟨n,0,[]⟩)),some ⟨false,[.ow sh' u' l],none⟩=>match decide (n=ownN k),shEqs sh sh' with
   | true,true=>castL u' u l
   | _,_=>none
  | _,_=>none
 | .rt n sh u=>match getM s.m n with
  | some ⟨true,cells,none⟩=>match unRtN sh cells with
   | some ts=>canU u ts
   | none=>none
  | _=>none
 | .mp n ku vu=>match getM s.m n with
  | some ⟨false,[.mp ku' vu' l],none⟩=>castE ku' vu' ku vu l
  | _=>none
def unS (s:St):(sp:List Sp)->Option (FSp sp)
 | []=>some ()
 | p::r=>match unSp s p,unS s r with
  | some x,some y=>some (FSp.cons p r x y)
  | _,_=>none
def Sp.rn:Sp->List Nm
 | .sl _ _=>[]
 | .ow k _ _=>[ownN k]
 | .rt n _ _=>[n]
 | .mp n _ _=>[n]
def Sg.rn (σ:Sg):List Nm:=σ.kr++σ.sp.flatMap Sp.rn
def Tt.inR (rs:List Nm):Tt->Bool
 | .pl p=>rs.contains p.root
 | .rf p=>rs.contains p.root
 | _=>true
def A1.inR (rs:List Nm):A1->Bool
 | .c t=>t.inR rs
 | .agg ts=>ts.all (·.inR rs)
def At.inR (rs:List Nm):At->Bool
 | .one x=>x.inR rs
 | .tup xs=>xs.all (·.inR rs)
 | .any=>true
def nodupN:List Nm->Bool
 | []=>true
 | n::r=>!r.contains n&&nodupN r
def fitS (s0 s:St) (rs:List Nm):List Nat->Bool
 | []=>true
 | k::r=>(match lookS s0.t k,lookS s.t k with
  | some (j,_),some (j',v)=>Nat.beq j j'&&Nat.blt j s0.nx&&v.inR rs
  | _,_=>false)&&fitS s0 s rs r
def fitM (s0 s:St) (rs:List Nm):List Nm->Bool
 | []=>true
 | k::r=>(match lookM s0.m k,lookM s.m k with
  | some (j,_),some (j',v)=>Nat.beq j j'&&Nat.blt j s0.nx&&v.cells.all (·.inR rs)
  | _,_=>false)&&fitM s0 s rs r
def fitP (s:St) (rs:List Nm):List (Nat×Nm×Nat)->Bool
 | []=>true
 | (k,n,o)::r=>(match gtA s.t k with
  | .one (.c (.pl ⟨n',o',[]⟩))=>decide (n'=n)&&Nat.beq o' o&&rs.contains n
  | _=>false)&&fitP s rs r
def Sg.fit (σ:Sg) (s0 s:St):Bool:=nodupN σ.rn&&fitP s σ.rn σ.ps&&fitS s0 s σ.rn σ.ks&&fitM s0 s σ.rn σ.kr
def jn (σ:Sg) (s0:St) (J:FSp σ.sp->Prop) (s:St):Prop:=
 let s1:=prep σ.sp s
 match σ.fit s0 s1 with
 | true=>match unS s1 σ.sp with
  | some x=>J x
  | none=>False
 | false=>False
def joinP {α:Type} (A:(α->Prop)->Prop) (B:α->Prop):Prop:=∀ J:α->Prop,(∀ x,B x->J x)->A J
def loopN {α:Type} (body:(α->Prop)->α->Prop):Nat->α->Prop
 | 0,_=>False
 | n+1,x=>body (loopN body n) x
def loopP {α:Type} (body:(α->Prop)->α->Prop) (x:α):Prop:=∃ n,loopN body n x
inductive An where
 | l
 | s (a b:An)
 | j (σ:Sg) (a b:An)
 | c (a b:An)
 | b (a:An)
 | lp (σ:Sg) (a:An)
 | a (t:Nat) (n:Nm) (x y:An)
 | un (n:Nat) (a:An)
def An.pick:An->St->An
 | .a t n x y,st0=>match gtA st0.t t with
  | .one (.c (.pl p))=>match decide (p.root=n) with
   | true=>x
   | false=>y
  | _=>y
 | an,_=>an
structure Kt where
 n:St->Prop
 x:Nat->St->Prop
 r:St->Prop
def loopS (body:(St->Prop)->St->Prop):Nat->St->Prop
 | 0,_=>False
 | n+1,s=>body (loopS body n) s
def wpT (e:En):An->Code->St->Kt->Prop
 | _,.skip,s,K=>K.n s
 | _,.region _ ops false,s,K=>opsT e ops.toList ops.toList s K.n
 | _,.region _ ops true,s,K=>drawT e ops ops.size (Array.replicate ops.size false) s K.n
 | .s a b,.seq x y,s,K=>wpT e a x s ⟨fun s'=>wpT e (b.pick s') y s' K,K.x,K.r⟩
 | .j σ a b,.seq x y,s,K=>joinP (fun J=>wpT e a x s ⟨jn σ s J,K.x,K.r⟩) (fun v=>wpT e b y (σ.st s v) K)
 | .c a b,.cond (.tmp t) x y,s,K=>match gtA s.t t with
  | .one (.c (.d (.bo c)))=>if c=true then wpT e a x s K else wpT e b y s K
  | _=>False
 | .b a,.block id x,s,K=>wpT e a x s ⟨K.n,fun i s'=>match Nat.beq i id with
  | true=>K.n s'
  | false=>K.x i s',K.r⟩
 | .lp σ a,.loop x,s,K=>
  let s1:=prep σ.sp s
  match σ.fit s1 s1 with
  | true=>match unS s1 σ.sp with
   | some x0=>loopP (fun R v=>wpT e a x (σ.st s1 v) ⟨jn σ s1 R,K.x,K.r⟩) x0
   | none=>False
  | false=>False
 | .un n a,.loop x,s,K=>loopS (fun R s'=>wpT e a x s' ⟨R,K.x,K.r⟩) n s
 | _,.exit id,s,K=>K.x id s
 | _,.ret,s,K=>K.r s
 | _,_,_,_=>False
def resA:(us:List U)->Fl us->At
 | [],_=>.tup []
 | [u],x=>toAt u x
 | u::v::r,x=>.tup (resL (u::v::r) x)
where resL:(us:List U)->Fl us->List A1
 | [],_=>[]
 | u::r,x=>toA1 u (Fl.hd u r x)::resL r (Fl.tl u r x)
def canAs:(us:List U)->List At->Option (Fl us)
 | [],[]=>some ()
 | u::r,v::vs=>match canAt u v,canAs r vs with
  | some x,some y=>some (Fl.cons u r x y)
  | _,_=>none
 | _,_=>none
def frzRootT (s:St) (n:Nm):Nat->St
 | 0=>s
 | i+1=>frzPt (frzRootT s n i) ⟨n,i,[]⟩
def frzResT (s:St):ResultVar->St
 | .tmp t=>frzAt s (gtA s.t t)
 | .cell a _=>match gtA s.t a with
  | .one (.c (.pl p))=>match getM s.m p.root with
   | some r=>frzRootT s p.root r.cells.length
   | none=>s
  | _=>s
def frzRessT:St->List ResultVar->St
 | s,[]=>s
 | s,r::rs=>frzRessT (frzResT s r) rs
def resGetT (P:Program) (s:St) (k:At->Prop):ResultVar->Prop
 | .tmp t=>k (gtA s.t t)
 | .cell a t=>match gtA s.t a with
  | .one (.c (.pl p))=>match getM s.m p.root with
   | some r=>match r.hole.isNone&&r.cells.all (fun t=>!t.owned) with
    | true=>loadT P s.m t (gtA s.t a) k
    | false=>False
   | none=>False
  | _=>False
def resGetsT (P:Program) (s:St):List ResultVar->(List At->Prop)->Prop
 | [],k=>k []
 | r::rs,k=>resGetT P s (fun v=>resGetsT P s rs fun vs=>k (v::vs)) r
def retT (P:Program) (rs:List ResultVar) (us:List U) (KK:Fl us->Prop) (s:St):Prop:=
 resGetsT P (frzRessT s rs) rs fun vs=>match canAs us vs with
  | some x=>KK x
  | none=>False
def pureT (ps rs:List U) (pre:Fl ps->Prop) (f:Fl ps->Fl rs):CKt:=fun _ s ops k=>
 let s1:=frzAts s (ops.map (evA s))
 match canAs ps (ops.map (evA s1)) with
 | some x=>pre x/\k s1 (resA rs (f x))
 | none=>False
def pureT0 (ps rs:List U) (f:Fl ps->Fl rs):CKt:=fun _ s ops k=>
 let s1:=frzAts s (ops.map (evA s))
 match canAs ps (ops.map (evA s1)) with
 | some x=>k s1 (resA rs (f x))
 | none=>False
def lent (s:St) (v:At):At:=match v with
 | .one (.c (.rf p))=>match getM s.m p.root with
  | some r=>match r.hole,sliceAt s.m p with
   | none,some ⟨_,u,l⟩=>sct (.li u l)
   | _,_=>v
  | none=>v
 | v=>v
def scU:U->Bool
 | .i _=>true
 | .b8=>true
 | .bo=>true
 | .s=>true
 | _=>false
def lendC (ps rs:List U) (Φ:Fl ps->(Fl rs->Prop)->Prop):CKt:=fun _ s ops k=>
 match canAs ps (ops.map fun x=>lent s (evA s x)),rs.all scU with
 | some x,true=>∃ KK,Φ x KK/\∀ y,KK y->k s (resA rs y)
 | _,_=>False
def lendT (ps rs:List U) (pre:Fl ps->Prop) (f:Fl ps->Fl rs):CKt:=fun _ s ops k=>
 match canAs ps (ops.map fun x=>lent s (evA s x)),rs.all scU with
 | some x,true=>pre x/\k s (resA rs (f x))
 | _,_=>False
def badPt (r:Nm) (rf:Bool) (p:Pl):Bool:=decide (p.root=r)&&(rf||!p.path.isEmpty)
def ptrT (sh:List Sh) (u:U) (ps rs:List U) (pre:El u->Fl ps->Prop) (f:El u->Fl ps->Fl rs×El u):CKt:=fun _ s ops k=>
 match ops with
 | []=>False
 | o::os=>
  let s1:=frzAts s (os.map (evA s))
  match evA s1 o with
  | .one (.c (.pl ⟨r,0,[]⟩))=>
   let s2:=ownCellsT s1 r (cellUs u) sh 0
   match evA s2 o with
   | .one (.c (.pl ⟨r',0,[]⟩))=>match decide (r'=r),r.tyd,getM s2.m r with
    | true,none,some ⟨true,cells,none⟩=>match unRt sh cells with
     | some ts=>match canU u ts,canAs ps (os.map (evA s2)) with
      | some x,some y=>pre x y/\k ⟨s2.nx+1,killA (badPt r) s2.nx s2.t,(r,s2.nx,⟨true,rtCells sh (flat u (f x y).2),none⟩)::killMm (badR r) s2.nx (delM s2.m r)⟩ (resA rs (f x y).1)
      | _,_=>False
     | none=>False
    | _,_,_=>False
   | _=>False
  | _=>False
abbrev noP:PKt:=fun _ _=>False
def swP (w:List UInt8) (K:Nat->Prop) (df:Nat):List (List UInt8×Nat)->Prop
 | []=>K df
 | (w0,f)::r=>if decide (w=w0)=true then K f else swP w K df r
def swT (tab:List (List UInt8×Nat)) (df:Nat):CKt:=fun _ s ops k=>
 let s1:=frzAts s (ops.map (evA s))
 match canAs [.s] (ops.map (evA s1)) with
 | some w=>swP w (fun f=>k s1 (sct (.v (.func (.func f) #[] #[])))) df tab
 | none=>False
def shT:List (Nat×Nat×At)->List (Nat×Nat×At)
 | []=>[]
 | (k,j,v)::r=>(k+100000,j,v)::shT r
def unT_:List (Nat×Nat×At)->List (Nat×Nat×At)
 | []=>[]
 | (k,j,v)::r=>match Nat.ble 100000 k with
  | true=>(k - 100000,j,v)::unT_ r
  | false=>unT_ r
def argT (nx:Nat):Nat->List At->List (Nat×Nat×At)
 | _,[]=>[]
 | i,v::r=>(i,nx,v)::argT nx (i+1) r
def resT (s:St):List ResultVar->Option (List A1)
 | []=>some []
 | .tmp t::r=>match gtA s.t t,resT s r,Nat.blt t 100000 with
  | .one x,some xs,true=>some (x::xs)
  | _,_,_=>none
 | _=>none
def tupA:List A1->At
 | [x]=>.one x
 | xs=>.tup xs
def inlR (res:List ResultVar) (k:St->At->Prop) (s:St):Prop:=
 match resT s res with
 | some xs=>k ⟨s.nx,unT_ s.t,s.m⟩ (tupA xs)
 | none=>False
def inlT (e:En) (fn:Func) (an:An):CKt:=fun pk s ops k=>
 match Nat.ble ops.length fn.ntmps with
 | true=>wpT ⟨e.P,e.E,e.cs,e.sh,fun v s=>pk v ⟨s.nx,unT_ s.t,s.m⟩⟩ an (fn.body.getD .skip) ⟨s.nx+1,argT s.nx 0 (ops.map (evA s))++shT s.t,s.m⟩ ⟨inlR fn.results.toList k,fun _ _=>False,inlR fn.results.toList k⟩
 | false=>False
def nilOwn (s:St) (k:Nat) (sh:List Sh) (u:U):St:=
 match gtA s.t k with
 | .one (.c .nil)=>own1T s k sh u
 | _=>s
def ownT (u:U) (ps:List U) (pre:List (El u)->Fl ps->Prop) (f:List (El u)->Fl ps->List (El u)):CKt:=fun _ s ops k=>
 match ops with
 | .tmp t::os=>
  let s0:=nilOwn s t (List.replicate (nc u) .fr) u
  let s1:=frzAts s0 (os.map (evA s0))
  match evA s1 (.tmp t) with
  | .one (.c (.rf ⟨r,0,[]⟩))=>match getM s1.m r with
   | some ⟨false,[.ow sh u' l],none⟩=>match shEqs sh (List.replicate (nc u) .fr),castL u' u l,canAs ps (os.map (evA s1)) with
    | true,some l',some x=>pre l' x/\k ⟨s1.nx+1,killA (badR r) s1.nx s1.t,(r,s1.nx,⟨false,[.ow sh u (f l' x)],none⟩)::killMm (badR r) s1.nx (delM s1.m r)⟩ (.one (.c (.rf ⟨r,0,[]⟩)))
    | _,_,_=>False
   | _=>False
  | _=>False
 | _=>False
def entT:Nat->(us:List U)->Fl us->List (Nat×Nat×At)
 | _,[],_=>[]
 | i,u::r,x=>(i,0,toAt u (Fl.hd u r x))::entT (i+1) r (Fl.tl u r x)
def entS (us:List U) (x:Fl us):St:=⟨1,entT 0 us x,[]⟩
def bodyT (e:En) (fn:Func) (an:An) (ps rs:List U) (x:Fl ps) (KK:Fl rs->Prop):Prop:=
 wpT ⟨e.P,e.E,e.cs,e.sh,fun _ _=>False⟩ an (fn.body.getD .skip) (entS ps x) ⟨retT e.P fn.results.toList rs KK,fun _ _=>False,retT e.P fn.results.toList rs KK⟩
def retPT (P:Program) (res:List ResultVar) (sh:List Sh) (u:U) (rs:List U) (KK:Fl rs×El u->Prop) (s:St):Prop:=
 let s1:=ownCellsT (frzRessT s res) (.out 0) (cellUs u) sh 0
 resGetsT P s1 res fun vs=>match canAs rs vs,getM s1.m (.out 0) with
  | some x,some ⟨true,cells,none⟩=>match unRt sh cells with
   | some ts=>match canU u ts with
    | some y=>KK (x,y)
    | none=>False
   | none=>False
  | _,_=>False
def bodyPT (e:En) (fn:Func) (an:An) (sh:List Sh) (u:U) (ps rs:List U) (x:El u) (y:Fl ps) (KK:Fl rs×El u->Prop):Prop:=
 wpT ⟨e.P,e.E,e.cs,e.sh,fun _ _=>False⟩ an (fn.body.getD .skip) ⟨1,(0,0,.one (.c (.pl ⟨.out 0,0,[]⟩)))::entT 1 ps y,[(.out 0,0,⟨true,rtCells sh (flat u x),none⟩)]⟩ ⟨retPT e.P fn.results.toList sh u rs KK,fun _ _=>False,retPT e.P fn.results.toList sh u rs KK⟩
def retPX (sh:List Sh) (u:U) (KP:Value->El u->Prop) (v:Value) (s:St):Prop:=
 let s1:=ownCellsT s (.out 0) (cellUs u) sh 0
 match getM s1.m (.out 0) with
 | some ⟨true,cells,none⟩=>match unRt sh cells with
  | some ts=>match canU u ts with
   | some y=>KP v y
   | none=>False
  | none=>False
 | _=>False
def bodyPXT (e:En) (fn:Func) (an:An) (sh:List Sh) (u:U) (ps rs:List U) (x:El u) (y:Fl ps) (KK:Fl rs×El u->Prop) (KP:Value->El u->Prop):Prop:=
 wpT ⟨e.P,e.E,e.cs,e.sh,retPX sh u KP⟩ an (fn.body.getD .skip) ⟨1,(0,0,.one (.c (.pl ⟨.out 0,0,[]⟩)))::entT 1 ps y,[(.out 0,0,⟨true,rtCells sh (flat u x),none⟩)]⟩ ⟨retPT e.P fn.results.toList sh u rs KK,fun _ _=>False,retPT e.P fn.results.toList sh u rs KK⟩
def ptrXI (e:En) (fn:Func) (an:An) (sh:List Sh) (u:U) (ps rs:List U):CKt:=fun pk s ops k=>
 match ops with
 | []=>False
 | o::os=>
  let s1:=frzAts s (os.map (evA s))
  match evA s1 o with
  | .one (.c (.pl ⟨r,0,[]⟩))=>
   let s2:=ownCellsT s1 r (cellUs u) sh 0
   match evA s2 o with
   | .one (.c (.pl ⟨r',0,[]⟩))=>match decide (r'=r),r.tyd,getM s2.m r with
    | true,none,some ⟨true,cells,none⟩=>match unRt sh cells with
     | some ts=>match canU u ts,canAs ps (os.map (evA s2)) with
      | some x,some y=>∃ (KK:Fl rs×El u->Prop) (KP:Value->El u->Prop),bodyPXT e fn an sh u ps rs x y KK KP /\
        (∀ z x',KK (z,x')->k ⟨s2.nx+1,killA (badPt r) s2.nx s2.t,(r,s2.nx,⟨true,rtCells sh (flat u x'),none⟩)::killMm (badPt r) s2.nx (delM s2.m r)⟩ (resA rs z)) /\
        ∀ v x',KP v x'->pk v ⟨s2.nx+1,killA (badPt r) s2.nx s2.t,(r,s2.nx,⟨true,rtCells sh (flat u x'),none⟩)::killMm (badPt r) s2.nx (delM s2.m r)⟩
      | _,_=>False
     | none=>False
    | _,_,_=>False
   | _=>False
  | _=>False
def retOT (res:List ResultVar) (u:U) (KK:List (El u)->Prop) (s:St):Prop:=
 match res with
 | [.tmp t]=>match gtA s.t t with
  | .one (.c (.rf ⟨n,0,[]⟩))=>match getM s.m n with
   | some ⟨false,[.ow sh u' l],none⟩=>match shEqs sh (List.replicate (nc u) .fr),castL u' u l with
    | true,some l'=>KK l'
    | _,_=>False
   | _=>False
  | _=>False
 | _=>False
def bodyOT (e:En) (fn:Func) (an:An) (u:U) (ps:List U) (x:List (El u)) (y:Fl ps) (KK:List (El u)->Prop):Prop:=
 wpT ⟨e.P,e.E,e.cs,e.sh,fun _ _=>False⟩ an (fn.body.getD .skip) ⟨1,(0,0,.one (.c (.rf ⟨.out 0,0,[]⟩)))::entT 1 ps y,[(.out 0,0,⟨false,[.ow (List.replicate (nc u) .fr) u x],none⟩)]⟩ ⟨retOT fn.results.toList u KK,fun _ _=>False,retOT fn.results.toList u KK⟩
def opsB (e:EnB) (all:List Oper):List Oper->St->(St->Bool)->Bool
 | [],s,k=>k s
 | o::r,s,k=>match o.guard with
  | none=>opB e o s fun s'=>opsB e all r s' k
  | some (j,want)=>match (all[j]?).bind (·.dst) with
   | some d=>match gtA s.t d with
    | .one (.c (.d (.bo c)))=>match want with
     | true=>if c=true then opB e o (s.put (some d) (sct (.bo true))) fun s'=>opsB e all r s' k
      else opsB e all r ((s.put (some d) (sct (.bo false))).put o.dst (.tup [])) k
     | false=>if c=true then opsB e all r ((s.put (some d) (sct (.bo true))).put o.dst (.tup [])) k
      else opB e o (s.put (some d) (sct (.bo false))) fun s'=>opsB e all r s' k
    | .tup []=>opsB e all r (s.put o.dst (.tup [])) k
    | _=>false
   | none=>false
def gB (ops:List Oper) (o:Oper) (s:St) (f:St->Bool) (no:St->Bool):Bool:=
 match o.guard with
 | none=>f s
 | some (j,want)=>match (ops[j]?).bind (·.dst) with
  | some d=>match gtA s.t d with
   | .one (.c (.d (.bo c)))=>match want with
    | true=>if c=true then f (s.put (some d) (sct (.bo true))) else no ((s.put (some d) (sct (.bo false))).put o.dst (.tup []))
    | false=>if c=true then no ((s.put (some d) (sct (.bo true))).put o.dst (.tup [])) else f (s.put (some d) (sct (.bo false)))
   | .tup []=>no (s.put o.dst (.tup []))
   | _=>false
  | none=>false
def allB (f:Nat->Bool):List Nat->Bool
 | []=>true
 | [i]=>f i
 | i::r=>match f i with
  | true=>allB f r
  | false=>false
def drawB (e:EnB) (ops:Array Oper):Nat->Array Bool->St->(St->Bool)->Bool
 | 0,listed,s,k=>match Region.ready .any ops listed with
  | []=>k s
  | _=>false
 | n+1,listed,s,k=>match Region.ready .any ops listed with
  | []=>k s
  | i0::rd=>match pickQ ops listed s (i0::rd) with
   | some (i,_,fz)=>match ops[i]? with
    | some o=>match o.guard with
     | none=>let s1:=preF s o; qB e o s1 fun v=>drawB e ops n (listed.setIfInBounds i true) (s1.put o.dst v) k
     | some _=>gB ops.toList o s (fun s=>match !fz||frozenT s o with
      | true=>qB e o s fun v=>drawB e ops n (listed.setIfInBounds i true) (s.put o.dst v) k
      | false=>false) (fun s=>drawB e ops n (listed.setIfInBounds i true) s k)
    | none=>false
   | none=>allB (fun i=>match ops[i]? with
    | some o=>gB ops.toList o s (fun s=>opB e o s fun s'=>drawB e ops n (listed.setIfInBounds i true) s' k) (fun s=>drawB e ops n (listed.setIfInBounds i true) s k)
    | none=>false) (i0::rd)
def loopSB (body:(St->Bool)->St->Bool):Nat->St->Bool
 | 0,_=>false
 | n+1,s=>body (loopSB body n) s
def resGetB (P:Program) (s:St) (k:At->Bool):ResultVar->Bool
 | .tmp t=>k (gtA s.t t)
 | .cell a t=>match gtA s.t a with
  | .one (.c (.pl p))=>match getM s.m p.root with
   | some r=>match r.hole.isNone&&r.cells.all (fun t=>!t.owned) with
    | true=>loadB P s.m t (gtA s.t a) k
    | false=>false
   | none=>false
  | _=>false
def resGetsB (P:Program) (s:St):List ResultVar->(List At->Bool)->Bool
 | [],k=>k []
 | r::rs,k=>resGetB P s (fun v=>resGetsB P s rs fun vs=>k (v::vs)) r
def retB (P:Program) (rs:List ResultVar) (us:List U) (KK:Fl us->Bool) (s:St):Bool:=
 resGetsB P (frzRessT s rs) rs fun vs=>match canAs us vs with
  | some x=>KK x
  | none=>false
def inlRB (res:List ResultVar) (k:St->At->Bool) (s:St):Bool:=
 match resT s res with
 | some xs=>k ⟨s.nx,unT_ s.t,s.m⟩ (tupA xs)
 | none=>false
structure KtB where
 n:St->Bool
 x:Nat->St->Bool
 r:St->Bool
def wpB (n:Nat) (e:EnB):Code->St->KtB->Bool
 | .skip,s,K=>K.n s
 | .region _ ops false,s,K=>opsB e ops.toList ops.toList s K.n
 | .region _ ops true,s,K=>drawB e ops ops.size (Array.replicate ops.size false) s K.n
 | .seq x y,s,K=>wpB n e x s ⟨fun s'=>wpB n e y s' K,K.x,K.r⟩
 | .cond (.tmp t) x y,s,K=>match gtA s.t t with
  | .one (.c (.d (.bo c)))=>match c with
   | true=>wpB n e x s K
   | false=>wpB n e y s K
  | _=>false
 | .block id x,s,K=>wpB n e x s ⟨K.n,fun i s'=>match Nat.beq i id with
  | true=>K.n s'
  | false=>K.x i s',K.r⟩
 | .loop x,s,K=>loopSB (fun R s'=>wpB n e x s' ⟨R,K.x,K.r⟩) n s
 | .exit id,s,K=>K.x id s
 | .ret,s,K=>K.r s
 | _,_,_=>false
def bodyB (n:Nat) (b:EnB) (fn:Func) (ps rs:List U) (x:Fl ps) (KK:Fl rs->Bool):Bool:=
 wpB n b (fn.body.getD .skip) (entS ps x) ⟨retB b.e.P fn.results.toList rs KK,fun _ _=>false,retB b.e.P fn.results.toList rs KK⟩
def pureB (n:Nat) (b:EnB) (fn:Func) (ps rs:List U):CKb:=fun s ops k=>
 let s1:=frzAts s (ops.map (evA s))
 match canAs ps (ops.map (evA s1)) with
 | some x=>bodyB n b fn ps rs x (fun y=>k s1 (resA rs y))
 | none=>false
def pureI (e:En) (fn:Func) (an:An) (ps rs:List U):CKt:=fun _ s ops k=>
 let s1:=frzAts s (ops.map (evA s))
 match canAs ps (ops.map (evA s1)) with
 | some x=>∃ KK:Fl rs->Prop,bodyT e fn an ps rs x KK/\∀ y,KK y->k s1 (resA rs y)
 | none=>False
def lendB (n:Nat) (b:EnB) (fn:Func) (ps rs:List U):CKb:=fun s ops k=>
 match canAs ps (ops.map fun x=>lent s (evA s x)),rs.all scU with
 | some x,true=>bodyB n b fn ps rs x (fun y=>k s (resA rs y))
 | _,_=>false
def inlB (n:Nat) (b:EnB) (fn:Func):CKb:=fun s ops k=>
 match Nat.ble ops.length fn.ntmps with
 | true=>wpB n b (fn.body.getD .skip) ⟨s.nx+1,argT s.nx 0 (ops.map (evA s))++shT s.t,s.m⟩ ⟨inlRB fn.results.toList k,fun _ _=>false,inlRB fn.results.toList k⟩
 | false=>false
def retPB (P:Program) (res:List ResultVar) (sh:List Sh) (u:U) (rs:List U) (KK:Fl rs×El u->Bool) (s:St):Bool:=
 let s1:=ownCellsT (frzRessT s res) (.out 0) (cellUs u) sh 0
 resGetsB P s1 res fun vs=>match canAs rs vs,getM s1.m (.out 0) with
  | some x,some ⟨true,cells,none⟩=>match unRt sh cells with
   | some ts=>match canU u ts with
    | some y=>KK (x,y)
    | none=>false
   | none=>false
  | _,_=>false
def ptrB (n:Nat) (b:EnB) (fn:Func) (sh:List Sh) (u:U) (ps rs:List U):CKb:=fun s ops k=>
 match ops with
 | []=>false
 | o::os=>
  let s1:=frzAts s (os.map (evA s))
  match evA s1 o with
  | .one (.c (.pl ⟨r,0,[]⟩))=>
   let s2:=ownCellsT s1 r (cellUs u) sh 0
   match evA s2 o with
   | .one (.c (.pl ⟨r',0,[]⟩))=>match decide (r'=r),r.tyd,getM s2.m r with
    | true,none,some ⟨true,cells,none⟩=>match unRt sh cells with
     | some ts=>match canU u ts,canAs ps (os.map (evA s2)) with
      | some x,some y=>wpB n b (fn.body.getD .skip) ⟨1,(0,0,.one (.c (.pl ⟨.out 0,0,[]⟩)))::entT 1 ps y,[(.out 0,0,⟨true,rtCells sh (flat u x),none⟩)]⟩
        ⟨retPB b.e.P fn.results.toList sh u rs (fun z=>k ⟨s2.nx+1,killA (badPt r) s2.nx s2.t,(r,s2.nx,⟨true,rtCells sh (flat u z.2),none⟩)::killMm (badPt r) s2.nx (delM s2.m r)⟩ (resA rs z.1)),fun _ _=>false,
         retPB b.e.P fn.results.toList sh u rs (fun z=>k ⟨s2.nx+1,killA (badPt r) s2.nx s2.t,(r,s2.nx,⟨true,rtCells sh (flat u z.2),none⟩)::killMm (badPt r) s2.nx (delM s2.m r)⟩ (resA rs z.1))⟩
      | _,_=>false
     | none=>false
    | _,_,_=>false
   | _=>false
  | _=>false
def fnB (ps rs:List U) (pre:Fl ps->Bool) (f:Fl ps->Fl rs):CKb:=fun s ops k=>
 let s1:=frzAts s (ops.map (evA s))
 match canAs ps (ops.map (evA s1)) with
 | some x=>match pre x with
  | true=>k s1 (resA rs (f x))
  | false=>false
 | none=>false
def swPB (w:List UInt8) (K:Nat->Bool) (df:Nat):List (List UInt8×Nat)->Bool
 | []=>K df
 | (w0,f)::r=>match decide (w=w0) with
  | true=>K f
  | false=>swPB w K df r
def swB (tab:List (List UInt8×Nat)) (df:Nat):CKb:=fun s ops k=>
 let s1:=frzAts s (ops.map (evA s))
 match canAs [.s] (ops.map (evA s1)) with
 | some w=>swPB w (fun f=>k s1 (sct (.v (.func (.func f) #[] #[])))) df tab
 | none=>false
end Go.Am
end
