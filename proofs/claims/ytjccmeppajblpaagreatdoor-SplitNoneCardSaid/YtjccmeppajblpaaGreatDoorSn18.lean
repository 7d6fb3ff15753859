/-
  Part 18: AmClo · AmDef · AmB4 · AmLibC.
-/
import Derived.Test.YtjccmeppajblpaaGreatDoorSn17
import Derived.Recover
set_option linter.unusedSimpArgs false
set_option linter.unusedVariables false
set_option linter.unusedSectionVars false
set_option linter.unnecessarySimpa false
section
namespace Go.Am
open Go Go.RowKit Go.Proofs
def BR (cs:List Frame):Value×List Frame:=match recoverD cs with
 | some (v,cs')=>(v,cs')
 | none=>(.nilIface,cs)
theorem GW {P:Program} {Q:Exit->Act->List Frame->World->Prop} {id:Nat} {o0 o1:Oper} {d:Nat} {a:Act} {cs:List Frame} {w:World} (h0:o0.op=.call ⟨.builtin .recover,#[],#[]⟩) (h1:o1.op=.assign (.tmp d)) (g0:o0.guard=none) (g1:o1.guard=none)
  (h:Q .normal ((a.put o0.dst (BR cs).1).put o1.dst ((a.put o0.dst (BR cs).1).eval (.tmp d))) (BR cs).2 w):(Code.region id #[o0,o1] false).wpS P Q a cs w:=by
 refine wpS_region ?_;show wpOpsS _ _ _ [0,1] _ _ _
 have e0:∀ a:Act,(execOp a.eval o0).run P w=.ok .recover w:=fun a=>by
  unfold execOp;rw [h0];rfl
 have e1:∀ a:Act,(execOp a.eval o1).run P w=.ok (.value (a.eval (.tmp d))) w:=fun a=>by
  unfold execOp;rw [h1];rfl
 have i0:(#[o0,o1]:Array Oper)[0]? = some o0:=rfl
 have i1:(#[o0,o1]:Array Oper)[1]? = some o1:=rfl
 have w0:∀ f,Region.wanted o0 f=true:=fun f=>by simp [Region.wanted,g0]
 have w1:∀ f,Region.wanted o1 f=true:=fun f=>by simp [Region.wanted,g1]
 have fin:∀ v cs',Q .normal ((a.put o0.dst v).put o1.dst ((a.put o0.dst v).eval (.tmp d))) cs' w->wpOpsS P #[o0,o1] Q [1] (a.put o0.dst v) cs' w:=by
  intro v cs' hq;unfold wpOpsS;rw [i1];dsimp only;rw [if_pos (w1 _),e1];exact hq
 unfold wpOpsS;rw [i0];dsimp only;rw [if_pos (w0 _),e0];unfold BR at h;cases hr:recoverD cs with
 | none=>rw [hr] at h; exact fin _ _ h
 | some x=>obtain ⟨v,cs'⟩:=x; rw [hr] at h; exact fin _ _ h
theorem Jg {P:Program} {t u:TypeId} {ms} {x:Value} (h:P.underlying t=some (.interface ms)) (w:World):(binOp .neq t (.iface u x) .nilIface).run P w=.ok (.bool true) w:=by
 show (do pure (.bool (!(<- Op.equal t (.iface u x) .nilIface))):Sem Value).run P w=_
 unfold Op.equal Op.maxDepth;rw [show (10000:Nat)=9999+1 from rfl];unfold Op.equalIn;simp only [Sem.run_bind,run_underlying h,Result.andThen];rfl
theorem Qq {P:Program} {c:Code} {Q:Exit->Act->World->Prop} {a:Act} {w:World} (b:Act) (h:a=b) (hb:c.wp P Q b w):c.wp P Q a w:=h ▸ hb
theorem Ou {P:Program} {c c':Code} {Q Q':Exit->Act->World->Prop} {a a':Act} {w:World} (hc:c'=c) (ha:a'=a) (h:c'.wp P Q' a' w) (hq:∀ e a w,Q' e a w->Q e a w):c.wp P Q a w:=by rw [<- hc,<- ha]; exact Code.wp_mono hq h
theorem OF (p0 p1 p2 p3:Value) (w:World):CallsD Tryz.prog 37 #[p0,p1,p2,p3] .returning w fun e u' w'=>(∃ v,e=.returned v)/\u'=.returning/\w'=w:=by
 refine callsD_of_wpS Tryz.func37 rfl (fun c0 cs hc=>?_);refine wpS_seq (GW rfl rfl rfl rfl ?_);have hr:BR (c0::cs)=(.nilIface,c0::cs):=by simp [BR,recoverD,hc]
 rw [hr];refine wpS_of_wp ?_;refine Qq { tmps:=#[p0,p1,p2,p3,.nilIface,undef,undef,.nilIface,undef,undef,undef,undef,undef,undef,undef,undef,undef,undef,undef,undef,undef,undef,undef,undef,undef],defers:=[] } (by kernel_rfl) ?_
 go_wp2
 exact ⟨rfl,c0.mode,rfl,.tuple #[],(by rw [dJ,show Tryz.f37.results=#[] from rfl]; simp),⟨_,rfl⟩,hc,rfl⟩
section
variable {P:Program} {g:G} {Q:Exit->S->Prop}
theorem RF {w:World} {H:FH} {γ:Gam} {m:Mm} {x y:Value} (h:AR w H γ m (.one (.c (.d (.v x)))) y):y=x:=by
 obtain ⟨_,m,h⟩:=h;cases m <;> exact h.1
theorem Ib {ops rest ops' rest':List Oper} {s:S} (h1:ops'=ops) (h2:rest'=rest) (h:AL P g ops' rest' Q s):AL P g ops rest Q s:=by rw [<- h1,<- h2]; exact h
theorem NT {c c':Code} {s:S} (h1:c'=c) (h:AW P g c' Q s):AW P g c Q s:=by rw [<- h1]; exact h
theorem yK {ops rest:List Oper} {o:Oper} {s:St} (v:At) (hg:o.guard=none) (hd:okD g.nt o.dst=true)
  (h:∀ a w H γ F,RX g s.toS a w H γ F->∃ y,(execOp a.eval o).run P w=.ok (.value y) w/\AR w H γ s.toS.m v.toV y) (hk:AL P g ops rest Q (s.put o.dst v).toS):AL P g ops (o::rest) Q s.toS:=by
 refine yv hg (GK (fun a w hR=>?_));obtain ⟨H,γ,F,hX⟩:=hR;obtain ⟨y,e1,e2⟩:=h a w H γ F hX;unfold Oper.wp;rw [e1];exact ⟨_,hk,H,γ,F,bE (ba s o.dst v) (hX.put hd e2)⟩
def FE (t:St) (i:Nat):Bool:=match bi t.m (.out i) with
 | some r=>!r.cells.isEmpty
 | none=>false
def kL:Code->Code | .seq a _=>a | c=>c
def kR:Code->Code | .seq _ b=>b | c=>c
def kT:Code->Code | .cond _ a _=>a | c=>c
def kO:Code->List Oper | .region _ ops _=>ops.toList | _=>[]
abbrev RG (is:List Nat) (t:St):St:=⟨t.nx+1,sS t.nx 0 (is.map fun i=>.one (.c (.pl ⟨.out i,0,[]⟩))),t.m⟩
abbrev RO (is:List Nat) (n:Int) (t:St):St:=((RG is t).put (some 7) (sct (.v (Lt.flt n)))).put (some 4) (sct (.v (Lt.flt n)))
abbrev Sz (is:List Nat) (n:Int) (t:St):St:=((RO is n t).put (some 8) (sct (.v (Lt.flt n)))).put (some 9) (sct (.bo true))
abbrev SI (is:List Nat) (n:Int) (t:St):St:=((Sz is n t).put (some 11) (sct (.v (Lt.flt n)))).put (some 12) (.tup [.agg [.d (.i .i64 n)],.c (.d (.bo true))])
def PP (e:En) (an:An) (c:Code) (is:List Nat) (n:Int) (t:St) (K:St->Prop):Prop:=
 match is.all (FE t) with
 | true=>jg e (kO (kL (kT (kR (kR c))))) ((kO (kL (kT (kR (kR c))))).drop 2) (SI is n t) (fun s=>jg e (kO (kL (kL (kR (kT (kR (kR c))))))) (kO (kL (kL (kR (kT (kR (kR c))))))) s (fun s=>match gtA s.t 16 with
  | .one (.c (.d (.bo false)))=>wpT e an (kR (kR (kT (kR (kR c))))) s ⟨K,fun _ _=>False,K⟩
  | _=>False))
 | false=>False
theorem iG {w:World} {H:FH} {γ:Gam} {F:Nm->Fp} {a:Act} {t:St} {i b:Nat} (hX:RX g t.toS a w H γ F) (h:FE t i=true) (hg:g.out i=some b):AR w H γ t.toS.m (.one (.c (.pl ⟨.out i,0,[]⟩))) (.pointer (some ⟨b,0,none⟩)):=by
 refine ⟨fun _=>rfl,?_,⟨b,0,none⟩,?_,rfl⟩
 ·unfold FE at h;split at h
  ·rename_i r hr;rw [aj];refine ⟨_,aT hr,?_⟩;show 0<r.toR.cells.length
   have hl:r.toR.cells.length=r.cells.length:=by
    unfold Rt.toR holed;dsimp only;split
    ·simp
    ·split <;> simp
   rw [hl];cases hc:r.cells with
   | nil=>rw [hc] at h; cases h
   | cons x y=>simp
  ·cases h
 ·simp only [plA,hX.df.2.1 _ _ hg]
theorem O6 (x0 x1 x2 x3:Value) (r:Array Value) (i:Nat) (hi:i < 4):(#[x0,x1,x2,x3]++r).getD i undef=#[x0,x1,x2,x3].getD i undef:=by
 rw [S5,S5,Tx (by simpa using hi)]
set_option maxRecDepth 100000 in
theorem Nt {E:Ut} {cs:CTt} {sh:List (TypeId×List Sh)} (he:(⟨Tryz.prog,E,cs,sh,fun _ _=>False⟩:En).ok) (hm:Tryz.prog.follows .mixedOrders=true) {t:St} {a0:Act} {w:World} {H:FH} {γ:Gam} {F:Nm->Fp} (hX:RX g t.toS a0 w H γ F)
  {i0 i1 i2 i3 b0 b1 b2 b3:Nat} (h0:g.out i0=some b0) (h1:g.out i1=some b1) (h2:g.out i2=some b2) (h3:g.out i3=some b3) {n:Int} (hn:(Lit.int .i64 n).wf=true) {an:An} {K:St->Prop} (h:PP ⟨Tryz.prog,E,cs,sh,fun _ _=>False⟩ an (Tryz.f37.body.getD .skip) [i0,i1,i2,i3] n t K) :
  CallsD Tryz.prog 37 #[.pointer (some ⟨b0,0,none⟩),.pointer (some ⟨b1,0,none⟩),.pointer (some ⟨b2,0,none⟩),.pointer (some ⟨b3,0,none⟩)] (.panicking (chn (Lt.flt n))) w
   fun e u' w'=>(∃ v,e=.returned v)/\settle u'=.returning/\∃ s':St,K s'/\∃ H' γ' F',RX g ⟨[],s'.toS.m⟩ a0 w' H' γ' F':=by
 refine callsD_of_wpS Tryz.func37 rfl (fun c0 cs' hc=>?_);refine wpS_seq (GW rfl rfl rfl rfl ?_);have hr:BR (c0::cs')=(Lt.flt n,{ c0 with mode:=.panicking [{ v:=Lt.flt n,recovered:=true }] }::cs'):=by simp [BR,recoverD,hc]
 rw [hr];refine wpS_of_wp ?_;unfold PP at h;split at h
 rotate_left
 ·exact h.elim
 rename_i hok;simp only [S6,List.all_nil,Um,SL] at hok;obtain ⟨k0,k1,k2,k3⟩:=hok
 let g3:G:=⟨25,g.w0,g.H0,g.own0,g.out,none,[]⟩
 have u0:=iG hX k0 h0
 have u1:=iG hX k1 h1
 have u2:=iG hX k2 h2
 have u3:=iG hX k3 h3
 have hA:RX g3 (RG [i0,i1,i2,i3] t).toS { tmps:=#[.pointer (some ⟨b0,0,none⟩),.pointer (some ⟨b1,0,none⟩),.pointer (some ⟨b2,0,none⟩),.pointer (some ⟨b3,0,none⟩)]++Array.replicate (Tryz.f37.ntmps - 4) undef,defers:=[] } w H γ F:=by
  refine ⟨hX.mem,hX.fr,by kernel_rfl,⟨rfl,hX.df.2⟩,fun i=>?_⟩;rw [G.tv_none rfl]
  match i with
  | 0=>rw [O6 _ _ _ _ _ 0 (by decide)]; exact u0
  | 1=>rw [O6 _ _ _ _ _ 1 (by decide)]; exact u1
  | 2=>rw [O6 _ _ _ _ _ 2 (by decide)]; exact u2
  | 3=>rw [O6 _ _ _ _ _ 3 (by decide)]; exact u3
  | i+4=>exact trivial
 have hF:∀ (w:World) (H:FH) (γ:Gam) (m:Mm),AR w H γ m (sct (.v (Lt.flt n))).toV (Lt.flt n):=fun w H γ m=>⟨fun _=>rfl,0,rfl,rfl⟩
 have hB:=bE (ba _ _ _) ((bE (ba _ _ _) (hA.put (d:=some 7) rfl (hF _ _ _ _))).put (d:=some 4) rfl (hF _ _ _ _))
 have run:AW Tryz.prog g3 (kR (Tryz.f37.body.getD .skip)) (LQ (fun _ _=>False) ⟨K,fun _ _=>False,K⟩) (RO [i0,i1,i2,i3] n t).toS:=by
  refine lM (kg (yK (sct (.v (Lt.flt n))) rfl rfl (fun a w H γ F hX=>?_) (yK (sct (.bo true)) rfl rfl (fun a w H γ F hX=>?_) (EV (sN (b:=true) ?_ (fun _=>lM (kg (yK (sct (.v (Lt.flt n))) rfl rfl (fun a w H γ F hX=>?_)
   (yK (.tup [.agg [.d (.i .i64 n)],.c (.d (.bo true))]) rfl rfl (fun a w H γ F hX=>?_) ?_)))) (fun h=>by cases h))))))
  ·have e:=hX.t 4
   rw [G.tv_none rfl] at e;exact ⟨_,rfl,e⟩
  ·have e:=hX.t 8
   rw [G.tv_none rfl] at e;have e8:a.eval (.tmp 8)=Lt.flt n:=RF e
   refine ⟨.bool true,?_,⟨fun _=>rfl,0,rfl⟩⟩;simp only [execOp,e8,show a.eval (.const .nilIface)=.nilIface from rfl,Sem.run_bind,Lt.flt,Jg Tryz.underlying20];simp [eqGuard,Result.andThen]
  ·rfl
  ·have e:=hX.t 4
   rw [G.tv_none rfl] at e;exact ⟨_,rfl,e⟩
  ·have e:=hX.t 11
   rw [G.tv_none rfl] at e;have e8:a.eval (.tmp 11)=Lt.flt n:=RF e
   refine ⟨.tuple #[.agg #[.int .i64 n],.bool true],?_,?_⟩
   ·simp only [execOp,e8,Sem.run_bind,Instr.typeAssert,Lt.flt,run_underlying Tryz.underlying101,Result.andThen];simp
   ·exact ⟨_,rfl,⟨_,rfl,rfl,⟨_,[],fun _=>0,fun _=>0,rfl,fun _=>rfl,⟨fun _=>rfl,0,rfl,hn⟩,fun _=>rfl⟩⟩,⟨fun _=>rfl,0,rfl⟩,trivial⟩
  ·refine Ib (by kernel_rfl) (by kernel_rfl) (kY (e:=⟨Tryz.prog,E,cs,sh,fun _ _=>False⟩) he (fun x s h=>h.elim fun _ h=>h.elim fun _ h=>h.2.2.elim) (by kernel_rfl) h (fun t ht=>?_));refine lM (lM (kg (Ib (by kernel_rfl) (by kernel_rfl) (kY (e:=⟨Tryz.prog,E,cs,sh,fun _ _=>False⟩) he (fun x s h=>h.elim fun _ h=>h.elim fun _ h=>h.2.2.elim) (by kernel_rfl) ht (fun t ht=>?_)))));split at ht
   ·rename_i hg16;exact sN (b:=false) (fR hg16) (fun h=>by cases h) (fun _=>oA (NT (by kernel_rfl) (iN he hm _ an t _ (by kernel_rfl) ht)))
   ·exact ht.elim
 refine Ou (by kernel_rfl) (by kernel_rfl) (run _ _ ⟨H,γ,F,hB⟩) (fun x a' w' hl=>?_);obtain ⟨s',hq,H',γ',F',hX'⟩:=hl;have fin:∀ t':St,s'=t'.toS->K t'->a'.defers=[]/\∃ u',({ c0 with mode:=.panicking [{ v:=Lt.flt n,recovered:=true }] }::cs':List Frame)={ c0 with mode:=u' }::cs'/\∃ v,(results Tryz.f37 a'.tmps).run Tryz.prog w'=.ok v w' /\
   ((∃ v',Ending.returned v=.returned v')/\settle u'=.returning/\∃ s':St,K s'/\∃ H' γ' F',RX g ⟨[],s'.toS.m⟩ a0 w' H' γ' F'):=by
  rintro t' rfl hk
  exact ⟨hX'.df.1,_,rfl,.tuple #[],(by rw [dJ,show Tryz.f37.results=#[] from rfl]; simp),⟨_,rfl⟩,rfl,t',hk,H',γ',F',hX'.mem,hX'.fr,hX.nt,⟨hX.df.1,hX'.df.2⟩,fun _=>trivial⟩
 cases x with
 | normal=>obtain ⟨t',e1,ht⟩:=hq; exact fin t' e1 ht
 | ret=>obtain ⟨t',e1,ht⟩:=hq; exact fin t' e1 ht
 | exit i=>obtain ⟨t',e1,ht⟩:=hq; exact ht.elim
 | panic c=>obtain ⟨_,_,_,_,hv⟩:=hq; exact hv.elim
 | _=>exact hq.elim
end
end Go.Am
end

section
namespace Go.Am
open Go Go.RowKit Go.Proofs
def seqs:List Code->Code->Code
 | [],c=>c
 | a::l,c=>.seq a (seqs l c)
def KF (e:En):List (An×Code)->St->(St->Prop)->(St->Prop)->Prop
 | [],s,k,_=>k s
 | x::l,s,k,r=>wpT e x.1 x.2 s ⟨fun s'=>KF e l s' k r,fun _ _=>False,r⟩
theorem Lv {e:En} (he:e.ok) (hm:e.P.follows .mixedOrders=true) {g:G} {rest:Code} {Post:Exit->Act->World->Prop} {k r:St->Prop} (hpk:∀ v s,¬ e.pk v s)
  (hk:∀ (t:St) a w,k t->R g t.toS a w->rest.wp e.P Post a w) (hr:∀ (t:St) a w,r t->R g t.toS a w->Post .ret a w) :
  ∀ (l:List (An×Code)) (s:St),l.all (fun x=>eQ g.nt x.2)=true->KF e l s k r->∀ a w,R g s.toS a w->(seqs (l.map (·.2)) rest).wp e.P Post a w
 | [],s,_,h,a,w,hR=>hk s a w h hR
 | x::l,s,hc,h,a,w,hR=>by
  rw [S6,SL] at hc;refine wp_seq (Code.wp_mono (fun y a' w' hl=>?_) (iN he hm x.2 x.1 s _ hc.1 h a w hR));obtain ⟨s',hq,hR'⟩:=hl;cases y with
  | normal=>obtain ⟨t,rfl,ht⟩:=hq; exact Lv he hm hpk hk hr l t hc.2 ht a' w' hR'
  | ret=>obtain ⟨t,rfl,ht⟩:=hq; exact hr t a' w' ht hR'
  | exit i=>obtain ⟨t,rfl,ht⟩:=hq; exact ht.elim
  | panic c=>obtain ⟨v,t,rfl,rfl,hv⟩:=hq; exact (hpk _ _ hv).elim
  | _=>exact hq.elim
theorem M4 {P:Program} {Q:Exit->Act->World->Prop} {id dm fc:Nat} {caps:Array Operand} {o1 o2:Oper} {a:Act} {w:World} (h1:o1.op=.makeFunc (.func fc) #[] caps) (d1:o1.dst=some dm) (g1:o1.guard=none)
  (h2:o2.op=.defer ⟨.value (.tmp dm),#[],#[]⟩) (d2:o2.dst=none) (g2:o2.guard=none) (hdm:dm<a.tmps.size)
  (h:Q .normal { a.put (some dm) (.func (.func fc) #[] (caps.map a.eval)) with defers:=⟨.fn (.func fc) (caps.map a.eval),#[]⟩::a.defers } w):(Code.region id #[o1,o2] false).wp P Q a w:=by
 refine wp_region_lit (l:=[o1,o2]) ?_;refine wpList_plain g1 (fun K hK=>?_);have e1:(execOp a.eval o1).run P w=.ok (.value (.func (.func fc) #[] (caps.map a.eval))) w:=by
  unfold execOp;rw [h1];simp [Instr.makeFunc]
 unfold Oper.wp;rw [e1,Oper.upon_value,d1];refine hK _ _ ?_;refine wpList_plain g2 (fun K hK=>?_);have ev:(a.put (some dm) (.func (.func fc) #[] (caps.map a.eval))).eval (.tmp dm)=.func (.func fc) #[] (caps.map a.eval):=by
  show ((a.tmps.setIfInBounds dm _).getD dm undef)=_
  simp [hdm]
 have e2:(execOp (a.put (some dm) (.func (.func fc) #[] (caps.map a.eval))).eval o2).run P w=.ok (.defer ⟨.fn (.func fc) (caps.map a.eval),#[]⟩) w:=by
  unfold execOp;rw [h2];simp [resolve,ev,Deferred.ofValue]
 unfold Oper.wp;rw [e2,Oper.upon_defer,d2];exact hK _ _ h
def dpk (e:En) (fn cl:Func) (anC:An) (rs:List U) (KK:Fl rs->Prop) (i2 i3 i4 i6:Nat):PKt:=fun v t=>∃ n,v=Lt.flt n/\(Lit.int .i64 n).wf=true/\match gtA t.t 2,gtA t.t 3,gtA t.t 4 with
 | .one (.c (.pl ⟨.out j2,0,[]⟩)),.one (.c (.pl ⟨.out j3,0,[]⟩)),.one (.c (.pl ⟨.out j4,0,[]⟩))=>match Nat.beq j2 i2&&(Nat.beq j3 i3&&Nat.beq j4 i4) with
  | true=>PP e anC (cl.body.getD .skip) [i6,i2,i3,i4] n t (fun s'=>match [i2,i3,i4].all (FE s') with
   | true=>nJ e.P fn.results.toList rs KK ⟨s'.nx,[(2,0,.one (.c (.pl ⟨.out i2,0,[]⟩))),(3,0,.one (.c (.pl ⟨.out i3,0,[]⟩))),(4,0,.one (.c (.pl ⟨.out i4,0,[]⟩)))],s'.m⟩
   | false=>False)
  | false=>False
 | _,_,_=>False
def Dv (e:En) (fn cl:Func) (l:List (An×Code)) (an2 anC:An) (rest:Code) (ps rs:List U) (x:Fl ps) (KK:Fl rs->Prop):Prop:=
 KF e l (pc ps x) (fun s=>match gtA s.t 2,gtA s.t 3,gtA s.t 4,gtA s.t 6 with
  | .one (.c (.pl ⟨.loc i2,0,[]⟩)),.one (.c (.pl ⟨.loc i3,0,[]⟩)),.one (.c (.pl ⟨.loc i4,0,[]⟩)),.one (.c (.pl ⟨.loc i6,0,[]⟩))=>
   wpT ⟨e.P,e.E,e.cs,e.sh,dpk e fn cl anC rs KK i2 i3 i4 i6⟩ an2 rest (s.put (some 22) .any).sw ⟨nJ e.P fn.results.toList rs KK,fun _ _=>False,nJ e.P fn.results.toList rs KK⟩
  | _,_,_,_=>False) (nJ e.P fn.results.toList rs KK)
theorem yl {g:G} {s:St} {a:Act} {w:World} {H:FH} {γ:Gam} {F:Nm->Fp} (hX:RX g s.toS a w H γ F) (hex:g.ex=none) {k i:Nat} (h:gtA s.t k=.one (.c (.pl ⟨.loc i,0,[]⟩))):∃ b,γ (.loc i)=.blk b/\a.eval (.tmp k)=.pointer (some ⟨b,0,none⟩):=by
 have e:=hX.t k
 rw [G.tv_none hex,show aE s.toS.t k=(gtA s.t k).toV from cm k s.t,h] at e;obtain ⟨_,_,ad,h1,h2⟩:=e;simp only [plA] at h1;split at h1
 ·rename_i b hb;simp only [SJ] at h1;exact ⟨b,hb,by rw [show a.eval (.tmp k)=a.tmps.getD k undef from rfl,h2,h1]⟩
 ·cases h1
theorem ET {g:G} {s:St} {a:Act} {w:World} {H:FH} {γ:Gam} {F:Nm->Fp} (hX:RX g s.toS a w H γ F) (hex:g.ex=none) {k i b:Nat} (h:gtA s.t k=.one (.c (.pl ⟨.out i,0,[]⟩))) (hg:g.out i=some b):a.tmps.getD k undef=.pointer (some ⟨b,0,none⟩):=by
 have e:=hX.t k
 rw [G.tv_none hex,show aE s.toS.t k=(gtA s.t k).toV from cm k s.t,h] at e;obtain ⟨_,_,ad,h1,h2⟩:=e;simp only [plA,hX.df.2.1 _ _ hg,SJ] at h1;rw [h2,h1]
theorem EO {E:Ut} {cs:CTt} {sh:List (TypeId×List Sh)} (he:(⟨Tryz.prog,E,cs,sh,fun _ _=>False⟩:En).ok) (hm:Tryz.prog.follows .mixedOrders=true) {f:Nat} {fn:Func} (hf:Tryz.prog.funcs[f]? = some fn) (hname:(fn.name == "runtime.NumGoroutine")=false) {l:List (An×Code)} {an2 anC:An} {id:Nat} {o1 o2:Oper} {rest:Code}
  (hb:fn.body=some (seqs (l.map (·.2)) (.seq (.region id #[o1,o2] false) rest))) (h1:o1.op=.makeFunc (.func 37) #[] #[.tmp 6,.tmp 2,.tmp 3,.tmp 4]) (d1:o1.dst=some 22) (g1:o1.guard=none) (h2:o2.op=.defer ⟨.value (.tmp 22),#[],#[]⟩) (d2:o2.dst=none) (g2:o2.guard=none)
  (h22:Nat.blt 22 fn.ntmps=true) {ps rs:List U} {pre:Fl ps->Prop} {Fn:Fl ps->Fl rs} (hlen:Nat.ble ps.length fn.ntmps=true) (hc:l.all (fun x=>eQ fn.ntmps x.2)=true) (hc2:eQ fn.ntmps rest=true)
  (law:∀ x,pre x->∀ KK:Fl rs->Prop,KK (Fn x)->Dv ⟨Tryz.prog,E,cs,sh,fun _ _=>False⟩ fn Tryz.f37 l an2 anC rest ps rs x KK):Cont Tryz.prog f (bZ ps rs pre Fn):=by
 refine ⟨fP hf hname (by rw [hb]; rfl),fun pk s ops k k' hk hcc=>?_,fun g pk s a w H γ F1 ops k hX hops hcc=>?_⟩
 ·unfold bZ at hcc ⊢;dsimp only at hcc ⊢;split at hcc
  ·exact ⟨hcc.1,hk _ _ (bG _ _) hcc.2⟩
  ·exact hcc.elim
 ·unfold bZ at hcc;dsimp only at hcc;obtain ⟨H1,F2,h1'⟩:=bT (ops.map (evA s)) s H F1 hX;generalize aX s (ops.map (evA s))=s1 at hcc h1';split at hcc
  rotate_left
  ·exact hcc.elim
  rename_i x hx;have hlx:ops.length=ps.length:=by
   obtain ⟨_,_,c3⟩:=cr hx;have:=congrArg List.length c3
   rw [cd] at this;simpa using this
  have h:=law x hcc.1 (fun y=>k s1 (bJ rs y)) hcc.2
  have hX0:=Kv h1' hops hx (nt:=fn.ntmps) (by rw [hlx]; exact SP hlen)
  have e0:(pc ps x).toS=⟨aL 0 (eM ps x),[]⟩:=aZ.S_ext (fL 0 ps x) rfl
  rw [<- e0] at hX0;have fin:∀ (out:Nat->Option Nat) (ds:List Deferred) (t:St) (a':Act) (w':World),nJ Tryz.prog fn.results.toList rs (fun y=>k s1 (bJ rs y)) t->R ⟨fn.ntmps,w,H1,fun _=>0,out,none,ds⟩ t.toS a' w' ->
    ∃ v,(results fn a'.tmps).run Tryz.prog w'=.ok v w'/\gr g a pk k (.returned v) w':=by
   intro out ds t a' w' ht hR;obtain ⟨s2,hk2,H2,γ2,F3,hX2⟩:=kK (K:=fun r=>∃ y,r=(bJ rs y).toV/\k s1 (bJ rs y)) (fun r hr=>⟨r,rfl,hr⟩) ht hR;obtain ⟨y,v,s3,H3,F4,e1,e2,e3,e4,y0,e5,e6⟩:=sO hX2 rfl hk2;refine ⟨y,e1,.inl ⟨y,s1,bJ rs y0,H3,γ,F2,rfl,e6,?_,OU h1' e2.fr e2.mem.agree⟩⟩;rw [<- e5];exact cZ bK (gY (fun _ _ _ h=>h) e4 e3)
  refine calls_of_wp_defers hf hb (Lv (e:=⟨Tryz.prog,E,cs,sh,fun _ _=>False⟩) (g:=⟨fn.ntmps,w,H1,fun _=>0,fun _=>none,none,[]⟩) he hm (fun _ _ h=>h) (fun t a1 w1 ht hR=>?_) (fun t a1 w1 ht hR=>?_) l _ hc h _ w ⟨H1,γ,F2,hX0⟩)
  rotate_left
  ·obtain ⟨v,e1,e2⟩:=fin _ _ t a1 w1 ht hR;obtain ⟨_,_,_,hX1⟩:=hR;show Leaves Tryz.prog fn a1.tmps _ a1.defers .returning w1
   rw [show a1.defers=[] from hX1.df.1];exact ⟨v,e1,e2⟩
  ·obtain ⟨H2,γ2,F3,hX1⟩:=hR;split at ht
   rotate_left
   ·exact ht.elim
   rename_i i2 i3 i4 i6 t2 t3 t4 t6;obtain ⟨b2,q2,v2⟩:=yl hX1 rfl t2;obtain ⟨b3,q3,v3⟩:=yl hX1 rfl t3;obtain ⟨b4,q4,v4⟩:=yl hX1 rfl t4;obtain ⟨b6,q6,v6⟩:=yl hX1 rfl t6;have hnt:a1.tmps.size=fn.ntmps:=hX1.nt
   refine wp_seq (M4 h1 d1 g1 h2 d2 g2 (by rw [hnt]; exact SP h22) ?_);rw [show (#[.tmp 6,.tmp 2,.tmp 3,.tmp 4]:Array Operand).map a1.eval=#[.pointer (some ⟨b6,0,none⟩),.pointer (some ⟨b2,0,none⟩),.pointer (some ⟨b3,0,none⟩),.pointer (some ⟨b4,0,none⟩)] from by
    rw [<- v2,<- v3,<- v4,<- v6]; simp]
   have hP:=hX1.put (d:=some 22) (by show decide (22<fn.ntmps)=true; exact decide_eq_true (SP h22)) (v:=(At.any).toV) (y:=.func (.func 37) #[] #[.pointer (some ⟨b6,0,none⟩),.pointer (some ⟨b2,0,none⟩),.pointer (some ⟨b3,0,none⟩),.pointer (some ⟨b4,0,none⟩)]) trivial
   have hP2:=bE (ba _ _ _) hP
   have hS:=Rs hP2 (a':={ a1.put (some 22) (.func (.func 37) #[] #[.pointer (some ⟨b6,0,none⟩),.pointer (some ⟨b2,0,none⟩),.pointer (some ⟨b3,0,none⟩),.pointer (some ⟨b4,0,none⟩)]) with defers:=⟨.fn (.func 37) #[.pointer (some ⟨b6,0,none⟩),.pointer (some ⟨b2,0,none⟩),.pointer (some ⟨b3,0,none⟩),.pointer (some ⟨b4,0,none⟩)],#[]⟩::a1.defers }) (ds:=[⟨.fn (.func 37) #[.pointer (some ⟨b6,0,none⟩),.pointer (some ⟨b2,0,none⟩),.pointer (some ⟨b3,0,none⟩),.pointer (some ⟨b4,0,none⟩)],#[]⟩]) rfl (by rw [show a1.defers=[] from hX1.df.1])
   have o2':nh γ2 i2=some b2:=by simp only [nh,q2]
   have o3':nh γ2 i3=some b3:=by simp only [nh,q3]
   have o4':nh γ2 i4=some b4:=by simp only [nh,q4]
   have o6':nh γ2 i6=some b6:=by simp only [nh,q6]
   refine Code.wp_mono (fun y a' w' hl=>?_) (iN (e:=⟨Tryz.prog,E,cs,sh,dpk ⟨Tryz.prog,E,cs,sh,fun _ _=>False⟩ fn Tryz.f37 anC rs (fun y=>k s1 (bJ rs y)) i2 i3 i4 i6⟩) he hm rest an2 _ _ hc2 ht _ _ ⟨_,_,_,hS⟩);obtain ⟨s',hq,hR'⟩:=hl;have hdf:a'.defers=[⟨.fn (.func 37) #[.pointer (some ⟨b6,0,none⟩),.pointer (some ⟨b2,0,none⟩),.pointer (some ⟨b3,0,none⟩),.pointer (some ⟨b4,0,none⟩)],#[]⟩]:=by obtain ⟨_,_,_,hX'⟩:=hR'; exact hX'.df.1
   have hinv:(invoke (.fn (.func 37) #[.pointer (some ⟨b6,0,none⟩),.pointer (some ⟨b2,0,none⟩),.pointer (some ⟨b3,0,none⟩),.pointer (some ⟨b4,0,none⟩)]) #[]).run Tryz.prog w'=.ok (.enter 37 #[.pointer (some ⟨b6,0,none⟩),.pointer (some ⟨b2,0,none⟩),.pointer (some ⟨b3,0,none⟩),.pointer (some ⟨b4,0,none⟩)]) w':=by
    have:=fP (P:=Tryz.prog) (fn:=Tryz.f37) (f:=37) (by kernel_rfl) (by kernel_rfl) (by kernel_rfl) #[.pointer (some ⟨b6,0,none⟩),.pointer (some ⟨b2,0,none⟩),.pointer (some ⟨b3,0,none⟩),.pointer (some ⟨b4,0,none⟩)] w'
    simp [invoke,this]
   have fin2:∀ t:St,s'=t.toS->nJ Tryz.prog fn.results.toList rs (fun y=>k s1 (bJ rs y)) t->Leaves Tryz.prog fn a'.tmps (gr g a pk k) a'.defers .returning w':=by
    rintro t rfl ht
    rw [hdf];refine ⟨by simp,_,_,37,_,rfl,hinv,(OF _ _ _ _ w').mono ?_⟩;rintro e u' w'' ⟨⟨v,rfl⟩,rfl,rfl⟩
    obtain ⟨v,e1,e2⟩:=fin _ _ t a' w'' ht hR';exact ⟨v,e1,e2⟩
   cases y with
   | normal=>obtain ⟨t,e1,ht⟩:=hq; exact fin2 t e1 ht
   | ret=>obtain ⟨t,e1,ht⟩:=hq; exact fin2 t e1 ht
   | exit i=>obtain ⟨t,e1,ht⟩:=hq; exact ht.elim
   | panic c=>
    obtain ⟨v,t,rfl,rfl,n,rfl,hn,hv⟩:=hq;obtain ⟨H3,γ3,F4,hX3⟩:=hR';split at hv
    rotate_left
    ·exact hv.elim
    rename_i j2 j3 j4 u2 u3 u4;split at hv
    rotate_left
    ·exact hv.elim
    rename_i hj;simp only [SL,Nat.beq_eq] at hj;obtain ⟨rfl,rfl,rfl⟩:=hj;have p2:=ET hX3 rfl u2 o2'
    have p3:=ET hX3 rfl u3 o3'
    have p4:=ET hX3 rfl u4 o4'
    show Leaves Tryz.prog fn a'.tmps (gr g a pk k) a'.defers (.panicking (chn (Lt.flt n))) w'
    rw [hdf];refine ⟨by simp,_,_,37,_,rfl,hinv,(Nt he hm hX3 o6' o2' o3' o4' hn hv).mono ?_⟩;rintro e u' w'' ⟨⟨v,rfl⟩,hu,s3,hK,H5,γ5,F5,hX5⟩
    split at hK
    rotate_left
    ·exact hK.elim
    rename_i hok;simp only [S6,List.all_nil,Um,SL] at hok;obtain ⟨k2,k3,k4⟩:=hok;dsimp only;rw [hu];refine fin _ _ _ a' w'' hK ⟨H5,γ5,F5,hX5.mem,hX5.fr,hX5.nt,hX5.df,fun i=>?_⟩;rw [G.tv_none rfl];have hX6:RX _ (⟨s3.nx,[],s3.m⟩:St).toS a' w'' H5 γ5 F5:=hX5
    have y2:=iG hX6 k2 o2'
    have y3:=iG hX6 k3 o3'
    have y4:=iG hX6 k4 o4'
    match i with
    | 0=>exact trivial
    | 1=>exact trivial
    | 2=>rw [p2]; exact y2
    | 3=>rw [p3]; exact y3
    | 4=>rw [p4]; exact y4
    | i+5=>exact trivial
   | _=>exact hq.elim
end Go.Am
end

section
namespace Go.Am
open Go Go.Proofs
def NB (n:Nat) (b:EnB):List Code->St->(St->Bool)->(St->Bool)->Bool
 | [],s,k,_=>k s
 | c::l,s,k,r=>wpB n b c s ⟨fun s'=>NB n b l s' k r,fun _ _=>false,r⟩
def yi (n:Nat) (b:EnB) (fn:Func) (l:List Code) (rest:Code) (ps rs:List U) (x:Fl ps) (KK:Fl rs->Bool):Bool:=
 NB n b l (pc ps x) (fun s=>match gtA s.t 2,gtA s.t 3,gtA s.t 4,gtA s.t 6 with
  | .one (.c (.pl ⟨.loc _,0,[]⟩)),.one (.c (.pl ⟨.loc _,0,[]⟩)),.one (.c (.pl ⟨.loc _,0,[]⟩)),.one (.c (.pl ⟨.loc _,0,[]⟩))=>
   wpB n b rest (s.put (some 22) .any).sw ⟨BH b.e.P fn.results.toList rs KK,fun _ _=>false,BH b.e.P fn.results.toList rs KK⟩
  | _,_,_,_=>false) (BH b.e.P fn.results.toList rs KK)
theorem Gs {n:Nat} {b:EnB} (hc:zQ b.cs b.e.cs) {pk:PKt}:∀ (l:List Code) (s:St) {kb rb:St->Bool} {k r:St->Prop},(∀ s,kb s=true->k s)->(∀ s,rb s=true->r s)->NB n b l s kb rb=true->KF (b.w pk) (l.map fun c=>(ij n c,c)) s k r
 | [],s,_,_,_,_,hk,_,h=>hk s h
 | c::l,s,kb,rb,k,r,hk,hr,h=>iO hc n c s (Kb:=⟨fun s'=>NB n b l s' kb rb,fun _ _=>false,rb⟩) (K:=⟨fun s'=>KF (b.w pk) (l.map fun c=>(ij n c,c)) s' k r,fun _ _=>False,r⟩) ⟨fun s' h'=>Gs hc l s' hk hr h',fun _ _ h=>(by cases h),hr⟩ h
theorem Iu {n:Nat} {b:EnB} (hc:zQ b.cs b.e.cs) {fn cl:Func} {l:List Code} {anC:An} {rest:Code} {ps rs:List U} {x:Fl ps} {KKb:Fl rs->Bool} {KK:Fl rs->Prop} (hk:∀ y,KKb y=true->KK y) (h:yi n b fn l rest ps rs x KKb=true) :
  Dv (b.w fun _ _=>False) fn cl (l.map fun c=>(ij n c,c)) (ij n rest) anC rest ps rs x KK:=by
 have hr:∀ s,BH b.e.P fn.results.toList rs KKb s=true->nJ b.e.P fn.results.toList rs KK s:=fun s h=>zv hk h
 unfold yi at h;unfold Dv;refine Gs hc l _ (fun s h'=>?_) hr h;split at h'
 ·rename_i i2 i3 i4 i6 h2 h3 h4 h6
  (try rw [h2,h3,h4,h6])
  exact iO hc n rest _ ⟨hr,fun _ _ h=>(by cases h),hr⟩ h'
 ·cases h'
def kLs:Nat->Code->List Code
 | 0,_=>[]
 | n+1,.seq a b=>a::kLs n b
 | _+1,_=>[]
def kRs:Nat->Code->Code
 | 0,c=>c
 | n+1,.seq _ b=>kRs n b
 | _+1,c=>c
def kHd:Code->Code
 | .seq a _=>a
 | c=>c
def Rv:Code->Nat
 | .region id _ _=>id
 | _=>0
def Aw (c:Code) (i:Nat):Oper:=match c with
 | .region _ l _=>l.getD i default
 | _=>default
def FY {α β:Type} [DecidableEq α] (xs:List (α×β)) (df:β) (x:α):β:=match xs.find? (fun z=>decide (z.1=x)) with
 | some z=>z.2
 | none=>df
theorem BF {n:Nat} (E:Ut) (sh:List (TypeId×List Sh)) (l:ClS) (k:Nat) {f:Nat} (fn:Func) {ps rs:List U} [DecidableEq (Fl ps)] [DecidableEq (Fl rs)] (xs:List (Fl ps×Fl rs))
  (hf:Tryz.prog.funcs[f]? = some fn) (hname:(fn.name == "runtime.NumGoroutine")=false)
  (hb:fn.body=some (seqs (kLs k (fn.body.getD .skip)) (.seq (.region (Rv (kHd (kRs k (fn.body.getD .skip)))) #[Aw (kHd (kRs k (fn.body.getD .skip))) 0,Aw (kHd (kRs k (fn.body.getD .skip))) 1] false) (kRs (k+1) (fn.body.getD .skip)))))
  (h1:(Aw (kHd (kRs k (fn.body.getD .skip))) 0).op=.makeFunc (.func 37) #[] #[.tmp 6,.tmp 2,.tmp 3,.tmp 4]) (d1:(Aw (kHd (kRs k (fn.body.getD .skip))) 0).dst=some 22) (g1:(Aw (kHd (kRs k (fn.body.getD .skip))) 0).guard=none) (h2:(Aw (kHd (kRs k (fn.body.getD .skip))) 1).op=.defer ⟨.value (.tmp 22),#[],#[]⟩) (d2:(Aw (kHd (kRs k (fn.body.getD .skip))) 1).dst=none) (g2:(Aw (kHd (kRs k (fn.body.getD .skip))) 1).guard=none)
  (h22:Nat.blt 22 fn.ntmps=true) (hlen:Nat.ble ps.length fn.ntmps=true) (hc:(kLs k (fn.body.getD .skip)).all (fun c=>eQ fn.ntmps c)=true) (hc2:eQ fn.ntmps (kRs (k+1) (fn.body.getD .skip))=true)
  (df:Fl rs) (hall:∀ x∈xs,yi n (clE E sh l) fn (kLs k (fn.body.getD .skip)) (kRs (k+1) (fn.body.getD .skip)) ps rs x.1 (fun y=>decide (y=x.2))=true) :
  Cont Tryz.prog f (bZ ps rs (fun x=>∃ y,(x,y)∈xs) (FY xs df)):=by
 refine EO (E:=E) (cs:=clI l) (sh:=sh) (wF E sh l) qd hf hname (l:=(kLs k (fn.body.getD .skip)).map fun c=>(ij n c,c)) (an2:=ij n (kRs (k+1) (fn.body.getD .skip))) (anC:=.l)
  (id:=Rv (kHd (kRs k (fn.body.getD .skip)))) (by rw [SX,show ((fun x:An×Code=>x.2) ∘ fun c=>(ij n c,c))=id from rfl,List.map_id]; exact hb) h1 d1 g1 h2 d2 g2 h22 hlen (by rw [UG]; exact hc) hc2 (fun x hp KK hK=>?_)
 obtain ⟨y,hy⟩:=hp;unfold FY at hK;cases hfd:xs.find? (fun z=>decide (z.1=x)) with
 | none=>exact absurd (List.find?_eq_none.1 hfd _ hy) (by simp)
 | some z=>
  rw [hfd] at hK;have e1:z.1=x:=by simpa using List.find?_some hfd
  have hz:=hall z (List.mem_of_find?_eq_some hfd)
  rw [e1] at hz;exact Iu (b:=clE E sh l) (uA l) (fun w hw=>by rw [of_decide_eq_true hw]; exact hK) hz
end Go.Am
end

section
namespace Go.Am
open Go Go.RowKit Go.Proofs
theorem tz (w:World):Below w.heap.size w w:=Below.refl _ w
theorem Ca (c:UInt8):∀ l:List UInt8,-1<=Lib.indexByte l c/\Lib.indexByte l c<=(l.length:Int)
 | []=>by simp [Lib.indexByte]
 | b::l=>by
  have:=Ca c l
  unfold Lib.indexByte;simp only [SU];split
  ·omega
  ·split <;> omega
theorem vb {w:World} {H:FH} {γ:Gam} {m:Mm} {l:List UInt8} (h:l.length<=BIG):AR1 w H γ m (.c (.d (.str l))) (.string ⟨l.toArray⟩):=⟨fun _=>rfl,0,rfl,h⟩
theorem Qg {w:World} {H:FH} {γ:Gam} {k:IntKind} {n:Int} {y:Value} (h:AR w H γ [] (.one (.c (.d (.int k n)))) y):y=.int k n:=by
 obtain ⟨_,m,h⟩:=h;cases m <;> exact h.1
def L8:CKt:=bX [.s,.b8] [.i .i64] (fun x=>Lt.L7 x.1 x.2)
theorem MN:Cont Tryz.prog 129 L8:=y8 (kN (fP (fn:=Tryz.f129) (by kernel_rfl) (by kernel_rfl) (by kernel_rfl)) (fun x args w H γ _ hl ha hg hag=>by
 obtain ⟨s,c⟩:=x;obtain ⟨u,v,rfl,h1,h2⟩:=Ih (x:=.one (.c (.d (.str s)))) (y:=.one (.c (.d (.int .u8 (UInt8.toNat c:Int))))) hl ha;obtain ⟨rfl,hs⟩:=jJ h1;have hs:List.length (α:=UInt8) s<=BIG:=hs
 obtain rfl:=Qg h2;refine (Tryz.strings_IndexByte ⟨s.toArray⟩ (c.toNat:Int) w).mono ?_;rintro e w' ⟨rfl,hw⟩
 rw [hw];refine ⟨_,H,rfl,tz w,fun _ _ _ h=>h,fun b o h1 h2=>absurd h2 h1,fun b o x l c h1 h2=>by (rw [h2] at h1; cases h1),hag,?_⟩;have e1:((c.toNat:Int).toNat).toUInt8=c:=by simp
 have hi:=Ca c s
 rw [mL,e1];unfold BIG at hs;show AR w H γ [] (.one (.c (.d (.int .i64 (Lib.indexByte s c))))) (.int .i64 (Lib.indexByte s c))
 refine ⟨fun _=>rfl,0,rfl,?_⟩;simp only [Lit.wf,SL,decide_eq_true_eq,show IntKind.i64.min=-9223372036854775808 from rfl,show IntKind.i64.max=9223372036854775807 from rfl];omega))
def NI:CKt:=bX [.s,.s] [.s,.bo] (fun x=>Lt.PH x.1 x.2)
theorem Oe:Cont Tryz.prog 128 NI:=y8 (kN (fP (fn:=Tryz.f128) (by kernel_rfl) (by kernel_rfl) (by kernel_rfl)) (fun x args w H γ _ hl ha hg hag=>by
 obtain ⟨s,p⟩:=x;obtain ⟨u,v,rfl,h1,h2⟩:=Ih (x:=.one (.c (.d (.str s)))) (y:=.one (.c (.d (.str p)))) hl ha;obtain ⟨rfl,hs⟩:=jJ h1;have hs:List.length (α:=UInt8) s<=BIG:=hs
 obtain ⟨rfl,hp⟩:=jJ h2;refine (Tryz.strings_CutPrefix ⟨s.toArray⟩ ⟨p.toArray⟩ w).mono ?_;rintro e w' ⟨rfl,hw⟩
 rw [hw];refine ⟨_,H,rfl,tz w,fun _ _ _ h=>h,fun b o h1 h2=>absurd h2 h1,fun b o x l c h1 h2=>by (rw [h2] at h1; cases h1),hag,_,rfl,?_⟩;rw [mL,mL];have hl:(Lib.trimPrefix s p).length<=BIG:=by
  unfold Lib.trimPrefix;split
  ·rw [UF]; omega
  ·exact hs
 show ARs w H γ [] [.c (.d (.str (Lib.trimPrefix s p))),.c (.d (.bool (Lib.hasPrefix s p)))] [_,_]
 exact ⟨(vb hl:AR1 w H γ [] _ _),⟨fun _=>rfl,0,rfl⟩,trivial⟩))
def QU:CKt:=bZ [.s,.s] [.s,.s,.bo] (fun x=>Lt.QY x.1 x.2) (fun x=>Lt.RV x.1 x.2)
theorem QP:Cont Tryz.prog 59 QU:=kN (fP (fn:=Tryz.f59) (by kernel_rfl) (by kernel_rfl) (by kernel_rfl)) (fun x args w H γ hpre hl ha hg hag=>by
 obtain ⟨s,p⟩:=x;obtain ⟨u,v,rfl,h1,h2⟩:=Ih (x:=.one (.c (.d (.str s)))) (y:=.one (.c (.d (.str p)))) hl ha;obtain ⟨rfl,hs⟩:=jJ h1;have hs:List.length (α:=UInt8) s<=BIG:=hs
 obtain ⟨rfl,hp⟩:=jJ h2;have hpre:s.length < 4294967281:=hpre
 obtain ⟨m,hm⟩:=xe hg hag (k:=1) (by rfl);refine (Tryz.strings_Cut ⟨s.toArray⟩ ⟨p.toArray⟩ m w (by rw [oC]; exact hpre) hm).mono ?_;rintro e w' ⟨rfl,n,rfl⟩
 refine ⟨_,H,rfl,B3 _ _ _,fun _ _ _ h=>h,fun b o h1 h2=>absurd h2 h1,fun b o x l c h1 h2=>by (rw [h2] at h1; cases h1),hag,_,rfl,?_⟩;rw [mL,mL];have hl:(Lib.cut s p).1.length<=BIG/\(Lib.cut s p).2.1.length<=BIG:=by
  unfold Lib.cut;split
  ·refine ⟨?_,?_⟩
   ·show (s.take _).length<=_; rw [TF]; omega
   ·show (s.drop _).length<=_; rw [UF]; omega
  ·exact ⟨hs,by unfold BIG; simp⟩
 show ARs _ H γ [] [.c (.d (.str (Lib.cut s p).1)),.c (.d (.str (Lib.cut s p).2.1)),.c (.d (.bool (Lib.cut s p).2.2))] [_,_,_]
 exact ⟨(vb hl.1:AR1 (w.drewN n) H γ [] _ _),(vb hl.2:AR1 (w.drewN n) H γ [] _ _),⟨fun _=>rfl,0,rfl⟩,trivial⟩)
theorem rC (p:ByteArray):∀ (k:Nat) (s:ByteArray),∀ x∈Lib.splitB p 0 k s,x.size<=s.size
 | 0,s,x,hx=>by rw [Lib.splitB_zero,SY] at hx; rw [hx]; exact SN _
 | k+1,s,x,hx=>by
  unfold Lib.splitB at hx;split at hx
  ·rw [SY] at hx; rw [hx]; exact SN _
  ·rcases SS.1 hx with rfl | hx
   ·simp only [ByteArray.size_extract]; omega
   ·have:=rC p k _ x hx
    simp only [ByteArray.size_extract] at this;omega
def Nd:CKt:=bZ [.s,.s] [.sl .s] (fun x=>Lt.Nc x.1 x.2) (fun x=>Lt.zP x.1 x.2)
theorem MP:Cont Tryz.prog 58 Nd:=kN (fP (fn:=Tryz.f58) (by kernel_rfl) (by kernel_rfl) (by kernel_rfl)) (fun x args w H γ hpre hl ha hg hag=>by
 obtain ⟨s,p⟩:=x;obtain ⟨u,v,rfl,h1,h2⟩:=Ih (x:=.one (.c (.d (.str s)))) (y:=.one (.c (.d (.str p)))) hl ha;obtain ⟨rfl,hs⟩:=jJ h1;have hs:List.length (α:=UInt8) s<=BIG:=hs
 obtain ⟨rfl,hp⟩:=jJ h2;obtain ⟨hpre,hp1⟩:s.length < 4294967281/\1<=p.length:=hpre;obtain ⟨m,hm⟩:=xe hg hag (k:=1) (by rfl);have hsz:=oC s
 refine (Tryz.strings_Split ⟨s.toArray⟩ ⟨p.toArray⟩ m w (by rw [hsz]; exact hpre) hm (by rw [oC]; exact hp1)).mono ?_;rintro e w' ⟨rfl,rfl⟩
 have hlen:=Lib.splitB_all ⟨p.toArray⟩ (by rw [oC]; exact hp1) 0 _ ⟨s.toArray⟩ rfl
 have hle:=Lib.countB_le ⟨p.toArray⟩ (by rw [oC]; exact hp1) _ ⟨s.toArray⟩ (SN _)
 have hsm:=rC ⟨p.toArray⟩ (Lib.countB ⟨s.toArray⟩ ⟨p.toArray⟩) ⟨s.toArray⟩
 have hG:Lt.zP s p=(Lib.splitB ⟨p.toArray⟩ 0 (Lib.countB ⟨s.toArray⟩ ⟨p.toArray⟩) ⟨s.toArray⟩).map (·.data.toList):=rfl
 generalize Lib.splitB ⟨p.toArray⟩ 0 (Lib.countB ⟨s.toArray⟩ ⟨p.toArray⟩) ⟨s.toArray⟩=L at hlen hsm hG ⊢;rw [<- hlen];rw [hsz] at hle hsm;refine ⟨_,fun b o=>if b=w.heap.size then (L.map Value.string).toArray[o]? else H b o,rfl,(Below.refl _ w).alloc (SN _) _,fun b o y h=>?_,fun b o h1 h2=>?_,fun b o x l c h1 h2=>?_,fun b o y h=>?_,fun _=>rfl,1,?_⟩
 ·have:=World.block_lt_of_cell? _ _ (hag b o y h)
  have this:b<w.heap.size:=this
  dsimp only;rw [if_neg (by omega)]; exact h
 ·dsimp only at h1;split at h1
  ·omega
  ·exact absurd h2 h1
 ·dsimp only at h1;split at h1
  ·have h1:=Array.mem_of_getElem? h1
   simp at h1
  ·rw [h2] at h1; cases h1
 ·dsimp only at h;split at h
  ·rename_i hb;subst hb;rw [World.cell?_alloc_new]; exact h
  ·rename_i hb;rw [World.cell?_alloc_old _ _ _ hb]; exact hag b o y h
 ·show FD _ 1 (.li ((Lt.zP s p).map (ai .s))) _
  rw [hG,lj];unfold BIG at hs ⊢;refine ⟨_,_,by rw [List.length_map,List.length_map],by simp,by simp; omega,.inr ⟨w.heap.size,0,1,rfl,fun i hi=>?_⟩⟩;have hi:i<L.length:=by simpa using hi
  have e:((L.map (·.data.toList)).map (ai .s)).getD i []=[.str L[i].data.toList]:=by
   rw [List.getD,SM,SM,SK hi]; rfl
  rw [e];refine ⟨rfl,fun j hj=>?_⟩;have hj:j=0:=by omega
  subst hj;refine ⟨.string L[i],?_,?_⟩
  ·dsimp only;rw [if_pos rfl];simp [hi]
  ·refine ⟨by simp,?_⟩;have:=hsm L[i] (Tk hi)
   show L[i].data.toList.length<=BIG
   unfold BIG;rw [<- Lib.size_eq]; omega)
end Go.Am
end
