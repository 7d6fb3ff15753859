/-
  Part 17: AmClo · AmDef · AmB4 · AmLibC.
-/
import Derived.Test.YtjccmeppajblpaaGreatDoorSk16
import Derived.Recover
set_option linter.unusedSimpArgs false
set_option linter.unusedVariables false
set_option linter.unusedSectionVars false
set_option linter.unnecessarySimpa false
section
namespace Go.Am
open Go Go.RowKit Go.Proofs
def recV (cs:List Frame):Value×List Frame:=match recoverD cs with
 | some (v,cs')=>(v,cs')
 | none=>(.nilIface,cs)
theorem wpS_rec {P:Program} {Q:Exit->Act->List Frame->World->Prop} {id:Nat} {o0 o1:Oper} {d:Nat} {a:Act} {cs:List Frame} {w:World} (h0:o0.op=.call ⟨.builtin .recover,#[],#[]⟩) (h1:o1.op=.assign (.tmp d)) (g0:o0.guard=none) (g1:o1.guard=none)
  (h:Q .normal ((a.put o0.dst (recV cs).1).put o1.dst ((a.put o0.dst (recV cs).1).eval (.tmp d))) (recV cs).2 w):(Code.region id #[o0,o1] false).wpS P Q a cs w:=by
 refine wpS_region ?_
 show wpOpsS _ _ _ [0,1] _ _ _
 have e0:∀ a:Act,(execOp a.eval o0).run P w=.ok .recover w:=fun a=>by
  unfold execOp
  rw [h0]
  rfl
 have e1:∀ a:Act,(execOp a.eval o1).run P w=.ok (.value (a.eval (.tmp d))) w:=fun a=>by
  unfold execOp
  rw [h1]
  rfl
 have i0:(#[o0,o1]:Array Oper)[0]? = some o0:=rfl
 have i1:(#[o0,o1]:Array Oper)[1]? = some o1:=rfl
 have w0:∀ f,Region.wanted o0 f=true:=fun f=>by simp [Region.wanted,g0]
 have w1:∀ f,Region.wanted o1 f=true:=fun f=>by simp [Region.wanted,g1]
 have fin:∀ v cs',Q .normal ((a.put o0.dst v).put o1.dst ((a.put o0.dst v).eval (.tmp d))) cs' w->wpOpsS P #[o0,o1] Q [1] (a.put o0.dst v) cs' w:=by
  intro v cs' hq
  unfold wpOpsS
  rw [i1]
  dsimp only
  rw [if_pos (w1 _),e1]
  exact hq
 unfold wpOpsS
 rw [i0]
 dsimp only
 rw [if_pos (w0 _),e0]
 unfold recV at h
 cases hr:recoverD cs with
 | none=>rw [hr] at h; exact fin _ _ h
 | some x=>obtain ⟨v,cs'⟩:=x; rw [hr] at h; exact fin _ _ h
theorem neq_iface {P:Program} {t u:TypeId} {ms} {x:Value} (h:P.underlying t=some (.interface ms)) (w:World):(binOp .neq t (.iface u x) .nilIface).run P w=.ok (.bool true) w:=by
 show (do pure (.bool (!(<- Op.equal t (.iface u x) .nilIface))):Sem Value).run P w=_
 unfold Op.equal Op.maxDepth
 rw [show (10000:Nat)=9999+1 from rfl]
 unfold Op.equalIn
 simp only [Sem.run_bind,run_underlying h,Result.andThen]
 rfl
theorem wp_act {P:Program} {c:Code} {Q:Exit->Act->World->Prop} {a:Act} {w:World} (b:Act) (h:a=b) (hb:c.wp P Q b w):c.wp P Q a w:=h ▸ hb
theorem wp_cast {P:Program} {c c':Code} {Q Q':Exit->Act->World->Prop} {a a':Act} {w:World} (hc:c'=c) (ha:a'=a) (h:c'.wp P Q' a' w) (hq:∀ e a w,Q' e a w->Q e a w):c.wp P Q a w:=by rw [<- hc,<- ha]; exact Code.wp_mono hq h
theorem clo_ret (p0 p1 p2 p3:Value) (w:World):CallsD Tryz.prog 37 #[p0,p1,p2,p3] .returning w fun e u' w'=>(∃ v,e=.returned v)/\u'=.returning/\w'=w:=by
 refine callsD_of_wpS Tryz.func37 rfl (fun c0 cs hc=>?_)
 refine wpS_seq (wpS_rec rfl rfl rfl rfl ?_)
 have hr:recV (c0::cs)=(.nilIface,c0::cs):=by simp [recV,recoverD,hc]
 rw [hr]
 refine wpS_of_wp ?_
 refine wp_act { tmps:=#[p0,p1,p2,p3,.nilIface,undef,undef,.nilIface,undef,undef,undef,undef,undef,undef,undef,undef,undef,undef,undef,undef,undef,undef,undef,undef,undef],defers:=[] } (by kernel_rfl) ?_
 go_wp2
 exact ⟨rfl,c0.mode,rfl,.tuple #[],(by rw [results_eq,show Tryz.f37.results=#[] from rfl]; simp),⟨_,rfl⟩,hc,rfl⟩
section
variable {P:Program} {g:G} {Q:Exit->S->Prop}
theorem AR_v {w:World} {H:FH} {γ:Gam} {m:Mm} {x y:Value} (h:AR w H γ m (.one (.c (.d (.v x)))) y):y=x:=by
 obtain ⟨_,m,h⟩:=h
 cases m <;> exact h.1
theorem AL_cast {ops rest ops' rest':List Oper} {s:S} (h1:ops'=ops) (h2:rest'=rest) (h:AL P g ops' rest' Q s):AL P g ops rest Q s:=by rw [<- h1,<- h2]; exact h
theorem AW_cast {c c':Code} {s:S} (h1:c'=c) (h:AW P g c' Q s):AW P g c Q s:=by rw [<- h1]; exact h
theorem AL_val {ops rest:List Oper} {o:Oper} {s:St} (v:At) (hg:o.guard=none) (hd:okD g.nt o.dst=true)
  (h:∀ a w H γ F,RX g s.toS a w H γ F->∃ y,(execOp a.eval o).run P w=.ok (.value y) w/\AR w H γ s.toS.m v.toV y) (hk:AL P g ops rest Q (s.put o.dst v).toS):AL P g ops (o::rest) Q s.toS:=by
 refine AL_cons hg (AO_of_t (fun a w hR=>?_))
 obtain ⟨H,γ,F,hX⟩:=hR
 obtain ⟨y,e1,e2⟩:=h a w H γ F hX
 unfold Oper.wp
 rw [e1]
 exact ⟨_,hk,H,γ,F,RX_SEq (put_SEq s o.dst v) (hX.put hd e2)⟩
def okOut (t:St) (i:Nat):Bool:=match getM t.m (.out i) with
 | some r=>!r.cells.isEmpty
 | none=>false
def kL:Code->Code | .seq a _=>a | c=>c
def kR:Code->Code | .seq _ b=>b | c=>c
def kT:Code->Code | .cond _ a _=>a | c=>c
def kO:Code->List Oper | .region _ ops _=>ops.toList | _=>[]
abbrev cloA (is:List Nat) (t:St):St:=⟨t.nx+1,argT t.nx 0 (is.map fun i=>.one (.c (.pl ⟨.out i,0,[]⟩))),t.m⟩
abbrev cloB (is:List Nat) (n:Int) (t:St):St:=((cloA is t).put (some 7) (sct (.v (Lt.flt n)))).put (some 4) (sct (.v (Lt.flt n)))
abbrev cloC (is:List Nat) (n:Int) (t:St):St:=((cloB is n t).put (some 8) (sct (.v (Lt.flt n)))).put (some 9) (sct (.bo true))
abbrev cloD (is:List Nat) (n:Int) (t:St):St:=((cloC is n t).put (some 11) (sct (.v (Lt.flt n)))).put (some 12) (.tup [.agg [.d (.i .i64 n)],.c (.d (.bo true))])
def cloT (e:En) (an:An) (c:Code) (is:List Nat) (n:Int) (t:St) (K:St->Prop):Prop:=
 match is.all (okOut t) with
 | true=>opsT e (kO (kL (kT (kR (kR c))))) ((kO (kL (kT (kR (kR c))))).drop 2) (cloD is n t) (fun s=>opsT e (kO (kL (kL (kR (kT (kR (kR c))))))) (kO (kL (kL (kR (kT (kR (kR c))))))) s (fun s=>match gtA s.t 16 with
  | .one (.c (.d (.bo false)))=>wpT e an (kR (kR (kT (kR (kR c))))) s ⟨K,fun _ _=>False,K⟩
  | _=>False))
 | false=>False
theorem okOut_ok {w:World} {H:FH} {γ:Gam} {F:Nm->Fp} {a:Act} {t:St} {i b:Nat} (hX:RX g t.toS a w H γ F) (h:okOut t i=true) (hg:g.out i=some b):AR w H γ t.toS.m (.one (.c (.pl ⟨.out i,0,[]⟩))) (.pointer (some ⟨b,0,none⟩)):=by
 refine ⟨fun _=>rfl,?_,⟨b,0,none⟩,?_,rfl⟩
 ·unfold okOut at h
  split at h
  ·rename_i r hr
   rw [okPl_iff]
   refine ⟨_,getR_of hr,?_⟩
   show 0<r.toR.cells.length
   have hl:r.toR.cells.length=r.cells.length:=by
    unfold Rt.toR holed
    dsimp only
    split
    ·simp
    ·split <;> simp
   rw [hl]
   cases hc:r.cells with
   | nil=>rw [hc] at h; cases h
   | cons x y=>simp
  ·cases h
 ·simp only [plA,hX.df.2.1 _ _ hg]
theorem get4 (x0 x1 x2 x3:Value) (r:Array Value) (i:Nat) (hi:i < 4):(#[x0,x1,x2,x3]++r).getD i undef=#[x0,x1,x2,x3].getD i undef:=by
 rw [Array.getD_eq_getD_getElem?,Array.getD_eq_getD_getElem?,Array.getElem?_append_left (by simpa using hi)]
set_option maxRecDepth 100000 in
theorem clo_pan {E:Ut} {cs:CTt} {sh:List (TypeId×List Sh)} (he:(⟨Tryz.prog,E,cs,sh,fun _ _=>False⟩:En).ok) (hm:Tryz.prog.follows .mixedOrders=true) {t:St} {a0:Act} {w:World} {H:FH} {γ:Gam} {F:Nm->Fp} (hX:RX g t.toS a0 w H γ F)
  {i0 i1 i2 i3 b0 b1 b2 b3:Nat} (h0:g.out i0=some b0) (h1:g.out i1=some b1) (h2:g.out i2=some b2) (h3:g.out i3=some b3) {n:Int} (hn:(Lit.int .i64 n).wf=true) {an:An} {K:St->Prop} (h:cloT ⟨Tryz.prog,E,cs,sh,fun _ _=>False⟩ an (Tryz.f37.body.getD .skip) [i0,i1,i2,i3] n t K) :
  CallsD Tryz.prog 37 #[.pointer (some ⟨b0,0,none⟩),.pointer (some ⟨b1,0,none⟩),.pointer (some ⟨b2,0,none⟩),.pointer (some ⟨b3,0,none⟩)] (.panicking (chn (Lt.flt n))) w
   fun e u' w'=>(∃ v,e=.returned v)/\settle u'=.returning/\∃ s':St,K s'/\∃ H' γ' F',RX g ⟨[],s'.toS.m⟩ a0 w' H' γ' F':=by
 refine callsD_of_wpS Tryz.func37 rfl (fun c0 cs' hc=>?_)
 refine wpS_seq (wpS_rec rfl rfl rfl rfl ?_)
 have hr:recV (c0::cs')=(Lt.flt n,{ c0 with mode:=.panicking [{ v:=Lt.flt n,recovered:=true }] }::cs'):=by simp [recV,recoverD,hc]
 rw [hr]
 refine wpS_of_wp ?_
 unfold cloT at h
 split at h
 rotate_left
 ·exact h.elim
 rename_i hok
 simp only [List.all_cons,List.all_nil,Bool.and_true,Bool.and_eq_true] at hok
 obtain ⟨k0,k1,k2,k3⟩:=hok
 let g3:G:=⟨25,g.w0,g.H0,g.own0,g.out,none,[]⟩
 have u0:=okOut_ok hX k0 h0
 have u1:=okOut_ok hX k1 h1
 have u2:=okOut_ok hX k2 h2
 have u3:=okOut_ok hX k3 h3
 have hA:RX g3 (cloA [i0,i1,i2,i3] t).toS { tmps:=#[.pointer (some ⟨b0,0,none⟩),.pointer (some ⟨b1,0,none⟩),.pointer (some ⟨b2,0,none⟩),.pointer (some ⟨b3,0,none⟩)]++Array.replicate (Tryz.f37.ntmps - 4) undef,defers:=[] } w H γ F:=by
  refine ⟨hX.mem,hX.fr,by kernel_rfl,⟨rfl,hX.df.2⟩,fun i=>?_⟩
  rw [G.tv_none rfl]
  match i with
  | 0=>rw [get4 _ _ _ _ _ 0 (by decide)]; exact u0
  | 1=>rw [get4 _ _ _ _ _ 1 (by decide)]; exact u1
  | 2=>rw [get4 _ _ _ _ _ 2 (by decide)]; exact u2
  | 3=>rw [get4 _ _ _ _ _ 3 (by decide)]; exact u3
  | i+4=>exact trivial
 have hF:∀ (w:World) (H:FH) (γ:Gam) (m:Mm),AR w H γ m (sct (.v (Lt.flt n))).toV (Lt.flt n):=fun w H γ m=>⟨fun _=>rfl,0,rfl,rfl⟩
 have hB:=RX_SEq (put_SEq _ _ _) ((RX_SEq (put_SEq _ _ _) (hA.put (d:=some 7) rfl (hF _ _ _ _))).put (d:=some 4) rfl (hF _ _ _ _))
 have run:AW Tryz.prog g3 (kR (Tryz.f37.body.getD .skip)) (LQ (fun _ _=>False) ⟨K,fun _ _=>False,K⟩) (cloB [i0,i1,i2,i3] n t).toS:=by
  refine AW_seq (AW_region (AL_val (sct (.v (Lt.flt n))) rfl rfl (fun a w H γ F hX=>?_) (AL_val (sct (.bo true)) rfl rfl (fun a w H γ F hX=>?_) (AL_nil (AW_cond (b:=true) ?_ (fun _=>AW_seq (AW_region (AL_val (sct (.v (Lt.flt n))) rfl rfl (fun a w H γ F hX=>?_)
   (AL_val (.tup [.agg [.d (.i .i64 n)],.c (.d (.bo true))]) rfl rfl (fun a w H γ F hX=>?_) ?_)))) (fun h=>by cases h))))))
  ·have e:=hX.t 4
   rw [G.tv_none rfl] at e
   exact ⟨_,rfl,e⟩
  ·have e:=hX.t 8
   rw [G.tv_none rfl] at e
   have e8:a.eval (.tmp 8)=Lt.flt n:=AR_v e
   refine ⟨.bool true,?_,⟨fun _=>rfl,0,rfl⟩⟩
   simp only [execOp,e8,show a.eval (.const .nilIface)=.nilIface from rfl,Sem.run_bind,Lt.flt,neq_iface Tryz.underlying20]
   simp [eqGuard,Result.andThen]
  ·rfl
  ·have e:=hX.t 4
   rw [G.tv_none rfl] at e
   exact ⟨_,rfl,e⟩
  ·have e:=hX.t 11
   rw [G.tv_none rfl] at e
   have e8:a.eval (.tmp 11)=Lt.flt n:=AR_v e
   refine ⟨.tuple #[.agg #[.int .i64 n],.bool true],?_,?_⟩
   ·simp only [execOp,e8,Sem.run_bind,Instr.typeAssert,Lt.flt,run_underlying Tryz.underlying101,Result.andThen]
    simp
   ·exact ⟨_,rfl,⟨_,rfl,rfl,⟨_,[],fun _=>0,fun _=>0,rfl,fun _=>rfl,⟨fun _=>rfl,0,rfl,hn⟩,fun _=>rfl⟩⟩,⟨fun _=>rfl,0,rfl⟩,trivial⟩
  ·refine AL_cast (by kernel_rfl) (by kernel_rfl) (AL_opsT (e:=⟨Tryz.prog,E,cs,sh,fun _ _=>False⟩) he (fun x s h=>h.elim fun _ h=>h.elim fun _ h=>h.2.2.elim) (by kernel_rfl) h (fun t ht=>?_))
   refine AW_seq (AW_seq (AW_region (AL_cast (by kernel_rfl) (by kernel_rfl) (AL_opsT (e:=⟨Tryz.prog,E,cs,sh,fun _ _=>False⟩) he (fun x s h=>h.elim fun _ h=>h.elim fun _ h=>h.2.2.elim) (by kernel_rfl) ht (fun t ht=>?_)))))
   split at ht
   ·rename_i hg16
    exact AW_cond (b:=false) (gtA_eq hg16) (fun h=>by cases h) (fun _=>AW_skip (AW_cast (by kernel_rfl) (AW_wpT he hm _ an t _ (by kernel_rfl) ht)))
   ·exact ht.elim
 refine wp_cast (by kernel_rfl) (by kernel_rfl) (run _ _ ⟨H,γ,F,hB⟩) (fun x a' w' hl=>?_)
 obtain ⟨s',hq,H',γ',F',hX'⟩:=hl
 have fin:∀ t':St,s'=t'.toS->K t'->a'.defers=[]/\∃ u',({ c0 with mode:=.panicking [{ v:=Lt.flt n,recovered:=true }] }::cs':List Frame)={ c0 with mode:=u' }::cs'/\∃ v,(results Tryz.f37 a'.tmps).run Tryz.prog w'=.ok v w' /\
   ((∃ v',Ending.returned v=.returned v')/\settle u'=.returning/\∃ s':St,K s'/\∃ H' γ' F',RX g ⟨[],s'.toS.m⟩ a0 w' H' γ' F'):=by
  rintro t' rfl hk
  exact ⟨hX'.df.1,_,rfl,.tuple #[],(by rw [results_eq,show Tryz.f37.results=#[] from rfl]; simp),⟨_,rfl⟩,rfl,t',hk,H',γ',F',hX'.mem,hX'.fr,hX.nt,⟨hX.df.1,hX'.df.2⟩,fun _=>trivial⟩
 cases x with
 | normal=>obtain ⟨t',e1,ht⟩:=hq; exact fin t' e1 ht
 | ret=>obtain ⟨t',e1,ht⟩:=hq; exact fin t' e1 ht
 | exit i=>obtain ⟨t',e1,ht⟩:=hq; exact ht.elim
 | panic c=>obtain ⟨_,_,_,_,hv⟩:=hq; exact hv.elim
 | _=>exact hq.elim
end
end Go.Am
end

section
namespace Go.Am
open Go Go.RowKit Go.Proofs
def seqs:List Code->Code->Code
 | [],c=>c
 | a::l,c=>.seq a (seqs l c)
def wpTs (e:En):List (An×Code)->St->(St->Prop)->(St->Prop)->Prop
 | [],s,k,_=>k s
 | x::l,s,k,r=>wpT e x.1 x.2 s ⟨fun s'=>wpTs e l s' k r,fun _ _=>False,r⟩
theorem wp_pre {e:En} (he:e.ok) (hm:e.P.follows .mixedOrders=true) {g:G} {rest:Code} {Post:Exit->Act->World->Prop} {k r:St->Prop} (hpk:∀ v s,¬ e.pk v s)
  (hk:∀ (t:St) a w,k t->R g t.toS a w->rest.wp e.P Post a w) (hr:∀ (t:St) a w,r t->R g t.toS a w->Post .ret a w) :
  ∀ (l:List (An×Code)) (s:St),l.all (fun x=>chkC g.nt x.2)=true->wpTs e l s k r->∀ a w,R g s.toS a w->(seqs (l.map (·.2)) rest).wp e.P Post a w
 | [],s,_,h,a,w,hR=>hk s a w h hR
 | x::l,s,hc,h,a,w,hR=>by
  rw [List.all_cons,Bool.and_eq_true] at hc
  refine wp_seq (Code.wp_mono (fun y a' w' hl=>?_) (AW_wpT he hm x.2 x.1 s _ hc.1 h a w hR))
  obtain ⟨s',hq,hR'⟩:=hl
  cases y with
  | normal=>obtain ⟨t,rfl,ht⟩:=hq; exact wp_pre he hm hpk hk hr l t hc.2 ht a' w' hR'
  | ret=>obtain ⟨t,rfl,ht⟩:=hq; exact hr t a' w' ht hR'
  | exit i=>obtain ⟨t,rfl,ht⟩:=hq; exact ht.elim
  | panic c=>obtain ⟨v,t,rfl,rfl,hv⟩:=hq; exact (hpk _ _ hv).elim
  | _=>exact hq.elim
theorem wp_defer {P:Program} {Q:Exit->Act->World->Prop} {id dm fc:Nat} {caps:Array Operand} {o1 o2:Oper} {a:Act} {w:World} (h1:o1.op=.makeFunc (.func fc) #[] caps) (d1:o1.dst=some dm) (g1:o1.guard=none)
  (h2:o2.op=.defer ⟨.value (.tmp dm),#[],#[]⟩) (d2:o2.dst=none) (g2:o2.guard=none) (hdm:dm<a.tmps.size)
  (h:Q .normal { a.put (some dm) (.func (.func fc) #[] (caps.map a.eval)) with defers:=⟨.fn (.func fc) (caps.map a.eval),#[]⟩::a.defers } w):(Code.region id #[o1,o2] false).wp P Q a w:=by
 refine wp_region_lit (l:=[o1,o2]) ?_
 refine wpList_plain g1 (fun K hK=>?_)
 have e1:(execOp a.eval o1).run P w=.ok (.value (.func (.func fc) #[] (caps.map a.eval))) w:=by
  unfold execOp
  rw [h1]
  simp [Instr.makeFunc]
 unfold Oper.wp
 rw [e1,Oper.upon_value,d1]
 refine hK _ _ ?_
 refine wpList_plain g2 (fun K hK=>?_)
 have ev:(a.put (some dm) (.func (.func fc) #[] (caps.map a.eval))).eval (.tmp dm)=.func (.func fc) #[] (caps.map a.eval):=by
  show ((a.tmps.setIfInBounds dm _).getD dm undef)=_
  simp [hdm]
 have e2:(execOp (a.put (some dm) (.func (.func fc) #[] (caps.map a.eval))).eval o2).run P w=.ok (.defer ⟨.fn (.func fc) (caps.map a.eval),#[]⟩) w:=by
  unfold execOp
  rw [h2]
  simp [resolve,ev,Deferred.ofValue]
 unfold Oper.wp
 rw [e2,Oper.upon_defer,d2]
 exact hK _ _ h
def dpk (e:En) (fn cl:Func) (anC:An) (rs:List U) (KK:Fl rs->Prop) (i2 i3 i4 i6:Nat):PKt:=fun v t=>∃ n,v=Lt.flt n/\(Lit.int .i64 n).wf=true/\match gtA t.t 2,gtA t.t 3,gtA t.t 4 with
 | .one (.c (.pl ⟨.out j2,0,[]⟩)),.one (.c (.pl ⟨.out j3,0,[]⟩)),.one (.c (.pl ⟨.out j4,0,[]⟩))=>match Nat.beq j2 i2&&(Nat.beq j3 i3&&Nat.beq j4 i4) with
  | true=>cloT e anC (cl.body.getD .skip) [i6,i2,i3,i4] n t (fun s'=>match [i2,i3,i4].all (okOut s') with
   | true=>retT e.P fn.results.toList rs KK ⟨s'.nx,[(2,0,.one (.c (.pl ⟨.out i2,0,[]⟩))),(3,0,.one (.c (.pl ⟨.out i3,0,[]⟩))),(4,0,.one (.c (.pl ⟨.out i4,0,[]⟩)))],s'.m⟩
   | false=>False)
  | false=>False
 | _,_,_=>False
def bodyDT (e:En) (fn cl:Func) (l:List (An×Code)) (an2 anC:An) (rest:Code) (ps rs:List U) (x:Fl ps) (KK:Fl rs->Prop):Prop:=
 wpTs e l (entS ps x) (fun s=>match gtA s.t 2,gtA s.t 3,gtA s.t 4,gtA s.t 6 with
  | .one (.c (.pl ⟨.loc i2,0,[]⟩)),.one (.c (.pl ⟨.loc i3,0,[]⟩)),.one (.c (.pl ⟨.loc i4,0,[]⟩)),.one (.c (.pl ⟨.loc i6,0,[]⟩))=>
   wpT ⟨e.P,e.E,e.cs,e.sh,dpk e fn cl anC rs KK i2 i3 i4 i6⟩ an2 rest (s.put (some 22) .any).sw ⟨retT e.P fn.results.toList rs KK,fun _ _=>False,retT e.P fn.results.toList rs KK⟩
  | _,_,_,_=>False) (retT e.P fn.results.toList rs KK)
theorem loc_at {g:G} {s:St} {a:Act} {w:World} {H:FH} {γ:Gam} {F:Nm->Fp} (hX:RX g s.toS a w H γ F) (hex:g.ex=none) {k i:Nat} (h:gtA s.t k=.one (.c (.pl ⟨.loc i,0,[]⟩))):∃ b,γ (.loc i)=.blk b/\a.eval (.tmp k)=.pointer (some ⟨b,0,none⟩):=by
 have e:=hX.t k
 rw [G.tv_none hex,show getT s.toS.t k=(gtA s.t k).toV from gtA_toS k s.t,h] at e
 obtain ⟨_,_,ad,h1,h2⟩:=e
 simp only [plA] at h1
 split at h1
 ·rename_i b hb
  simp only [Option.some.injEq] at h1
  exact ⟨b,hb,by rw [show a.eval (.tmp k)=a.tmps.getD k undef from rfl,h2,h1]⟩
 ·cases h1
theorem out_at {g:G} {s:St} {a:Act} {w:World} {H:FH} {γ:Gam} {F:Nm->Fp} (hX:RX g s.toS a w H γ F) (hex:g.ex=none) {k i b:Nat} (h:gtA s.t k=.one (.c (.pl ⟨.out i,0,[]⟩))) (hg:g.out i=some b):a.tmps.getD k undef=.pointer (some ⟨b,0,none⟩):=by
 have e:=hX.t k
 rw [G.tv_none hex,show getT s.toS.t k=(gtA s.t k).toV from gtA_toS k s.t,h] at e
 obtain ⟨_,_,ad,h1,h2⟩:=e
 simp only [plA,hX.df.2.1 _ _ hg,Option.some.injEq] at h1
 rw [h2,h1]
theorem Cont_defer {E:Ut} {cs:CTt} {sh:List (TypeId×List Sh)} (he:(⟨Tryz.prog,E,cs,sh,fun _ _=>False⟩:En).ok) (hm:Tryz.prog.follows .mixedOrders=true) {f:Nat} {fn:Func} (hf:Tryz.prog.funcs[f]? = some fn) (hname:(fn.name == "runtime.NumGoroutine")=false) {l:List (An×Code)} {an2 anC:An} {id:Nat} {o1 o2:Oper} {rest:Code}
  (hb:fn.body=some (seqs (l.map (·.2)) (.seq (.region id #[o1,o2] false) rest))) (h1:o1.op=.makeFunc (.func 37) #[] #[.tmp 6,.tmp 2,.tmp 3,.tmp 4]) (d1:o1.dst=some 22) (g1:o1.guard=none) (h2:o2.op=.defer ⟨.value (.tmp 22),#[],#[]⟩) (d2:o2.dst=none) (g2:o2.guard=none)
  (h22:Nat.blt 22 fn.ntmps=true) {ps rs:List U} {pre:Fl ps->Prop} {Fn:Fl ps->Fl rs} (hlen:Nat.ble ps.length fn.ntmps=true) (hc:l.all (fun x=>chkC fn.ntmps x.2)=true) (hc2:chkC fn.ntmps rest=true)
  (law:∀ x,pre x->∀ KK:Fl rs->Prop,KK (Fn x)->bodyDT ⟨Tryz.prog,E,cs,sh,fun _ _=>False⟩ fn Tryz.f37 l an2 anC rest ps rs x KK):Cont Tryz.prog f (pureT ps rs pre Fn):=by
 refine ⟨run_fn2 hf hname (by rw [hb]; rfl),fun pk s ops k k' hk hcc=>?_,fun g pk s a w H γ F1 ops k hX hops hcc=>?_⟩
 ·unfold pureT at hcc ⊢
  dsimp only at hcc ⊢
  split at hcc
  ·exact ⟨hcc.1,hk _ _ (Ext_frzAts _ _) hcc.2⟩
  ·exact hcc.elim
 ·unfold pureT at hcc
  dsimp only at hcc
  obtain ⟨H1,F2,h1'⟩:=RXt_frzAts (ops.map (evA s)) s H F1 hX
  generalize frzAts s (ops.map (evA s))=s1 at hcc h1'
  split at hcc
  rotate_left
  ·exact hcc.elim
  rename_i x hx
  have hlx:ops.length=ps.length:=by
   obtain ⟨_,_,c3⟩:=canAs_ok hx
   have:=congrArg List.length c3
   rw [avs0_length] at this
   simpa using this
  have h:=law x hcc.1 (fun y=>k s1 (resA rs y)) hcc.2
  have hX0:=RX_entry h1' hops hx (nt:=fn.ntmps) (by rw [hlx]; exact Nat.le_of_ble_eq_true hlen)
  have e0:(entS ps x).toS=⟨entryT 0 (avs0 ps x),[]⟩:=drop_toS.S_ext (entT_toS 0 ps x) rfl
  rw [<- e0] at hX0
  have fin:∀ (out:Nat->Option Nat) (ds:List Deferred) (t:St) (a':Act) (w':World),retT Tryz.prog fn.results.toList rs (fun y=>k s1 (resA rs y)) t->R ⟨fn.ntmps,w,H1,fun _=>0,out,none,ds⟩ t.toS a' w' ->
    ∃ v,(results fn a'.tmps).run Tryz.prog w'=.ok v w'/\callPost g a pk k (.returned v) w':=by
   intro out ds t a' w' ht hR
   obtain ⟨s2,hk2,H2,γ2,F3,hX2⟩:=retT_ok (K:=fun r=>∃ y,r=(resA rs y).toV/\k s1 (resA rs y)) (fun r hr=>⟨r,rfl,hr⟩) ht hR
   obtain ⟨y,v,s3,H3,F4,e1,e2,e3,e4,y0,e5,e6⟩:=resK_ok hX2 rfl hk2
   refine ⟨y,e1,.inl ⟨y,s1,resA rs y0,H3,γ,F2,rfl,e6,?_,RX_back h1' e2.fr e2.mem.agree⟩⟩
   rw [<- e5]
   exact AR_map TR_canon (AR_fz (fun _ _ _ h=>h) e4 e3)
  refine calls_of_wp_defers hf hb (wp_pre (e:=⟨Tryz.prog,E,cs,sh,fun _ _=>False⟩) (g:=⟨fn.ntmps,w,H1,fun _=>0,fun _=>none,none,[]⟩) he hm (fun _ _ h=>h) (fun t a1 w1 ht hR=>?_) (fun t a1 w1 ht hR=>?_) l _ hc h _ w ⟨H1,γ,F2,hX0⟩)
  rotate_left
  ·obtain ⟨v,e1,e2⟩:=fin _ _ t a1 w1 ht hR
   obtain ⟨_,_,_,hX1⟩:=hR
   show Leaves Tryz.prog fn a1.tmps _ a1.defers .returning w1
   rw [show a1.defers=[] from hX1.df.1]
   exact ⟨v,e1,e2⟩
  ·obtain ⟨H2,γ2,F3,hX1⟩:=hR
   split at ht
   rotate_left
   ·exact ht.elim
   rename_i i2 i3 i4 i6 t2 t3 t4 t6
   obtain ⟨b2,q2,v2⟩:=loc_at hX1 rfl t2
   obtain ⟨b3,q3,v3⟩:=loc_at hX1 rfl t3
   obtain ⟨b4,q4,v4⟩:=loc_at hX1 rfl t4
   obtain ⟨b6,q6,v6⟩:=loc_at hX1 rfl t6
   have hnt:a1.tmps.size=fn.ntmps:=hX1.nt
   refine wp_seq (wp_defer h1 d1 g1 h2 d2 g2 (by rw [hnt]; exact Nat.le_of_ble_eq_true h22) ?_)
   rw [show (#[.tmp 6,.tmp 2,.tmp 3,.tmp 4]:Array Operand).map a1.eval=#[.pointer (some ⟨b6,0,none⟩),.pointer (some ⟨b2,0,none⟩),.pointer (some ⟨b3,0,none⟩),.pointer (some ⟨b4,0,none⟩)] from by
    rw [<- v2,<- v3,<- v4,<- v6]; simp]
   have hP:=hX1.put (d:=some 22) (by show decide (22<fn.ntmps)=true; exact decide_eq_true (Nat.le_of_ble_eq_true h22)) (v:=(At.any).toV) (y:=.func (.func 37) #[] #[.pointer (some ⟨b6,0,none⟩),.pointer (some ⟨b2,0,none⟩),.pointer (some ⟨b3,0,none⟩),.pointer (some ⟨b4,0,none⟩)]) trivial
   have hP2:=RX_SEq (put_SEq _ _ _) hP
   have hS:=RX_sw hP2 (a':={ a1.put (some 22) (.func (.func 37) #[] #[.pointer (some ⟨b6,0,none⟩),.pointer (some ⟨b2,0,none⟩),.pointer (some ⟨b3,0,none⟩),.pointer (some ⟨b4,0,none⟩)]) with defers:=⟨.fn (.func 37) #[.pointer (some ⟨b6,0,none⟩),.pointer (some ⟨b2,0,none⟩),.pointer (some ⟨b3,0,none⟩),.pointer (some ⟨b4,0,none⟩)],#[]⟩::a1.defers }) (ds:=[⟨.fn (.func 37) #[.pointer (some ⟨b6,0,none⟩),.pointer (some ⟨b2,0,none⟩),.pointer (some ⟨b3,0,none⟩),.pointer (some ⟨b4,0,none⟩)],#[]⟩]) rfl (by rw [show a1.defers=[] from hX1.df.1])
   have o2':outOf γ2 i2=some b2:=by simp only [outOf,q2]
   have o3':outOf γ2 i3=some b3:=by simp only [outOf,q3]
   have o4':outOf γ2 i4=some b4:=by simp only [outOf,q4]
   have o6':outOf γ2 i6=some b6:=by simp only [outOf,q6]
   refine Code.wp_mono (fun y a' w' hl=>?_) (AW_wpT (e:=⟨Tryz.prog,E,cs,sh,dpk ⟨Tryz.prog,E,cs,sh,fun _ _=>False⟩ fn Tryz.f37 anC rs (fun y=>k s1 (resA rs y)) i2 i3 i4 i6⟩) he hm rest an2 _ _ hc2 ht _ _ ⟨_,_,_,hS⟩)
   obtain ⟨s',hq,hR'⟩:=hl
   have hdf:a'.defers=[⟨.fn (.func 37) #[.pointer (some ⟨b6,0,none⟩),.pointer (some ⟨b2,0,none⟩),.pointer (some ⟨b3,0,none⟩),.pointer (some ⟨b4,0,none⟩)],#[]⟩]:=by obtain ⟨_,_,_,hX'⟩:=hR'; exact hX'.df.1
   have hinv:(invoke (.fn (.func 37) #[.pointer (some ⟨b6,0,none⟩),.pointer (some ⟨b2,0,none⟩),.pointer (some ⟨b3,0,none⟩),.pointer (some ⟨b4,0,none⟩)]) #[]).run Tryz.prog w'=.ok (.enter 37 #[.pointer (some ⟨b6,0,none⟩),.pointer (some ⟨b2,0,none⟩),.pointer (some ⟨b3,0,none⟩),.pointer (some ⟨b4,0,none⟩)]) w':=by
    have:=run_fn2 (P:=Tryz.prog) (fn:=Tryz.f37) (f:=37) (by kernel_rfl) (by kernel_rfl) (by kernel_rfl) #[.pointer (some ⟨b6,0,none⟩),.pointer (some ⟨b2,0,none⟩),.pointer (some ⟨b3,0,none⟩),.pointer (some ⟨b4,0,none⟩)] w'
    simp [invoke,this]
   have fin2:∀ t:St,s'=t.toS->retT Tryz.prog fn.results.toList rs (fun y=>k s1 (resA rs y)) t->Leaves Tryz.prog fn a'.tmps (callPost g a pk k) a'.defers .returning w':=by
    rintro t rfl ht
    rw [hdf]
    refine ⟨by simp,_,_,37,_,rfl,hinv,(clo_ret _ _ _ _ w').mono ?_⟩
    rintro e u' w'' ⟨⟨v,rfl⟩,rfl,rfl⟩
    obtain ⟨v,e1,e2⟩:=fin _ _ t a' w'' ht hR'
    exact ⟨v,e1,e2⟩
   cases y with
   | normal=>obtain ⟨t,e1,ht⟩:=hq; exact fin2 t e1 ht
   | ret=>obtain ⟨t,e1,ht⟩:=hq; exact fin2 t e1 ht
   | exit i=>obtain ⟨t,e1,ht⟩:=hq; exact ht.elim
   | panic c=>
    obtain ⟨v,t,rfl,rfl,n,rfl,hn,hv⟩:=hq
    obtain ⟨H3,γ3,F4,hX3⟩:=hR'
    split at hv
    rotate_left
    ·exact hv.elim
    rename_i j2 j3 j4 u2 u3 u4
    split at hv
    rotate_left
    ·exact hv.elim
    rename_i hj
    simp only [Bool.and_eq_true,Nat.beq_eq] at hj
    obtain ⟨rfl,rfl,rfl⟩:=hj
    have p2:=out_at hX3 rfl u2 o2'
    have p3:=out_at hX3 rfl u3 o3'
    have p4:=out_at hX3 rfl u4 o4'
    show Leaves Tryz.prog fn a'.tmps (callPost g a pk k) a'.defers (.panicking (chn (Lt.flt n))) w'
    rw [hdf]
    refine ⟨by simp,_,_,37,_,rfl,hinv,(clo_pan he hm hX3 o6' o2' o3' o4' hn hv).mono ?_⟩
    rintro e u' w'' ⟨⟨v,rfl⟩,hu,s3,hK,H5,γ5,F5,hX5⟩
    split at hK
    rotate_left
    ·exact hK.elim
    rename_i hok
    simp only [List.all_cons,List.all_nil,Bool.and_true,Bool.and_eq_true] at hok
    obtain ⟨k2,k3,k4⟩:=hok
    dsimp only
    rw [hu]
    refine fin _ _ _ a' w'' hK ⟨H5,γ5,F5,hX5.mem,hX5.fr,hX5.nt,hX5.df,fun i=>?_⟩
    rw [G.tv_none rfl]
    have hX6:RX _ (⟨s3.nx,[],s3.m⟩:St).toS a' w'' H5 γ5 F5:=hX5
    have y2:=okOut_ok hX6 k2 o2'
    have y3:=okOut_ok hX6 k3 o3'
    have y4:=okOut_ok hX6 k4 o4'
    match i with
    | 0=>exact trivial
    | 1=>exact trivial
    | 2=>rw [p2]; exact y2
    | 3=>rw [p3]; exact y3
    | 4=>rw [p4]; exact y4
    | i+5=>exact trivial
   | _=>exact hq.elim
end Go.Am
end

section
namespace Go.Am
open Go Go.Proofs
def wpBs (n:Nat) (b:EnB):List Code->St->(St->Bool)->(St->Bool)->Bool
 | [],s,k,_=>k s
 | c::l,s,k,r=>wpB n b c s ⟨fun s'=>wpBs n b l s' k r,fun _ _=>false,r⟩
def bodyDB (n:Nat) (b:EnB) (fn:Func) (l:List Code) (rest:Code) (ps rs:List U) (x:Fl ps) (KK:Fl rs->Bool):Bool:=
 wpBs n b l (entS ps x) (fun s=>match gtA s.t 2,gtA s.t 3,gtA s.t 4,gtA s.t 6 with
  | .one (.c (.pl ⟨.loc _,0,[]⟩)),.one (.c (.pl ⟨.loc _,0,[]⟩)),.one (.c (.pl ⟨.loc _,0,[]⟩)),.one (.c (.pl ⟨.loc _,0,[]⟩))=>
   wpB n b rest (s.put (some 22) .any).sw ⟨retB b.e.P fn.results.toList rs KK,fun _ _=>false,retB b.e.P fn.results.toList rs KK⟩
  | _,_,_,_=>false) (retB b.e.P fn.results.toList rs KK)
theorem wpBs_ok {n:Nat} {b:EnB} (hc:CsOk b.cs b.e.cs) {pk:PKt}:∀ (l:List Code) (s:St) {kb rb:St->Bool} {k r:St->Prop},(∀ s,kb s=true->k s)->(∀ s,rb s=true->r s)->wpBs n b l s kb rb=true->wpTs (b.w pk) (l.map fun c=>(anOf n c,c)) s k r
 | [],s,_,_,_,_,hk,_,h=>hk s h
 | c::l,s,kb,rb,k,r,hk,hr,h=>wpB_ok hc n c s (Kb:=⟨fun s'=>wpBs n b l s' kb rb,fun _ _=>false,rb⟩) (K:=⟨fun s'=>wpTs (b.w pk) (l.map fun c=>(anOf n c,c)) s' k r,fun _ _=>False,r⟩) ⟨fun s' h'=>wpBs_ok hc l s' hk hr h',fun _ _ h=>(by cases h),hr⟩ h
theorem bodyDB_ok {n:Nat} {b:EnB} (hc:CsOk b.cs b.e.cs) {fn cl:Func} {l:List Code} {anC:An} {rest:Code} {ps rs:List U} {x:Fl ps} {KKb:Fl rs->Bool} {KK:Fl rs->Prop} (hk:∀ y,KKb y=true->KK y) (h:bodyDB n b fn l rest ps rs x KKb=true) :
  bodyDT (b.w fun _ _=>False) fn cl (l.map fun c=>(anOf n c,c)) (anOf n rest) anC rest ps rs x KK:=by
 have hr:∀ s,retB b.e.P fn.results.toList rs KKb s=true->retT b.e.P fn.results.toList rs KK s:=fun s h=>retB_ok hk h
 unfold bodyDB at h
 unfold bodyDT
 refine wpBs_ok hc l _ (fun s h'=>?_) hr h
 split at h'
 ·rename_i i2 i3 i4 i6 h2 h3 h4 h6
  (try rw [h2,h3,h4,h6])
  exact wpB_ok hc n rest _ ⟨hr,fun _ _ h=>(by cases h),hr⟩ h'
 ·cases h'
def kLs:Nat->Code->List Code
 | 0,_=>[]
 | n+1,.seq a b=>a::kLs n b
 | _+1,_=>[]
def kRs:Nat->Code->Code
 | 0,c=>c
 | n+1,.seq _ b=>kRs n b
 | _+1,c=>c
def kHd:Code->Code
 | .seq a _=>a
 | c=>c
def rgId:Code->Nat
 | .region id _ _=>id
 | _=>0
def rgOp (c:Code) (i:Nat):Oper:=match c with
 | .region _ l _=>l.getD i default
 | _=>default
def pairF {α β:Type} [DecidableEq α] (xs:List (α×β)) (df:β) (x:α):β:=match xs.find? (fun z=>decide (z.1=x)) with
 | some z=>z.2
 | none=>df
theorem Cont_deferB {n:Nat} (E:Ut) (sh:List (TypeId×List Sh)) (l:ClS) (k:Nat) {f:Nat} (fn:Func) {ps rs:List U} [DecidableEq (Fl ps)] [DecidableEq (Fl rs)] (xs:List (Fl ps×Fl rs))
  (hf:Tryz.prog.funcs[f]? = some fn) (hname:(fn.name == "runtime.NumGoroutine")=false)
  (hb:fn.body=some (seqs (kLs k (fn.body.getD .skip)) (.seq (.region (rgId (kHd (kRs k (fn.body.getD .skip)))) #[rgOp (kHd (kRs k (fn.body.getD .skip))) 0,rgOp (kHd (kRs k (fn.body.getD .skip))) 1] false) (kRs (k+1) (fn.body.getD .skip)))))
  (h1:(rgOp (kHd (kRs k (fn.body.getD .skip))) 0).op=.makeFunc (.func 37) #[] #[.tmp 6,.tmp 2,.tmp 3,.tmp 4]) (d1:(rgOp (kHd (kRs k (fn.body.getD .skip))) 0).dst=some 22) (g1:(rgOp (kHd (kRs k (fn.body.getD .skip))) 0).guard=none) (h2:(rgOp (kHd (kRs k (fn.body.getD .skip))) 1).op=.defer ⟨.value (.tmp 22),#[],#[]⟩) (d2:(rgOp (kHd (kRs k (fn.body.getD .skip))) 1).dst=none) (g2:(rgOp (kHd (kRs k (fn.body.getD .skip))) 1).guard=none)
  (h22:Nat.blt 22 fn.ntmps=true) (hlen:Nat.ble ps.length fn.ntmps=true) (hc:(kLs k (fn.body.getD .skip)).all (fun c=>chkC fn.ntmps c)=true) (hc2:chkC fn.ntmps (kRs (k+1) (fn.body.getD .skip))=true)
  (df:Fl rs) (hall:∀ x∈xs,bodyDB n (clE E sh l) fn (kLs k (fn.body.getD .skip)) (kRs (k+1) (fn.body.getD .skip)) ps rs x.1 (fun y=>decide (y=x.2))=true) :
  Cont Tryz.prog f (pureT ps rs (fun x=>∃ y,(x,y)∈xs) (pairF xs df)):=by
 refine Cont_defer (E:=E) (cs:=clI l) (sh:=sh) (cl_ok E sh l) mixed0 hf hname (l:=(kLs k (fn.body.getD .skip)).map fun c=>(anOf n c,c)) (an2:=anOf n (kRs (k+1) (fn.body.getD .skip))) (anC:=.l)
  (id:=rgId (kHd (kRs k (fn.body.getD .skip)))) (by rw [List.map_map,show ((fun x:An×Code=>x.2) ∘ fun c=>(anOf n c,c))=id from rfl,List.map_id]; exact hb) h1 d1 g1 h2 d2 g2 h22 hlen (by rw [List.all_map]; exact hc) hc2 (fun x hp KK hK=>?_)
 obtain ⟨y,hy⟩:=hp
 unfold pairF at hK
 cases hfd:xs.find? (fun z=>decide (z.1=x)) with
 | none=>exact absurd (List.find?_eq_none.1 hfd _ hy) (by simp)
 | some z=>
  rw [hfd] at hK
  have e1:z.1=x:=by simpa using List.find?_some hfd
  have hz:=hall z (List.mem_of_find?_eq_some hfd)
  rw [e1] at hz
  exact bodyDB_ok (b:=clE E sh l) (cl_ck l) (fun w hw=>by rw [of_decide_eq_true hw]; exact hK) hz
end Go.Am
end

section
namespace Go.Am
open Go Go.RowKit Go.Proofs
theorem below_same (w:World):Below w.heap.size w w:=Below.refl _ w
theorem index_le (c:UInt8):∀ l:List UInt8,-1<=Lib.indexByte l c/\Lib.indexByte l c<=(l.length:Int)
 | []=>by simp [Lib.indexByte]
 | b::l=>by
  have:=index_le c l
  unfold Lib.indexByte
  simp only [List.length_cons]
  split
  ·omega
  ·split <;> omega
theorem AR1_text {w:World} {H:FH} {γ:Gam} {m:Mm} {l:List UInt8} (h:l.length<=BIG):AR1 w H γ m (.c (.d (.str l))) (.string ⟨l.toArray⟩):=⟨fun _=>rfl,0,rfl,h⟩
theorem AR_num {w:World} {H:FH} {γ:Gam} {k:IntKind} {n:Int} {y:Value} (h:AR w H γ [] (.one (.c (.d (.int k n)))) y):y=.int k n:=by
 obtain ⟨_,m,h⟩:=h
 cases m <;> exact h.1
def C_gIndex:CKt:=pureT0 [.s,.b8] [.i .i64] (fun x=>Lt.gIndex x.1 x.2)
theorem c_gIndex:Cont Tryz.prog 129 C_gIndex:=Cont_T0 (Cont_calls (run_fn2 (fn:=Tryz.f129) (by kernel_rfl) (by kernel_rfl) (by kernel_rfl)) (fun x args w H γ _ hl ha hg hag=>by
 obtain ⟨s,c⟩:=x
 obtain ⟨u,v,rfl,h1,h2⟩:=args2 (x:=.one (.c (.d (.str s)))) (y:=.one (.c (.d (.int .u8 (UInt8.toNat c:Int))))) hl ha
 obtain ⟨rfl,hs⟩:=AR_text h1
 have hs:List.length (α:=UInt8) s<=BIG:=hs
 obtain rfl:=AR_num h2
 refine (Tryz.strings_IndexByte ⟨s.toArray⟩ (c.toNat:Int) w).mono ?_
 rintro e w' ⟨rfl,hw⟩
 rw [hw]
 refine ⟨_,H,rfl,below_same w,fun _ _ _ h=>h,fun b o h1 h2=>absurd h2 h1,fun b o x l c h1 h2=>by (rw [h2] at h1; cases h1),hag,?_⟩
 have e1:((c.toNat:Int).toNat).toUInt8=c:=by simp
 have hi:=index_le c s
 rw [bs_list,e1]
 unfold BIG at hs
 show AR w H γ [] (.one (.c (.d (.int .i64 (Lib.indexByte s c))))) (.int .i64 (Lib.indexByte s c))
 refine ⟨fun _=>rfl,0,rfl,?_⟩
 simp only [Lit.wf,Bool.and_eq_true,decide_eq_true_eq,show IntKind.i64.min=-9223372036854775808 from rfl,show IntKind.i64.max=9223372036854775807 from rfl]
 omega))
def C_gCutP:CKt:=pureT0 [.s,.s] [.s,.bo] (fun x=>Lt.gCutP x.1 x.2)
theorem c_gCutP:Cont Tryz.prog 128 C_gCutP:=Cont_T0 (Cont_calls (run_fn2 (fn:=Tryz.f128) (by kernel_rfl) (by kernel_rfl) (by kernel_rfl)) (fun x args w H γ _ hl ha hg hag=>by
 obtain ⟨s,p⟩:=x
 obtain ⟨u,v,rfl,h1,h2⟩:=args2 (x:=.one (.c (.d (.str s)))) (y:=.one (.c (.d (.str p)))) hl ha
 obtain ⟨rfl,hs⟩:=AR_text h1
 have hs:List.length (α:=UInt8) s<=BIG:=hs
 obtain ⟨rfl,hp⟩:=AR_text h2
 refine (Tryz.strings_CutPrefix ⟨s.toArray⟩ ⟨p.toArray⟩ w).mono ?_
 rintro e w' ⟨rfl,hw⟩
 rw [hw]
 refine ⟨_,H,rfl,below_same w,fun _ _ _ h=>h,fun b o h1 h2=>absurd h2 h1,fun b o x l c h1 h2=>by (rw [h2] at h1; cases h1),hag,_,rfl,?_⟩
 rw [bs_list,bs_list]
 have hl:(Lib.trimPrefix s p).length<=BIG:=by
  unfold Lib.trimPrefix
  split
  ·rw [List.length_drop]; omega
  ·exact hs
 show ARs w H γ [] [.c (.d (.str (Lib.trimPrefix s p))),.c (.d (.bool (Lib.hasPrefix s p)))] [_,_]
 exact ⟨(AR1_text hl:AR1 w H γ [] _ _),⟨fun _=>rfl,0,rfl⟩,trivial⟩))
def C_gCut:CKt:=pureT [.s,.s] [.s,.s,.bo] (fun x=>Lt.preCut x.1 x.2) (fun x=>Lt.gCut x.1 x.2)
theorem c_gCut:Cont Tryz.prog 59 C_gCut:=Cont_calls (run_fn2 (fn:=Tryz.f59) (by kernel_rfl) (by kernel_rfl) (by kernel_rfl)) (fun x args w H γ hpre hl ha hg hag=>by
 obtain ⟨s,p⟩:=x
 obtain ⟨u,v,rfl,h1,h2⟩:=args2 (x:=.one (.c (.d (.str s)))) (y:=.one (.c (.d (.str p)))) hl ha
 obtain ⟨rfl,hs⟩:=AR_text h1
 have hs:List.length (α:=UInt8) s<=BIG:=hs
 obtain ⟨rfl,hp⟩:=AR_text h2
 have hpre:s.length < 4294967281:=hpre
 obtain ⟨m,hm⟩:=globs_max hg hag (k:=1) (by rfl)
 refine (Tryz.strings_Cut ⟨s.toArray⟩ ⟨p.toArray⟩ m w (by rw [bs_size]; exact hpre) hm).mono ?_
 rintro e w' ⟨rfl,n,rfl⟩
 refine ⟨_,H,rfl,below_drawn _ _ _,fun _ _ _ h=>h,fun b o h1 h2=>absurd h2 h1,fun b o x l c h1 h2=>by (rw [h2] at h1; cases h1),hag,_,rfl,?_⟩
 rw [bs_list,bs_list]
 have hl:(Lib.cut s p).1.length<=BIG/\(Lib.cut s p).2.1.length<=BIG:=by
  unfold Lib.cut
  split
  ·refine ⟨?_,?_⟩
   ·show (s.take _).length<=_; rw [List.length_take]; omega
   ·show (s.drop _).length<=_; rw [List.length_drop]; omega
  ·exact ⟨hs,by unfold BIG; simp⟩
 show ARs _ H γ [] [.c (.d (.str (Lib.cut s p).1)),.c (.d (.str (Lib.cut s p).2.1)),.c (.d (.bool (Lib.cut s p).2.2))] [_,_,_]
 exact ⟨(AR1_text hl.1:AR1 (w.drewN n) H γ [] _ _),(AR1_text hl.2:AR1 (w.drewN n) H γ [] _ _),⟨fun _=>rfl,0,rfl⟩,trivial⟩)
theorem split_small (p:ByteArray):∀ (k:Nat) (s:ByteArray),∀ x∈Lib.splitB p 0 k s,x.size<=s.size
 | 0,s,x,hx=>by rw [Lib.splitB_zero,List.mem_singleton] at hx; rw [hx]; exact Nat.le_refl _
 | k+1,s,x,hx=>by
  unfold Lib.splitB at hx
  split at hx
  ·rw [List.mem_singleton] at hx; rw [hx]; exact Nat.le_refl _
  ·rcases List.mem_cons.1 hx with rfl | hx
   ·simp only [ByteArray.size_extract]; omega
   ·have:=split_small p k _ x hx
    simp only [ByteArray.size_extract] at this
    omega
def C_gSplit:CKt:=pureT [.s,.s] [.sl .s] (fun x=>Lt.preSplit x.1 x.2) (fun x=>Lt.gSplit x.1 x.2)
theorem c_gSplit:Cont Tryz.prog 58 C_gSplit:=Cont_calls (run_fn2 (fn:=Tryz.f58) (by kernel_rfl) (by kernel_rfl) (by kernel_rfl)) (fun x args w H γ hpre hl ha hg hag=>by
 obtain ⟨s,p⟩:=x
 obtain ⟨u,v,rfl,h1,h2⟩:=args2 (x:=.one (.c (.d (.str s)))) (y:=.one (.c (.d (.str p)))) hl ha
 obtain ⟨rfl,hs⟩:=AR_text h1
 have hs:List.length (α:=UInt8) s<=BIG:=hs
 obtain ⟨rfl,hp⟩:=AR_text h2
 obtain ⟨hpre,hp1⟩:s.length < 4294967281/\1<=p.length:=hpre
 obtain ⟨m,hm⟩:=globs_max hg hag (k:=1) (by rfl)
 have hsz:=bs_size s
 refine (Tryz.strings_Split ⟨s.toArray⟩ ⟨p.toArray⟩ m w (by rw [hsz]; exact hpre) hm (by rw [bs_size]; exact hp1)).mono ?_
 rintro e w' ⟨rfl,rfl⟩
 have hlen:=Lib.splitB_all ⟨p.toArray⟩ (by rw [bs_size]; exact hp1) 0 _ ⟨s.toArray⟩ rfl
 have hle:=Lib.countB_le ⟨p.toArray⟩ (by rw [bs_size]; exact hp1) _ ⟨s.toArray⟩ (Nat.le_refl _)
 have hsm:=split_small ⟨p.toArray⟩ (Lib.countB ⟨s.toArray⟩ ⟨p.toArray⟩) ⟨s.toArray⟩
 have hG:Lt.gSplit s p=(Lib.splitB ⟨p.toArray⟩ 0 (Lib.countB ⟨s.toArray⟩ ⟨p.toArray⟩) ⟨s.toArray⟩).map (·.data.toList):=rfl
 generalize Lib.splitB ⟨p.toArray⟩ 0 (Lib.countB ⟨s.toArray⟩ ⟨p.toArray⟩) ⟨s.toArray⟩=L at hlen hsm hG ⊢
 rw [<- hlen]
 rw [hsz] at hle hsm
 refine ⟨_,fun b o=>if b=w.heap.size then (L.map Value.string).toArray[o]? else H b o,rfl,(Below.refl _ w).alloc (Nat.le_refl _) _,fun b o y h=>?_,fun b o h1 h2=>?_,fun b o x l c h1 h2=>?_,fun b o y h=>?_,fun _=>rfl,1,?_⟩
 ·have:=World.block_lt_of_cell? _ _ (hag b o y h)
  have this:b<w.heap.size:=this
  dsimp only
  rw [if_neg (by omega)]; exact h
 ·dsimp only at h1
  split at h1
  ·omega
  ·exact absurd h2 h1
 ·dsimp only at h1
  split at h1
  ·have h1:=Array.mem_of_getElem? h1
   simp at h1
  ·rw [h2] at h1; cases h1
 ·dsimp only at h
  split at h
  ·rename_i hb
   subst hb
   rw [World.cell?_alloc_new]; exact h
  ·rename_i hb
   rw [World.cell?_alloc_old _ _ _ hb]; exact hag b o y h
 ·show FD _ 1 (.li ((Lt.gSplit s p).map (encU .s))) _
  rw [hG,FD_li]
  unfold BIG at hs ⊢
  refine ⟨_,_,by rw [List.length_map,List.length_map],by simp,by simp; omega,.inr ⟨w.heap.size,0,1,rfl,fun i hi=>?_⟩⟩
  have hi:i<L.length:=by simpa using hi
  have e:((L.map (·.data.toList)).map (encU .s)).getD i []=[.str L[i].data.toList]:=by
   rw [List.getD,List.getElem?_map,List.getElem?_map,List.getElem?_eq_getElem hi]; rfl
  rw [e]
  refine ⟨rfl,fun j hj=>?_⟩
  have hj:j=0:=by omega
  subst hj
  refine ⟨.string L[i],?_,?_⟩
  ·dsimp only
   rw [if_pos rfl]
   simp [hi]
  ·refine ⟨by simp,?_⟩
   have:=hsm L[i] (List.getElem_mem hi)
   show L[i].data.toList.length<=BIG
   unfold BIG
   rw [<- Lib.size_eq]; omega)
end Go.Am
end
