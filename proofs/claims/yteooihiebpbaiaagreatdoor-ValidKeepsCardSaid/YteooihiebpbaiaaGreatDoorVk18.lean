/-
  Part 18: AmClo · AmDef · AmB4.
-/
import Derived.Test.YteooihiebpbaiaaGreatDoorVk17
import Derived.Recover
set_option linter.unusedSimpArgs false
set_option linter.unusedVariables false
set_option linter.unusedSectionVars false
set_option linter.unnecessarySimpa false
open Go.Proofs.Tryz
section
namespace Go.Am
open Go Go.RowKit Go.Proofs
def Dr(cs:List Frame):Value×List Frame:=match recoverD cs with
 |some (v,cs')=>(v,cs')
 |none=>(.nilIface,cs)
theorem JA{P:Program}{Q:Exit->Act->List Frame->World->Prop}{id:Nat}{o0 o1:Oper}{d:Nat}{a:Act}{cs:List Frame}{w:World}(h0:o0.op=.call ⟨.builtin .recover,#[],#[]⟩)(h1:o1.op=.assign (.tmp d))(g0:o0.guard=none)(g1:o1.guard=none)
  (h:Q .normal ((a.put o0.dst (Dr cs).1).put o1.dst ((a.put o0.dst (Dr cs).1).eval (.tmp d))) (Dr cs).2 w):(Code.region id #[o0,o1] false).wpS P Q a cs w:=by
 refine wpS_region ?_;show wpOpsS _ _ _ [0,1] _ _ _
 have e0:∀a:Act,(execOp a.eval o0).run P w=.ok .recover w:=fun a=>by
  unfold execOp;rw[h0];rfl
 have e1:∀a:Act,(execOp a.eval o1).run P w=.ok (.value (a.eval (.tmp d))) w:=fun a=>by
  unfold execOp;rw[h1];rfl
 have i0:(#[o0,o1]:Array Oper)[0]? = some o0:=rfl
 have i1:(#[o0,o1]:Array Oper)[1]? = some o1:=rfl
 have w0:∀f,Region.wanted o0 f=true:=fun f=>by simp[Region.wanted,g0]
 have w1:∀f,Region.wanted o1 f=true:=fun f=>by simp[Region.wanted,g1]
 have fin:∀v cs',Q .normal ((a.put o0.dst v).put o1.dst ((a.put o0.dst v).eval (.tmp d))) cs' w->wpOpsS P #[o0,o1] Q [1] (a.put o0.dst v) cs' w:=by
  intro v cs' hq;unfold wpOpsS;rw[i1];dsimp only;rw[if_pos (w1 _),e1];exact hq
 unfold wpOpsS;rw[i0];dsimp only;rw[if_pos (w0 _),e0];unfold Dr at h;cases hr:recoverD cs with
 |none=>rw[hr]at h;exact fin _ _ h
 |some x=>obtain⟨v,cs'⟩:=x;rw[hr]at h;exact fin _ _ h
theorem LI{P:Program}{t u:TypeId}{ms}{x:Value}(h:P.underlying t=some (.interface ms))(w:World):(binOp .neq t (.iface u x) .nilIface).run P w=.ok (.bool true) w:=by
 show(do pure (.bool (!(<- Op.equal t (.iface u x) .nilIface))):Sem Value).run P w=_
 unfold Op.equal Op.maxDepth;rw[show(10000:Nat)=9999+1 from rfl];unfold Op.equalIn;simp only[Sem.run_bind,run_underlying h,Result.andThen];rfl
theorem U5{P:Program}{c:Code}{Q:Exit->Act->World->Prop}{a:Act}{w:World}(b:Act)(h:a=b)(hb:c.wp P Q b w):c.wp P Q a w:=h ▸ hb
theorem S0{P:Program}{c c':Code}{Q Q':Exit->Act->World->Prop}{a a':Act}{w:World}(hc:c'=c)(ha:a'=a)(h:c'.wp P Q' a' w)(hq:∀e a w,Q' e a w->Q e a w):c.wp P Q a w:=by rw[<- hc,<- ha];exact Code.wp_mono hq h
theorem Rg(p0 p1 p2 p3:Value)(w:World):CallsD prog 33 #[p0,p1,p2,p3] .returning w fun e u' w'=>(∃v,e=.returned v)/\u'=.returning/\w'=w:=by
 refine callsD_of_wpS func33 rfl (fun c0 cs hc=>?_);refine wpS_seq (JA rfl rfl rfl rfl ?_);have hr:Dr (c0::cs)=(.nilIface,c0::cs):=by simp[Dr,recoverD,hc]
 rw[hr];refine wpS_of_wp ?_;refine U5 { tmps:=#[p0,p1,p2,p3,.nilIface,undef,undef,.nilIface,undef,undef,undef,undef,undef,undef,undef,undef,undef,undef,undef,undef,undef,undef,undef,undef,undef],defers:=[] } Z0 ?_
 go_wp2
 exact⟨rfl,c0.mode,rfl,.tuple #[],(by rw[gc,show f33.results=#[]from rfl];simp),⟨_,rfl⟩,hc,rfl⟩
section
variable {P:Program} {g:G} {Q:Exit->S->Prop}
theorem U7{w:World}{H:FH}{γ:Gam}{m:Mm}{x y:Value}(h:AR w H γ m (.one (.c (.d (.v x)))) y):y=x:=by
 obtain⟨_,m,h⟩:=h;cases m<;>exact h.1
theorem GO{ops rest ops' rest':List Oper}{s:S}(h1:ops'=ops)(h2:rest'=rest)(h:AL P g ops' rest' Q s):AL P g ops rest Q s:=by rw[<- h1,<- h2];exact h
theorem Qf{c c':Code}{s:S}(h1:c'=c)(h:AW P g c' Q s):AW P g c Q s:=by rw[<- h1];exact h
theorem yB{ops rest:List Oper}{o:Oper}{s:St}(v:At)(hg:o.guard=none)(hd:okD g.nt o.dst=true)
  (h:∀a w H γ F,RX g s.toS a w H γ F->∃y,(execOp a.eval o).run P w=.ok (.value y) w/\AR w H γ s.toS.m v.toV y) (hk:AL P g ops rest Q (s.put o.dst v).toS):AL P g ops (o::rest) Q s.toS:=by
 refine GP hg (GQ (fun a w hR=>?_));obtain⟨H,γ,F,hX⟩:=hR;obtain⟨y,e1,e2⟩:=h a w H γ F hX;unfold Oper.wp;rw[e1];exact⟨_,hk,H,γ,F,aS (aB s o.dst v) (hX.put hd e2)⟩
def Je(t:St)(i:Nat):Bool:=match bj t.m (.out i)with
 |some r=>!r.cells.isEmpty
 |none=>false
def kL:Code->Code|.seq a _=>a|c=>c
def kR:Code->Code|.seq _ b=>b|c=>c
def kT:Code->Code|.cond _ a _=>a|c=>c
def kO:Code->List Oper|.region _ ops _=>ops.toList|_=>[]
abbrev Vy(is:List Nat)(t:St):St:=⟨t.nx+1,ul t.nx 0 (is.map fun i=>.one (.c (.pl ⟨.out i,0,[]⟩))),t.m⟩
abbrev Vz(is:List Nat)(n:Int)(t:St):St:=((Vy is t).put (some 7) (sct (.v (Lt.flt n)))).put (some 4) (sct (.v (Lt.flt n)))
abbrev V7(is:List Nat)(n:Int)(t:St):St:=((Vz is n t).put (some 8) (sct (.v (Lt.flt n)))).put (some 9) (sct (.bo true))
abbrev V8(is:List Nat)(n:Int)(t:St):St:=((V7 is n t).put (some 11) (sct (.v (Lt.flt n)))).put (some 12) (.tup [.agg [.d (.i .i64 n)],.c (.d (.bo true))])
def Ur(e:En)(an:An)(c:Code)(is:List Nat)(n:Int)(t:St)(K:St->Prop):Prop:=
 match is.all (Je t)with
 |true=>jg e (kO (kL (kT (kR (kR c))))) ((kO (kL (kT (kR (kR c))))).drop 2) (V8 is n t) (fun s=>jg e (kO (kL (kL (kR (kT (kR (kR c))))))) (kO (kL (kL (kR (kT (kR (kR c))))))) s (fun s=>match gtA s.t 16 with
  |.one (.c (.d (.bo false)))=>wpT e an (kR (kR (kT (kR (kR c))))) s ⟨K,fun _ _=>False,K⟩
  |_=>False))
 |false=>False
theorem iV{w:World}{H:FH}{γ:Gam}{F:Nm->Fp}{a:Act}{t:St}{i b:Nat}(hX:RX g t.toS a w H γ F)(h:Je t i=true)(hg:g.out i=some b):AR w H γ t.toS.m (.one (.c (.pl ⟨.out i,0,[]⟩))) (.pointer (some ⟨b,0,none⟩)):=by
 refine⟨fun _=>rfl,?_,⟨b,0,none⟩,?_,rfl⟩
 ·unfold Je at h;split at h
  ·rename_i r hr;rw[ap];refine⟨_,aR hr,?_⟩;show 0<r.toR.cells.length
   have hl:r.toR.cells.length=r.cells.length:=by
    unfold Rt.toR holed;dsimp only;split
    ·simp
    ·split<;>simp
   rw[hl];cases hc:r.cells with
   |nil=>rw[hc]at h;cases h
   |cons x y=>simp
  ·cases h
 ·simp only[plA,hX.df.2.1 _ _ hg]
theorem Ru(x0 x1 x2 x3:Value)(r:Array Value)(i:Nat)(hi:i < 4):(#[x0,x1,x2,x3]++r).getD i undef=#[x0,x1,x2,x3].getD i undef:=by
 rw[Xf,Xf,XD (by simpa using hi)]
set_option maxRecDepth 100000 in
theorem Rf{E:Ut}{cs:CTt}{sh:List (TypeId×List Sh)}(he:(⟨prog,E,cs,sh,fun _ _=>False⟩:En).ok)(hm:prog.follows .mixedOrders=true){t:St}{a0:Act}{w:World}{H:FH}{γ:Gam}{F:Nm->Fp}(hX:RX g t.toS a0 w H γ F)
  {i0 i1 i2 i3 b0 b1 b2 b3:Nat} (h0:g.out i0=some b0) (h1:g.out i1=some b1) (h2:g.out i2=some b2) (h3:g.out i3=some b3) {n:Int} (hn:(Lit.int .i64 n).wf=true) {an:An} {K:St->Prop} (h:Ur ⟨prog,E,cs,sh,fun _ _=>False⟩ an (f33.body.getD .skip) [i0,i1,i2,i3] n t K) :
  CallsD prog 33 #[.pointer (some ⟨b0,0,none⟩),.pointer (some ⟨b1,0,none⟩),.pointer (some ⟨b2,0,none⟩),.pointer (some ⟨b3,0,none⟩)] (.panicking (chn (Lt.flt n))) w
   fun e u' w'=>(∃v,e=.returned v)/\settle u'=.returning/\∃s':St,K s'/\∃H' γ' F',RX g ⟨[],s'.toS.m⟩ a0 w' H' γ' F':=by
 refine callsD_of_wpS func33 rfl (fun c0 cs' hc=>?_);refine wpS_seq (JA rfl rfl rfl rfl ?_);have hr:Dr (c0::cs')=(Lt.flt n,{ c0 with mode:=.panicking [{ v:=Lt.flt n,recovered:=true }] }::cs'):=by simp[Dr,recoverD,hc]
 rw[hr];refine wpS_of_wp ?_;unfold Ur at h;split at h
 rotate_left
 ·exact h.elim
 rename_i hok;simp only[W0,List.all_nil,XZ,WI]at hok;obtain⟨k0,k1,k2,k3⟩:=hok
 let g3:G:=⟨25,g.w0,g.H0,g.own0,g.out,none,[]⟩
 have u0:=iV hX k0 h0
 have u1:=iV hX k1 h1
 have u2:=iV hX k2 h2
 have u3:=iV hX k3 h3
 have hA:RX g3 (Vy [i0,i1,i2,i3] t).toS { tmps:=#[.pointer (some ⟨b0,0,none⟩),.pointer (some ⟨b1,0,none⟩),.pointer (some ⟨b2,0,none⟩),.pointer (some ⟨b3,0,none⟩)]++Array.replicate (f33.ntmps - 4) undef,defers:=[] } w H γ F:=by
  refine⟨hX.mem,hX.fr,by kernel_rfl,⟨rfl,hX.df.2⟩,fun i=>?_⟩;rw[G.tv_none rfl]
  match i with
  |0=>rw[Ru _ _ _ _ _ 0 (by decide)];exact u0
  |1=>rw[Ru _ _ _ _ _ 1 (by decide)];exact u1
  |2=>rw[Ru _ _ _ _ _ 2 (by decide)];exact u2
  |3=>rw[Ru _ _ _ _ _ 3 (by decide)];exact u3
  |i+4=>exact trivial
 have hF:∀(w:World)(H:FH)(γ:Gam)(m:Mm),AR w H γ m (sct (.v (Lt.flt n))).toV (Lt.flt n):=fun w H γ m=>⟨fun _=>rfl,0,rfl,rfl⟩
 have hB:=aS (aB _ _ _) ((aS (aB _ _ _) (hA.put (d:=some 7) rfl (hF _ _ _ _))).put (d:=some 4) rfl (hF _ _ _ _))
 have run:AW prog g3 (kR (f33.body.getD .skip)) (LQ (fun _ _=>False) ⟨K,fun _ _=>False,K⟩) (Vz [i0,i1,i2,i3] n t).toS:=by
  refine qO (na (yB (sct (.v (Lt.flt n))) rfl rfl (fun a w H γ F hX=>?_) (yB (sct (.bo true)) rfl rfl (fun a w H γ F hX=>?_) (Mk (yD (b:=true) ?_ (fun _=>qO (na (yB (sct (.v (Lt.flt n))) rfl rfl (fun a w H γ F hX=>?_)
   (yB (.tup [.agg [.d (.i .i64 n)],.c (.d (.bo true))]) rfl rfl (fun a w H γ F hX=>?_) ?_)))) (fun h=>by cases h))))))
  ·have e:=hX.t 4
   rw[G.tv_none rfl]at e;exact⟨_,rfl,e⟩
  ·have e:=hX.t 8
   rw[G.tv_none rfl]at e;have e8:a.eval (.tmp 8)=Lt.flt n:=U7 e
   refine⟨.bool true,?_,⟨fun _=>rfl,0,rfl⟩⟩;simp only[execOp,e8,show a.eval (.const .nilIface)=.nilIface from rfl,Sem.run_bind,Lt.flt,LI underlying20];simp[eqGuard,Result.andThen]
  ·rfl
  ·have e:=hX.t 4
   rw[G.tv_none rfl]at e;exact⟨_,rfl,e⟩
  ·have e:=hX.t 11
   rw[G.tv_none rfl]at e;have e8:a.eval (.tmp 11)=Lt.flt n:=U7 e
   refine⟨.tuple #[.agg #[.int .i64 n],.bool true],?_,?_⟩
   ·simp only[execOp,e8,Sem.run_bind,Instr.typeAssert,Lt.flt,run_underlying underlying82,Result.andThen];simp
   ·exact⟨_,rfl,⟨_,rfl,rfl,⟨_,[],fun _=>0,fun _=>0,rfl,fun _=>rfl,⟨fun _=>rfl,0,rfl,hn⟩,fun _=>rfl⟩⟩,⟨fun _=>rfl,0,rfl⟩,trivial⟩
  ·refine GO Z0 Z0 (lc (e:=⟨prog,E,cs,sh,fun _ _=>False⟩) he (fun x s h=>h.elim fun _ h=>h.elim fun _ h=>h.2.2.elim) Z0 h (fun t ht=>?_));refine qO (qO (na (GO Z0 Z0 (lc (e:=⟨prog,E,cs,sh,fun _ _=>False⟩) he (fun x s h=>h.elim fun _ h=>h.elim fun _ h=>h.2.2.elim) Z0 ht (fun t ht=>?_)))));split at ht
   ·rename_i hg16;exact yD (b:=false) (fT hg16) (fun h=>by cases h) (fun _=>GX (Qf Z0 (lf he hm _ an t _ Z0 ht)))
   ·exact ht.elim
 refine S0 Z0 Z0 (run _ _ ⟨H,γ,F,hB⟩) (fun x a' w' hl=>?_);obtain⟨s',hq,H',γ',F',hX'⟩:=hl;have fin:∀t':St,s'=t'.toS->K t'->a'.defers=[]/\∃u',({ c0 with mode:=.panicking [{ v:=Lt.flt n,recovered:=true }] }::cs':List Frame)={ c0 with mode:=u' }::cs'/\∃v,(results f33 a'.tmps).run prog w'=.ok v w' /\
   ((∃v',Ending.returned v=.returned v')/\settle u'=.returning/\∃s':St,K s'/\∃H' γ' F',RX g ⟨[],s'.toS.m⟩ a0 w' H' γ' F'):=by
  rintro t' rfl hk
  exact⟨hX'.df.1,_,rfl,.tuple #[],(by rw[gc,show f33.results=#[]from rfl];simp),⟨_,rfl⟩,rfl,t',hk,H',γ',F',hX'.mem,hX'.fr,hX.nt,⟨hX.df.1,hX'.df.2⟩,fun _=>trivial⟩
 cases x with
 |normal=>obtain⟨t',e1,ht⟩:=hq;exact fin t' e1 ht
 |ret=>obtain⟨t',e1,ht⟩:=hq;exact fin t' e1 ht
 |exit i=>obtain⟨t',e1,ht⟩:=hq;exact ht.elim
 |panic c=>obtain⟨_,_,_,_,hv⟩:=hq;exact hv.elim
 |_=>exact hq.elim
end
def seqs:List Code->Code->Code
 |[],c=>c
 |a::l,c=>.seq a (seqs l c)
def P5(e:En):List (An×Code)->St->(St->Prop)->(St->Prop)->Prop
 |[],s,k,_=>k s
 |x::l,s,k,r=>wpT e x.1 x.2 s ⟨fun s'=>P5 e l s' k r,fun _ _=>False,r⟩
theorem P7{e:En}(he:e.ok)(hm:e.P.follows .mixedOrders=true){g:G}{rest:Code}{Post:Exit->Act->World->Prop}{k r:St->Prop}(hpk:∀v s,¬ e.pk v s)
  (hk:∀(t:St)a w,k t->R g t.toS a w->rest.wp e.P Post a w) (hr:∀(t:St)a w,r t->R g t.toS a w->Post .ret a w) :
  ∀(l:List (An×Code))(s:St),l.all (fun x=>fw g.nt x.2)=true->P5 e l s k r->∀a w,R g s.toS a w->(seqs (l.map (·.2)) rest).wp e.P Post a w
 |[],s,_,h,a,w,hR=>hk s a w h hR
 |x::l,s,hc,h,a,w,hR=>by
  rw[W0,WI]at hc;refine wp_seq (Code.wp_mono (fun y a' w' hl=>?_) (lf he hm x.2 x.1 s _ hc.1 h a w hR));obtain⟨s',hq,hR'⟩:=hl;cases y with
  |normal=>obtain⟨t,rfl,ht⟩:=hq;exact P7 he hm hpk hk hr l t hc.2 ht a' w' hR'
  |ret=>obtain⟨t,rfl,ht⟩:=hq;exact hr t a' w' ht hR'
  |exit i=>obtain⟨t,rfl,ht⟩:=hq;exact ht.elim
  |panic c=>obtain⟨v,t,rfl,rfl,hv⟩:=hq;exact(hpk _ _ hv).elim
  |_=>exact hq.elim
theorem P6{P:Program}{Q:Exit->Act->World->Prop}{id dm fc:Nat}{caps:Array Operand}{o1 o2:Oper}{a:Act}{w:World}(h1:o1.op=.makeFunc (.func fc) #[] caps)(d1:o1.dst=some dm)(g1:o1.guard=none)
  (h2:o2.op=.defer ⟨.value (.tmp dm),#[],#[]⟩) (d2:o2.dst=none) (g2:o2.guard=none) (hdm:dm<a.tmps.size)
  (h:Q .normal { a.put (some dm) (.func (.func fc) #[] (caps.map a.eval))with defers:=⟨.fn (.func fc) (caps.map a.eval),#[]⟩::a.defers } w):(Code.region id #[o1,o2] false).wp P Q a w:=by
 refine wp_region_lit (l:=[o1,o2]) ?_;refine wpList_plain g1 (fun K hK=>?_);have e1:(execOp a.eval o1).run P w=.ok (.value (.func (.func fc) #[] (caps.map a.eval))) w:=by
  unfold execOp;rw[h1];simp[Instr.makeFunc]
 unfold Oper.wp;rw[e1,Oper.upon_value,d1];refine hK _ _ ?_;refine wpList_plain g2 (fun K hK=>?_);have ev:(a.put (some dm) (.func (.func fc) #[] (caps.map a.eval))).eval (.tmp dm)=.func (.func fc) #[] (caps.map a.eval):=by
  show((a.tmps.setIfInBounds dm _).getD dm undef)=_
  simp[hdm]
 have e2:(execOp (a.put (some dm) (.func (.func fc) #[] (caps.map a.eval))).eval o2).run P w=.ok (.defer ⟨.fn (.func fc) (caps.map a.eval),#[]⟩) w:=by
  unfold execOp;rw[h2];simp[resolve,ev,Deferred.ofValue]
 unfold Oper.wp;rw[e2,Oper.upon_defer,d2];exact hK _ _ h
def dpk(e:En)(fn cl:Func)(anC:An)(rs:List U)(KK:Fl rs->Prop)(i2 i3 i4 i6:Nat):PKt:=fun v t=>∃n,v=Lt.flt n/\(Lit.int .i64 n).wf=true/\match gtA t.t 2,gtA t.t 3,gtA t.t 4 with
 |.one (.c (.pl ⟨.out j2,0,[]⟩)),.one (.c (.pl ⟨.out j3,0,[]⟩)),.one (.c (.pl ⟨.out j4,0,[]⟩))=>match Nat.beq j2 i2&&(Nat.beq j3 i3&&Nat.beq j4 i4)with
  |true=>Ur e anC (cl.body.getD .skip) [i6,i2,i3,i4] n t (fun s'=>match [i2,i3,i4].all (Je s')with
   |true=>pd e.P fn.results.toList rs KK ⟨s'.nx,[(2,0,.one (.c (.pl ⟨.out i2,0,[]⟩))),(3,0,.one (.c (.pl ⟨.out i3,0,[]⟩))),(4,0,.one (.c (.pl ⟨.out i4,0,[]⟩)))],s'.m⟩
   |false=>False)
  |false=>False
 |_,_,_=>False
def EO(e:En)(fn cl:Func)(l:List (An×Code))(an2 anC:An)(rest:Code)(ps rs:List U)(x:Fl ps)(KK:Fl rs->Prop):Prop:=
 P5 e l (uM ps x) (fun s=>match gtA s.t 2,gtA s.t 3,gtA s.t 4,gtA s.t 6 with
  |.one (.c (.pl ⟨.loc i2,0,[]⟩)),.one (.c (.pl ⟨.loc i3,0,[]⟩)),.one (.c (.pl ⟨.loc i4,0,[]⟩)),.one (.c (.pl ⟨.loc i6,0,[]⟩))=>
   wpT ⟨e.P,e.E,e.cs,e.sh,dpk e fn cl anC rs KK i2 i3 i4 i6⟩ an2 rest (s.put (some 22) .any).sw ⟨pd e.P fn.results.toList rs KK,fun _ _=>False,pd e.P fn.results.toList rs KK⟩
  |_,_,_,_=>False) (pd e.P fn.results.toList rs KK)
theorem zB{g:G}{s:St}{a:Act}{w:World}{H:FH}{γ:Gam}{F:Nm->Fp}(hX:RX g s.toS a w H γ F)(hex:g.ex=none){k i:Nat}(h:gtA s.t k=.one (.c (.pl ⟨.loc i,0,[]⟩))):∃b,γ (.loc i)=.blk b/\a.eval (.tmp k)=.pointer (some ⟨b,0,none⟩):=by
 have e:=hX.t k
 rw[G.tv_none hex,show aL s.toS.t k=(gtA s.t k).toV from cj k s.t,h]at e;obtain⟨_,_,ad,h1,h2⟩:=e;simp only[plA]at h1;split at h1
 ·rename_i b hb;simp only[WG]at h1;exact⟨b,hb,by rw[show a.eval (.tmp k)=a.tmps.getD k undef from rfl,h2,h1]⟩
 ·cases h1
theorem F9{g:G}{s:St}{a:Act}{w:World}{H:FH}{γ:Gam}{F:Nm->Fp}(hX:RX g s.toS a w H γ F)(hex:g.ex=none){k i b:Nat}(h:gtA s.t k=.one (.c (.pl ⟨.out i,0,[]⟩)))(hg:g.out i=some b):a.tmps.getD k undef=.pointer (some ⟨b,0,none⟩):=by
 have e:=hX.t k
 rw[G.tv_none hex,show aL s.toS.t k=(gtA s.t k).toV from cj k s.t,h]at e;obtain⟨_,_,ad,h1,h2⟩:=e;simp only[plA,hX.df.2.1 _ _ hg,WG]at h1;rw[h2,h1]
theorem D9{E:Ut}{cs:CTt}{sh:List (TypeId×List Sh)}(he:(⟨prog,E,cs,sh,fun _ _=>False⟩:En).ok)(hm:prog.follows .mixedOrders=true){f:Nat}{fn:Func}(hf:prog.funcs[f]? = some fn) (hname:(fn.name == "runtime.NumGoroutine")=false) {l:List (An×Code)} {an2 anC:An} {id:Nat} {o1 o2:Oper} {rest:Code}
  (hb:fn.body=some (seqs (l.map (·.2)) (.seq (.region id #[o1,o2] false) rest))) (h1:o1.op=.makeFunc (.func 33) #[] #[.tmp 6,.tmp 2,.tmp 3,.tmp 4]) (d1:o1.dst=some 22) (g1:o1.guard=none) (h2:o2.op=.defer ⟨.value (.tmp 22),#[],#[]⟩) (d2:o2.dst=none) (g2:o2.guard=none)
  (h22:Nat.blt 22 fn.ntmps=true) {ps rs:List U} {pre:Fl ps->Prop} {Fn:Fl ps->Fl rs} (hlen:Nat.ble ps.length fn.ntmps=true) (hc:l.all (fun x=>fw fn.ntmps x.2)=true) (hc2:fw fn.ntmps rest=true)
  (law:∀x,pre x->∀KK:Fl rs->Prop,KK (Fn x)->EO ⟨prog,E,cs,sh,fun _ _=>False⟩ fn f33 l an2 anC rest ps rs x KK):Cont prog f (cY ps rs pre Fn):=by
 refine⟨gp hf hname (by rw[hb];rfl),fun pk s ops k k' hk hcc=>?_,fun g pk s a w H γ F1 ops k hX hops hcc=>?_⟩
 ·unfold cY at hcc⊢;dsimp only at hcc⊢;split at hcc
  ·exact⟨hcc.1,hk _ _ (bN _ _) hcc.2⟩
  ·exact hcc.elim
 ·unfold cY at hcc;dsimp only at hcc;obtain⟨H1,F2,h1'⟩:=cE (ops.map (evA s)) s H F1 hX;generalize bw s (ops.map (evA s))=s1 at hcc h1';split at hcc
  rotate_left
  ·exact hcc.elim
  rename_i x hx;have hlx:ops.length=ps.length:=by
   obtain⟨_,_,c3⟩:=dl hx;have:=congrArg List.length c3
   rw[cV]at this;simpa using this
  have h:=law x hcc.1 (fun y=>k s1 (bL rs y)) hcc.2
  have hX0:=M7 h1' hops hx (nt:=fn.ntmps) (by rw[hlx];exact WT hlen)
  have e0:(uM ps x).toS=⟨bv 0 (eL ps x),[]⟩:=bb.S_ext (iN 0 ps x) rfl
  rw[<- e0]at hX0;have fin:∀(out:Nat->Option Nat)(ds:List Deferred)(t:St)(a':Act)(w':World),pd prog fn.results.toList rs (fun y=>k s1 (bL rs y)) t->R ⟨fn.ntmps,w,H1,fun _=>0,out,none,ds⟩ t.toS a' w' ->
    ∃v,(results fn a'.tmps).run prog w'=.ok v w'/\gF g a pk k (.returned v) w':=by
   intro out ds t a' w' ht hR;obtain⟨s2,hk2,H2,γ2,F3,hX2⟩:=lN (K:=fun r=>∃y,r=(bL rs y).toV/\k s1 (bL rs y)) (fun r hr=>⟨r,rfl,hr⟩) ht hR;obtain⟨y,v,s3,H3,F4,e1,e2,e3,e4,y0,e5,e6⟩:=tC hX2 rfl hk2;refine⟨y,e1,.inl ⟨y,s1,bL rs y0,H3,γ,F2,rfl,e6,?_,Qm h1' e2.fr e2.mem.agree⟩⟩;rw[<- e5];exact dW ct (l7 (fun _ _ _ h=>h) e4 e3)
  refine calls_of_wp_defers hf hb (P7 (e:=⟨prog,E,cs,sh,fun _ _=>False⟩) (g:=⟨fn.ntmps,w,H1,fun _=>0,fun _=>none,none,[]⟩) he hm (fun _ _ h=>h) (fun t a1 w1 ht hR=>?_) (fun t a1 w1 ht hR=>?_) l _ hc h _ w ⟨H1,γ,F2,hX0⟩)
  rotate_left
  ·obtain⟨v,e1,e2⟩:=fin _ _ t a1 w1 ht hR;obtain⟨_,_,_,hX1⟩:=hR;show Leaves prog fn a1.tmps _ a1.defers .returning w1
   rw[show a1.defers=[]from hX1.df.1];exact⟨v,e1,e2⟩
  ·obtain⟨H2,γ2,F3,hX1⟩:=hR;split at ht
   rotate_left
   ·exact ht.elim
   rename_i i2 i3 i4 i6 t2 t3 t4 t6;obtain⟨b2,q2,v2⟩:=zB hX1 rfl t2;obtain⟨b3,q3,v3⟩:=zB hX1 rfl t3;obtain⟨b4,q4,v4⟩:=zB hX1 rfl t4;obtain⟨b6,q6,v6⟩:=zB hX1 rfl t6;have hnt:a1.tmps.size=fn.ntmps:=hX1.nt
   refine wp_seq (P6 h1 d1 g1 h2 d2 g2 (by rw[hnt];exact WT h22) ?_);rw[show(#[.tmp 6,.tmp 2,.tmp 3,.tmp 4]:Array Operand).map a1.eval=#[.pointer (some ⟨b6,0,none⟩),.pointer (some ⟨b2,0,none⟩),.pointer (some ⟨b3,0,none⟩),.pointer (some ⟨b4,0,none⟩)]from by
    rw[<- v2,<- v3,<- v4,<- v6];simp]
   have hP:=hX1.put (d:=some 22) (by show decide (22<fn.ntmps)=true;exact decide_eq_true (WT h22)) (v:=(At.any).toV) (y:=.func (.func 33) #[] #[.pointer (some ⟨b6,0,none⟩),.pointer (some ⟨b2,0,none⟩),.pointer (some ⟨b3,0,none⟩),.pointer (some ⟨b4,0,none⟩)]) trivial
   have hP2:=aS (aB _ _ _) hP
   have hS:=Va hP2 (a':={ a1.put (some 22) (.func (.func 33) #[] #[.pointer (some ⟨b6,0,none⟩),.pointer (some ⟨b2,0,none⟩),.pointer (some ⟨b3,0,none⟩),.pointer (some ⟨b4,0,none⟩)])with defers:=⟨.fn (.func 33) #[.pointer (some ⟨b6,0,none⟩),.pointer (some ⟨b2,0,none⟩),.pointer (some ⟨b3,0,none⟩),.pointer (some ⟨b4,0,none⟩)],#[]⟩::a1.defers }) (ds:=[⟨.fn (.func 33) #[.pointer (some ⟨b6,0,none⟩),.pointer (some ⟨b2,0,none⟩),.pointer (some ⟨b3,0,none⟩),.pointer (some ⟨b4,0,none⟩)],#[]⟩]) rfl (by rw[show a1.defers=[]from hX1.df.1])
   have o2':oq γ2 i2=some b2:=by simp only[oq,q2]
   have o3':oq γ2 i3=some b3:=by simp only[oq,q3]
   have o4':oq γ2 i4=some b4:=by simp only[oq,q4]
   have o6':oq γ2 i6=some b6:=by simp only[oq,q6]
   refine Code.wp_mono (fun y a' w' hl=>?_) (lf (e:=⟨prog,E,cs,sh,dpk ⟨prog,E,cs,sh,fun _ _=>False⟩ fn f33 anC rs (fun y=>k s1 (bL rs y)) i2 i3 i4 i6⟩) he hm rest an2 _ _ hc2 ht _ _ ⟨_,_,_,hS⟩);obtain⟨s',hq,hR'⟩:=hl;have hdf:a'.defers=[⟨.fn (.func 33) #[.pointer (some ⟨b6,0,none⟩),.pointer (some ⟨b2,0,none⟩),.pointer (some ⟨b3,0,none⟩),.pointer (some ⟨b4,0,none⟩)],#[]⟩]:=by obtain⟨_,_,_,hX'⟩:=hR';exact hX'.df.1
   have hinv:(invoke (.fn (.func 33) #[.pointer (some ⟨b6,0,none⟩),.pointer (some ⟨b2,0,none⟩),.pointer (some ⟨b3,0,none⟩),.pointer (some ⟨b4,0,none⟩)]) #[]).run prog w'=.ok (.enter 33 #[.pointer (some ⟨b6,0,none⟩),.pointer (some ⟨b2,0,none⟩),.pointer (some ⟨b3,0,none⟩),.pointer (some ⟨b4,0,none⟩)]) w':=by
    have:=gp (P:=prog) (fn:=f33) (f:=33) Z0 Z0 Z0 #[.pointer (some ⟨b6,0,none⟩),.pointer (some ⟨b2,0,none⟩),.pointer (some ⟨b3,0,none⟩),.pointer (some ⟨b4,0,none⟩)] w'
    simp[invoke,this]
   have fin2:∀t:St,s'=t.toS->pd prog fn.results.toList rs (fun y=>k s1 (bL rs y)) t->Leaves prog fn a'.tmps (gF g a pk k) a'.defers .returning w':=by
    rintro t rfl ht
    rw[hdf];refine⟨by simp,_,_,33,_,rfl,hinv,(Rg _ _ _ _ w').mono ?_⟩;rintro e u' w'' ⟨⟨v,rfl⟩,rfl,rfl⟩
    obtain⟨v,e1,e2⟩:=fin _ _ t a' w'' ht hR';exact⟨v,e1,e2⟩
   cases y with
   |normal=>obtain⟨t,e1,ht⟩:=hq;exact fin2 t e1 ht
   |ret=>obtain⟨t,e1,ht⟩:=hq;exact fin2 t e1 ht
   |exit i=>obtain⟨t,e1,ht⟩:=hq;exact ht.elim
   |panic c=>
    obtain⟨v,t,rfl,rfl,n,rfl,hn,hv⟩:=hq;obtain⟨H3,γ3,F4,hX3⟩:=hR';split at hv
    rotate_left
    ·exact hv.elim
    rename_i j2 j3 j4 u2 u3 u4;split at hv
    rotate_left
    ·exact hv.elim
    rename_i hj;simp only[WI,Nat.beq_eq]at hj;obtain⟨rfl,rfl,rfl⟩:=hj;have p2:=F9 hX3 rfl u2 o2'
    have p3:=F9 hX3 rfl u3 o3'
    have p4:=F9 hX3 rfl u4 o4'
    show Leaves prog fn a'.tmps (gF g a pk k) a'.defers (.panicking (chn (Lt.flt n))) w'
    rw[hdf];refine⟨by simp,_,_,33,_,rfl,hinv,(Rf he hm hX3 o6' o2' o3' o4' hn hv).mono ?_⟩;rintro e u' w'' ⟨⟨v,rfl⟩,hu,s3,hK,H5,γ5,F5,hX5⟩
    split at hK
    rotate_left
    ·exact hK.elim
    rename_i hok;simp only[W0,List.all_nil,XZ,WI]at hok;obtain⟨k2,k3,k4⟩:=hok;dsimp only;rw[hu];refine fin _ _ _ a' w'' hK ⟨H5,γ5,F5,hX5.mem,hX5.fr,hX5.nt,hX5.df,fun i=>?_⟩;rw[G.tv_none rfl];have hX6:RX _ (⟨s3.nx,[],s3.m⟩:St).toS a' w'' H5 γ5 F5:=hX5
    have y2:=iV hX6 k2 o2'
    have y3:=iV hX6 k3 o3'
    have y4:=iV hX6 k4 o4'
    match i with
    |0=>exact trivial
    |1=>exact trivial
    |2=>rw[p2];exact y2
    |3=>rw[p3];exact y3
    |4=>rw[p4];exact y4
    |i+5=>exact trivial
   |_=>exact hq.elim
end Go.Am
end

section
namespace Go.Am
open Go Go.Proofs
def SZ(n:Nat)(b:EnB):List Code->St->(St->Bool)->(St->Bool)->Bool
 |[],s,k,_=>k s
 |c::l,s,k,r=>wpB n b c s ⟨fun s'=>SZ n b l s' k r,fun _ _=>false,r⟩
def ur(n:Nat)(b:EnB)(fn:Func)(l:List Code)(rest:Code)(ps rs:List U)(x:Fl ps)(KK:Fl rs->Bool):Bool:=
 SZ n b l (uM ps x) (fun s=>match gtA s.t 2,gtA s.t 3,gtA s.t 4,gtA s.t 6 with
  |.one (.c (.pl ⟨.loc _,0,[]⟩)),.one (.c (.pl ⟨.loc _,0,[]⟩)),.one (.c (.pl ⟨.loc _,0,[]⟩)),.one (.c (.pl ⟨.loc _,0,[]⟩))=>
   wpB n b rest (s.put (some 22) .any).sw ⟨Dx b.e.P fn.results.toList rs KK,fun _ _=>false,Dx b.e.P fn.results.toList rs KK⟩
  |_,_,_,_=>false) (Dx b.e.P fn.results.toList rs KK)
theorem Jz{n:Nat}{b:EnB}(hc:yG b.cs b.e.cs){pk:PKt}:∀(l:List Code)(s:St){kb rb:St->Bool}{k r:St->Prop},(∀s,kb s=true->k s)->(∀s,rb s=true->r s)->SZ n b l s kb rb=true->P5 (b.w pk) (l.map fun c=>(ig n c,c)) s k r
 |[],s,_,_,_,_,hk,_,h=>hk s h
 |c::l,s,kb,rb,k,r,hk,hr,h=>je hc n c s (Kb:=⟨fun s'=>SZ n b l s' kb rb,fun _ _=>false,rb⟩) (K:=⟨fun s'=>P5 (b.w pk) (l.map fun c=>(ig n c,c)) s' k r,fun _ _=>False,r⟩) ⟨fun s' h'=>Jz hc l s' hk hr h',fun _ _ h=>(by cases h),hr⟩ h
theorem Kp{n:Nat}{b:EnB}(hc:yG b.cs b.e.cs){fn cl:Func}{l:List Code}{anC:An}{rest:Code}{ps rs:List U}{x:Fl ps}{KKb:Fl rs->Bool}{KK:Fl rs->Prop}(hk:∀y,KKb y=true->KK y)(h:ur n b fn l rest ps rs x KKb=true) :
  EO (b.w fun _ _=>False) fn cl (l.map fun c=>(ig n c,c)) (ig n rest) anC rest ps rs x KK:=by
 have hr:∀s,Dx b.e.P fn.results.toList rs KKb s=true->pd b.e.P fn.results.toList rs KK s:=fun s h=>Af hk h
 unfold ur at h;unfold EO;refine Jz hc l _ (fun s h'=>?_) hr h;split at h'
 ·rename_i i2 i3 i4 i6 h2 h3 h4 h6
  (try rw[h2,h3,h4,h6])
  exact je hc n rest _ ⟨hr,fun _ _ h=>(by cases h),hr⟩ h'
 ·cases h'
def kLs:Nat->Code->List Code
 |0,_=>[]
 |n+1,.seq a b=>a::kLs n b
 |_+1,_=>[]
def kRs:Nat->Code->Code
 |0,c=>c
 |n+1,.seq _ b=>kRs n b
 |_+1,c=>c
def kHd:Code->Code
 |.seq a _=>a
 |c=>c
def VK:Code->Nat
 |.region id _ _=>id
 |_=>0
def Dy(c:Code)(i:Nat):Oper:=match c with
 |.region _ l _=>l.getD i default
 |_=>default
def qd{α β:Type}[DecidableEq α](xs:List (α×β))(df:β)(x:α):β:=match xs.find? (fun z=>decide (z.1=x))with
 |some z=>z.2
 |none=>df
theorem AB{n:Nat}(E:Ut)(sh:List (TypeId×List Sh))(l:ClS)(k:Nat){f:Nat}(fn:Func){ps rs:List U}[DecidableEq (Fl ps)][DecidableEq (Fl rs)](xs:List (Fl ps×Fl rs))
  (hf:prog.funcs[f]? = some fn) (hname:(fn.name == "runtime.NumGoroutine")=false)
  (hb:fn.body=some (seqs (kLs k (fn.body.getD .skip)) (.seq (.region (VK (kHd (kRs k (fn.body.getD .skip)))) #[Dy (kHd (kRs k (fn.body.getD .skip))) 0,Dy (kHd (kRs k (fn.body.getD .skip))) 1] false) (kRs (k+1) (fn.body.getD .skip)))))
  (h1:(Dy (kHd (kRs k (fn.body.getD .skip))) 0).op=.makeFunc (.func 33) #[] #[.tmp 6,.tmp 2,.tmp 3,.tmp 4]) (d1:(Dy (kHd (kRs k (fn.body.getD .skip))) 0).dst=some 22) (g1:(Dy (kHd (kRs k (fn.body.getD .skip))) 0).guard=none) (h2:(Dy (kHd (kRs k (fn.body.getD .skip))) 1).op=.defer ⟨.value (.tmp 22),#[],#[]⟩) (d2:(Dy (kHd (kRs k (fn.body.getD .skip))) 1).dst=none) (g2:(Dy (kHd (kRs k (fn.body.getD .skip))) 1).guard=none)
  (h22:Nat.blt 22 fn.ntmps=true) (hlen:Nat.ble ps.length fn.ntmps=true) (hc:(kLs k (fn.body.getD .skip)).all (fun c=>fw fn.ntmps c)=true) (hc2:fw fn.ntmps (kRs (k+1) (fn.body.getD .skip))=true)
  (df:Fl rs) (hall:∀x∈xs,ur n (clE E sh l) fn (kLs k (fn.body.getD .skip)) (kRs (k+1) (fn.body.getD .skip)) ps rs x.1 (fun y=>decide (y=x.2))=true) :
  Cont prog f (cY ps rs (fun x=>∃y,(x,y)∈xs) (qd xs df)):=by
 refine D9 (E:=E) (cs:=clI l) (sh:=sh) (xM E sh l) rN hf hname (l:=(kLs k (fn.body.getD .skip)).map fun c=>(ig n c,c)) (an2:=ig n (kRs (k+1) (fn.body.getD .skip))) (anC:=.l)
  (id:=VK (kHd (kRs k (fn.body.getD .skip)))) (by rw[WZ,show((fun x:An×Code=>x.2) ∘ fun c=>(ig n c,c))=id from rfl,List.map_id];exact hb) h1 d1 g1 h2 d2 g2 h22 hlen (by rw[Yk];exact hc) hc2 (fun x hp KK hK=>?_)
 obtain⟨y,hy⟩:=hp;unfold qd at hK;cases hfd:xs.find? (fun z=>decide (z.1=x))with
 |none=>exact absurd (List.find?_eq_none.1 hfd _ hy) (by simp)
 |some z=>
  rw[hfd]at hK;have e1:z.1=x:=by simpa using List.find?_some hfd
  have hz:=hall z (List.mem_of_find?_eq_some hfd)
  rw[e1]at hz;exact Kp (b:=clE E sh l) (uJ l) (fun w hw=>by rw[of_decide_eq_true hw];exact hK) hz
end Go.Am
end
