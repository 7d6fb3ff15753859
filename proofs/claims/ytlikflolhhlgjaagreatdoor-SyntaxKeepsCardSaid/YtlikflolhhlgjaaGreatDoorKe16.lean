/-
  Part 16: AmClo · AmE15 · AmDef · AmLibC.
-/
import Derived.Test.YtlikflolhhlgjaaGreatDoorKe15
import Derived.Recover
set_option linter.unusedSimpArgs false
set_option linter.unusedVariables false
set_option linter.unusedSectionVars false
set_option linter.unnecessarySimpa false
section
namespace Go.Am
open Go Go.RowKit Go.Proofs
def CN (cs:List Frame):Value×List Frame:=match recoverD cs with
 | some (v,cs')=>(v,cs')
 | none=>(.nilIface,cs)
theorem KU {P:Program} {Q:Exit->Act->List Frame->World->Prop} {id:Nat} {o0 o1:Oper} {d:Nat} {a:Act} {cs:List Frame} {w:World} (h0:o0.op=.call ⟨.builtin .recover,#[],#[]⟩) (h1:o1.op=.assign (.tmp d)) (g0:o0.guard=none) (g1:o1.guard=none)
  (h:Q .normal ((a.put o0.dst (CN cs).1).put o1.dst ((a.put o0.dst (CN cs).1).eval (.tmp d))) (CN cs).2 w):(Code.region id #[o0,o1] false).wpS P Q a cs w:=by
 refine wpS_region ?_;show wpOpsS _ _ _ [0,1] _ _ _
 have e0:∀ a:Act,(execOp a.eval o0).run P w=.ok .recover w:=fun a=>by
  unfold execOp;rw [h0];rfl
 have e1:∀ a:Act,(execOp a.eval o1).run P w=.ok (.value (a.eval (.tmp d))) w:=fun a=>by
  unfold execOp;rw [h1];rfl
 have i0:(#[o0,o1]:Array Oper)[0]? = some o0:=rfl
 have i1:(#[o0,o1]:Array Oper)[1]? = some o1:=rfl
 have w0:∀ f,Region.wanted o0 f=true:=fun f=>by simp [Region.wanted,g0]
 have w1:∀ f,Region.wanted o1 f=true:=fun f=>by simp [Region.wanted,g1]
 have fin:∀ v cs',Q .normal ((a.put o0.dst v).put o1.dst ((a.put o0.dst v).eval (.tmp d))) cs' w->wpOpsS P #[o0,o1] Q [1] (a.put o0.dst v) cs' w:=by
  intro v cs' hq;unfold wpOpsS;rw [i1];dsimp only;rw [if_pos (w1 _),e1];exact hq
 unfold wpOpsS;rw [i0];dsimp only;rw [if_pos (w0 _),e0];unfold CN at h;cases hr:recoverD cs with
 | none=>rw [hr] at h; exact fin _ _ h
 | some x=>obtain ⟨v,cs'⟩:=x; rw [hr] at h; exact fin _ _ h
theorem Lw {P:Program} {t u:TypeId} {ms} {x:Value} (h:P.underlying t=some (.interface ms)) (w:World):(binOp .neq t (.iface u x) .nilIface).run P w=.ok (.bool true) w:=by
 show (do pure (.bool (!(<- Op.equal t (.iface u x) .nilIface))):Sem Value).run P w=_
 unfold Op.equal Op.maxDepth;rw [show (10000:Nat)=9999+1 from rfl];unfold Op.equalIn;simp only [Sem.run_bind,run_underlying h,Result.andThen];rfl
theorem UF {P:Program} {c:Code} {Q:Exit->Act->World->Prop} {a:Act} {w:World} (b:Act) (h:a=b) (hb:c.wp P Q b w):c.wp P Q a w:=h ▸ hb
theorem So {P:Program} {c c':Code} {Q Q':Exit->Act->World->Prop} {a a':Act} {w:World} (hc:c'=c) (ha:a'=a) (h:c'.wp P Q' a' w) (hq:∀ e a w,Q' e a w->Q e a w):c.wp P Q a w:=by rw [<- hc,<- ha]; exact Code.wp_mono hq h
theorem RY (p0 p1 p2 p3:Value) (w:World):CallsD Tryz.prog 14 #[p0,p1,p2,p3] .returning w fun e u' w'=>(∃ v,e=.returned v)/\u'=.returning/\w'=w:=by
 refine callsD_of_wpS Tryz.func14 rfl (fun c0 cs hc=>?_);refine wpS_seq (KU rfl rfl rfl rfl ?_);have hr:CN (c0::cs)=(.nilIface,c0::cs):=by simp [CN,recoverD,hc]
 rw [hr];refine wpS_of_wp ?_;refine UF { tmps:=#[p0,p1,p2,p3,.nilIface,undef,undef,.nilIface,undef,undef,undef,undef,undef,undef,undef,undef,undef,undef,undef,undef,undef,undef,undef,undef,undef],defers:=[] } (by kernel_rfl) ?_
 go_wp2
 exact ⟨rfl,c0.mode,rfl,.tuple #[],(by rw [fZ,show Tryz.f14.results=#[] from rfl]; simp),⟨_,rfl⟩,hc,rfl⟩
section
variable {P:Program} {g:G} {Q:Exit->S->Prop}
theorem VH {w:World} {H:FH} {γ:Gam} {m:Mm} {x y:Value} (h:AR w H γ m (.one (.c (.d (.v x)))) y):y=x:=by
 obtain ⟨_,m,h⟩:=h;cases m <;> exact h.1
theorem KS {ops rest ops' rest':List Oper} {s:S} (h1:ops'=ops) (h2:rest'=rest) (h:AL P g ops' rest' Q s):AL P g ops rest Q s:=by rw [<- h1,<- h2]; exact h
theorem QT {c c':Code} {s:S} (h1:c'=c) (h:AW P g c' Q s):AW P g c Q s:=by rw [<- h1]; exact h
theorem Cl {ops rest:List Oper} {o:Oper} {s:St} (v:At) (hg:o.guard=none) (hd:okD g.nt o.dst=true)
  (h:∀ a w H γ F,RX g s.toS a w H γ F->∃ y,(execOp a.eval o).run P w=.ok (.value y) w/\AR w H γ s.toS.m v.toV y) (hk:AL P g ops rest Q (s.put o.dst v).toS):AL P g ops (o::rest) Q s.toS:=by
 refine BC hg (Kv (fun a w hR=>?_));obtain ⟨H,γ,F,hX⟩:=hR;obtain ⟨y,e1,e2⟩:=h a w H γ F hX;unfold Oper.wp;rw [e1];exact ⟨_,hk,H,γ,F,dO (bY s o.dst v) (hX.put hd e2)⟩
def Js (t:St) (i:Nat):Bool:=match bK t.m (.out i) with
 | some r=>!r.cells.isEmpty
 | none=>false
def kL:Code->Code | .seq a _=>a | c=>c
def kR:Code->Code | .seq _ b=>b | c=>c
def kT:Code->Code | .cond _ a _=>a | c=>c
def kO:Code->List Oper | .region _ ops _=>ops.toList | _=>[]
abbrev Vc (is:List Nat) (t:St):St:=⟨t.nx+1,yu t.nx 0 (is.map fun i=>.one (.c (.pl ⟨.out i,0,[]⟩))),t.m⟩
abbrev Vn (is:List Nat) (n:Int) (t:St):St:=((Vc is t).put (some 7) (sct (.v (Lt.flt n)))).put (some 4) (sct (.v (Lt.flt n)))
abbrev VT (is:List Nat) (n:Int) (t:St):St:=((Vn is n t).put (some 8) (sct (.v (Lt.flt n)))).put (some 9) (sct (.bo true))
abbrev V2 (is:List Nat) (n:Int) (t:St):St:=((VT is n t).put (some 11) (sct (.v (Lt.flt n)))).put (some 12) (.tup [.agg [.d (.i .i64 n)],.c (.d (.bo true))])
def TV (e:En) (an:An) (c:Code) (is:List Nat) (n:Int) (t:St) (K:St->Prop):Prop:=
 match is.all (Js t) with
 | true=>lQ e (kO (kL (kT (kR (kR c))))) ((kO (kL (kT (kR (kR c))))).drop 2) (V2 is n t) (fun s=>lQ e (kO (kL (kL (kR (kT (kR (kR c))))))) (kO (kL (kL (kR (kT (kR (kR c))))))) s (fun s=>match gtA s.t 16 with
  | .one (.c (.d (.bo false)))=>wpT e an (kR (kR (kT (kR (kR c))))) s ⟨K,fun _ _=>False,K⟩
  | _=>False))
 | false=>False
theorem i5 {w:World} {H:FH} {γ:Gam} {F:Nm->Fp} {a:Act} {t:St} {i b:Nat} (hX:RX g t.toS a w H γ F) (h:Js t i=true) (hg:g.out i=some b):AR w H γ t.toS.m (.one (.c (.pl ⟨.out i,0,[]⟩))) (.pointer (some ⟨b,0,none⟩)):=by
 refine ⟨fun _=>rfl,?_,⟨b,0,none⟩,?_,rfl⟩
 ·unfold Js at h;split at h
  ·rename_i r hr;rw [ak];refine ⟨_,bq hr,?_⟩;show 0<r.toR.cells.length
   have hl:r.toR.cells.length=r.cells.length:=by
    unfold Rt.toR holed;dsimp only;split
    ·simp
    ·split <;> simp
   rw [hl];cases hc:r.cells with
   | nil=>rw [hc] at h; cases h
   | cons x y=>simp
  ·cases h
 ·simp only [plA,hX.df.2.1 _ _ hg]
theorem Rq (x0 x1 x2 x3:Value) (r:Array Value) (i:Nat) (hi:i < 4):(#[x0,x1,x2,x3]++r).getD i undef=#[x0,x1,x2,x3].getD i undef:=by
 rw [WD,WD,W2 (by simpa using hi)]
set_option maxRecDepth 100000 in
theorem SH {E:Ut} {cs:CTt} {sh:List (TypeId×List Sh)} (he:(⟨Tryz.prog,E,cs,sh,fun _ _=>False⟩:En).ok) (hm:Tryz.prog.follows .mixedOrders=true) {t:St} {a0:Act} {w:World} {H:FH} {γ:Gam} {F:Nm->Fp} (hX:RX g t.toS a0 w H γ F)
  {i0 i1 i2 i3 b0 b1 b2 b3:Nat} (h0:g.out i0=some b0) (h1:g.out i1=some b1) (h2:g.out i2=some b2) (h3:g.out i3=some b3) {n:Int} (hn:(Lit.int .i64 n).wf=true) {an:An} {K:St->Prop} (h:TV ⟨Tryz.prog,E,cs,sh,fun _ _=>False⟩ an (Tryz.f14.body.getD .skip) [i0,i1,i2,i3] n t K) :
  CallsD Tryz.prog 14 #[.pointer (some ⟨b0,0,none⟩),.pointer (some ⟨b1,0,none⟩),.pointer (some ⟨b2,0,none⟩),.pointer (some ⟨b3,0,none⟩)] (.panicking (chn (Lt.flt n))) w
   fun e u' w'=>(∃ v,e=.returned v)/\settle u'=.returning/\∃ s':St,K s'/\∃ H' γ' F',RX g ⟨[],s'.toS.m⟩ a0 w' H' γ' F':=by
 refine callsD_of_wpS Tryz.func14 rfl (fun c0 cs' hc=>?_);refine wpS_seq (KU rfl rfl rfl rfl ?_);have hr:CN (c0::cs')=(Lt.flt n,{ c0 with mode:=.panicking [{ v:=Lt.flt n,recovered:=true }] }::cs'):=by simp [CN,recoverD,hc]
 rw [hr];refine wpS_of_wp ?_;unfold TV at h;split at h
 rotate_left
 ·exact h.elim
 rename_i hok;simp only [Wl,Xh,Xe,V7] at hok;obtain ⟨k0,k1,k2,k3⟩:=hok
 let g3:G:=⟨25,g.w0,g.H0,g.own0,g.out,none,[]⟩
 have u0:=i5 hX k0 h0
 have u1:=i5 hX k1 h1
 have u2:=i5 hX k2 h2
 have u3:=i5 hX k3 h3
 have hA:RX g3 (Vc [i0,i1,i2,i3] t).toS { tmps:=#[.pointer (some ⟨b0,0,none⟩),.pointer (some ⟨b1,0,none⟩),.pointer (some ⟨b2,0,none⟩),.pointer (some ⟨b3,0,none⟩)]++Array.replicate (Tryz.f14.ntmps - 4) undef,defers:=[] } w H γ F:=by
  refine ⟨hX.mem,hX.fr,by kernel_rfl,⟨rfl,hX.df.2⟩,fun i=>?_⟩;rw [G.tv_none rfl]
  match i with
  | 0=>rw [Rq _ _ _ _ _ 0 (by decide)]; exact u0
  | 1=>rw [Rq _ _ _ _ _ 1 (by decide)]; exact u1
  | 2=>rw [Rq _ _ _ _ _ 2 (by decide)]; exact u2
  | 3=>rw [Rq _ _ _ _ _ 3 (by decide)]; exact u3
  | i+4=>exact trivial
 have hF:∀ (w:World) (H:FH) (γ:Gam) (m:Mm),AR w H γ m (sct (.v (Lt.flt n))).toV (Lt.flt n):=fun w H γ m=>⟨fun _=>rfl,0,rfl,rfl⟩
 have hB:=dO (bY _ _ _) ((dO (bY _ _ _) (hA.put (d:=some 7) rfl (hF _ _ _ _))).put (d:=some 4) rfl (hF _ _ _ _))
 have run:AW Tryz.prog g3 (kR (Tryz.f14.body.getD .skip)) (LQ (fun _ _=>False) ⟨K,fun _ _=>False,K⟩) (Vn [i0,i1,i2,i3] n t).toS:=by
  refine mW (kf (Cl (sct (.v (Lt.flt n))) rfl rfl (fun a w H γ F hX=>?_) (Cl (sct (.bo true)) rfl rfl (fun a w H γ F hX=>?_) (II (uI (b:=true) ?_ (fun _=>mW (kf (Cl (sct (.v (Lt.flt n))) rfl rfl (fun a w H γ F hX=>?_)
   (Cl (.tup [.agg [.d (.i .i64 n)],.c (.d (.bo true))]) rfl rfl (fun a w H γ F hX=>?_) ?_)))) (fun h=>by cases h))))))
  ·have e:=hX.t 4
   rw [G.tv_none rfl] at e;exact ⟨_,rfl,e⟩
  ·have e:=hX.t 8
   rw [G.tv_none rfl] at e;have e8:a.eval (.tmp 8)=Lt.flt n:=VH e
   refine ⟨.bool true,?_,⟨fun _=>rfl,0,rfl⟩⟩;simp only [execOp,e8,show a.eval (.const .nilIface)=.nilIface from rfl,Sem.run_bind,Lt.flt,Lw Tryz.underlying20];simp [eqGuard,Result.andThen]
  ·rfl
  ·have e:=hX.t 4
   rw [G.tv_none rfl] at e;exact ⟨_,rfl,e⟩
  ·have e:=hX.t 11
   rw [G.tv_none rfl] at e;have e8:a.eval (.tmp 11)=Lt.flt n:=VH e
   refine ⟨.tuple #[.agg #[.int .i64 n],.bool true],?_,?_⟩
   ·simp only [execOp,e8,Sem.run_bind,Instr.typeAssert,Lt.flt,run_underlying Tryz.underlying64,Result.andThen];simp
   ·exact ⟨_,rfl,⟨_,rfl,rfl,⟨_,[],fun _=>0,fun _=>0,rfl,fun _=>rfl,⟨fun _=>rfl,0,rfl,hn⟩,fun _=>rfl⟩⟩,⟨fun _=>rfl,0,rfl⟩,trivial⟩
  ·refine KS (by kernel_rfl) (by kernel_rfl) (lw (e:=⟨Tryz.prog,E,cs,sh,fun _ _=>False⟩) he (fun x s h=>h.elim fun _ h=>h.elim fun _ h=>h.2.2.elim) (by kernel_rfl) h (fun t ht=>?_));refine mW (mW (kf (KS (by kernel_rfl) (by kernel_rfl) (lw (e:=⟨Tryz.prog,E,cs,sh,fun _ _=>False⟩) he (fun x s h=>h.elim fun _ h=>h.elim fun _ h=>h.2.2.elim) (by kernel_rfl) ht (fun t ht=>?_)))));split at ht
   ·rename_i hg16;exact uI (b:=false) (iO hg16) (fun h=>by cases h) (fun _=>qP (QT (by kernel_rfl) (fS he hm _ an t _ (by kernel_rfl) ht)))
   ·exact ht.elim
 refine So (by kernel_rfl) (by kernel_rfl) (run _ _ ⟨H,γ,F,hB⟩) (fun x a' w' hl=>?_);obtain ⟨s',hq,H',γ',F',hX'⟩:=hl;have fin:∀ t':St,s'=t'.toS->K t'->a'.defers=[]/\∃ u',({ c0 with mode:=.panicking [{ v:=Lt.flt n,recovered:=true }] }::cs':List Frame)={ c0 with mode:=u' }::cs'/\∃ v,(results Tryz.f14 a'.tmps).run Tryz.prog w'=.ok v w' /\
   ((∃ v',Ending.returned v=.returned v')/\settle u'=.returning/\∃ s':St,K s'/\∃ H' γ' F',RX g ⟨[],s'.toS.m⟩ a0 w' H' γ' F'):=by
  rintro t' rfl hk
  exact ⟨hX'.df.1,_,rfl,.tuple #[],(by rw [fZ,show Tryz.f14.results=#[] from rfl]; simp),⟨_,rfl⟩,rfl,t',hk,H',γ',F',hX'.mem,hX'.fr,hX.nt,⟨hX.df.1,hX'.df.2⟩,fun _=>trivial⟩
 cases x with
 | normal=>obtain ⟨t',e1,ht⟩:=hq; exact fin t' e1 ht
 | ret=>obtain ⟨t',e1,ht⟩:=hq; exact fin t' e1 ht
 | exit i=>obtain ⟨t',e1,ht⟩:=hq; exact ht.elim
 | panic c=>obtain ⟨_,_,_,_,hv⟩:=hq; exact hv.elim
 | _=>exact hq.elim
end
end Go.Am
end

section
namespace Go.Am
section
variable {g:G} {s1:S} {a:Act} {w:World} {H1:FH} {γ:Gam} {F1:Nm->Fp}
theorem G7 {j:Nat} (h1:RX g s1 a w H1 γ F1) {o:Operand} {os:List Operand} {r:Nm} {cells:List T} (hops':aX o=true/\os.all aX=true) (heo:ev s1 o=.one (.c (.pl ⟨r,0,[]⟩))) (hroot:ae s1.m r=some ⟨true,cells⟩)
  (htyd:(Nm.out j).tyd=r.tyd) (hself:cells.all (T.self r)=true) (hfz:(os.map (ev s1)).all AV.isFz=true) {nt:Nat} (hle:os.length+1<=nt) :
  ∃ b γc,γ r=.blk b/\RX ⟨nt,w,H1,F1 r,fun i=>if i=j then some b else none,none,[]⟩ ⟨aW 0 (.one (.c (.pl ⟨.out j,0,[]⟩))::os.map fun x=>(ev s1 x).map T.canon),[(.out j,⟨true,cells.map (T.ren r (.out j))⟩)]⟩
   ⟨((o::os).map a.eval).toArray++Array.replicate (nt - ((o::os).map a.eval).toArray.size) undef,[]⟩ w H1 γc (fun _=>F1 r):=by
 have hevo:=bg h1 hops'.1
 rw [heo] at hevo;obtain ⟨_,hokp,ad,had,hval⟩:=hevo;have hR:=h1.mem.roots _ (am hroot)
 obtain ⟨b,hγr⟩:∃ b,γ r=.blk b:=by
  have hR2:=hR
  unfold be at hR2;rw [if_pos rfl] at hR2;obtain ⟨b,_,_,_,_,e,_⟩:=hR2;exact ⟨b,e⟩
 have had':ad=⟨b,0,none⟩:=by
  simp only [plA,hγr,V6] at had; exact had.symm
 subst had';have hoff:0<cells.length:=by
  rw [ak] at hokp;obtain ⟨r0,q1,q2⟩:=hokp;dsimp only at q1;rw [hroot] at q1;obtain rfl:=Option.some.inj q1;exact q2
 let γc:Gam:=fun n=>if n=.out j then .blk b else γ n
 let mc:Mm:=[(.out j,⟨true,cells.map (T.ren r (.out j))⟩)]
 let g1:G:=⟨nt,w,H1,F1 r,fun i=>if i=j then some b else none,none,[]⟩
 have hγc:γc (.out j)=.blk b:=by simp [γc]
 have hRc:be w H1 γc mc (.out j) ⟨true,cells.map (T.ren r (.out j))⟩ (F1 r):=
  kq hR htyd hself hγr hroot hγc ⟨cells.map (T.ren r (.out j)),by simp [mc,ae],by simp⟩
 have hge:∀ c,F1 r c<=tot F1 s1.m c:=fun c=>bI (F:=F1) (am hroot) c
 let Fc:Nm->Fp:=fun _=>F1 r
 have htc:∀ c,tot Fc mc c=F1 r c:=fun c=>(XE (F1 r c))
 have hmc:Mem w H1 γc mc Fc:=by
  refine ⟨h1.mem.agree,fun x hx=>?_,by simp [mc],fun c=>by rw [htc]; exact Xt (hge c) (h1.mem.le1 c),fun c hc=>by rw [htc] at hc; exact h1.mem.lt c (by have:=hge c; omega),fun c hc=>by rw [htc] at hc; exact h1.mem.nofz c (by have:=hge c; omega)⟩;simp only [mc,WJ] at hx;subst hx;exact hRc
 refine ⟨b,γc,hγr,?_⟩;refine ⟨hmc,⟨Wb _,rfl,rfl,rfl,fun _ _ _=>rfl,fun _ _ _ h=>h,fun b o h2 h3=>absurd h3 h2,fun c hc=>.inl (by rw [htc] at hc; exact hc),kZ⟩,?_,⟨rfl,fun i b' e=>?_,eG h1⟩,fun i=>?_⟩
 ·simp [g1]; omega
 ·simp only [g1] at e;split at e
  ·rename_i hj; subst hj; simp only [V6] at e; subst e; exact hγc
  ·simp at e
 ·have hget:∀ x,(o::os)[i]? = some x->(((o::os).map a.eval).toArray++Array.replicate (nt - ((o::os).map a.eval).toArray.size) undef).getD i undef=a.eval x:=by
   intro x hx;rw [WD,W2 (by simp; have:=ai hx; simp at this; omega)];have e:((o::os).map a.eval)[i]? = some (a.eval x):=by rw [Wa,hx]; rfl
   rw [List.getElem?_toArray,e]; rfl
  cases i with
  | zero=>
   rw [G.tv_none rfl,hget o rfl,hval];simp only [aW,aA,if_true];refine ⟨fun _=>rfl,?_,⟨b,0,none⟩,?_,rfl⟩
   ·rw [ak];refine ⟨⟨true,cells.map (T.ren r (.out j))⟩,by simp [mc,ae],?_⟩;show 0 < (cells.map (T.ren r (.out j))).length
    simpa using hoff
   ·simp only [plA,hγc]
  | succ i=>
   have hent:aA (aW 0 (.one (.c (.pl ⟨.out j,0,[]⟩))::os.map fun x=>(ev s1 x).map T.canon)) (i+1)=((os.map fun x=>(ev s1 x).map T.canon)[i]?).getD .any:=by
    simp only [aW,aA];rw [if_neg (by omega)];rw [eW];simp
   show AR w H1 γc mc (aA (aW 0 (.one (.c (.pl ⟨.out j,0,[]⟩))::os.map fun x=>(ev s1 x).map T.canon)) (i+1)) _
   rw [hent,Wa];cases hi:os[i]? with
   | none=>simp only [XB,XP]; trivial
   | some x=>
    have hx:=bg h1 (Wj.1 hops'.2 x (WC hi))
    simp only [Option.map_some,Option.getD_some];have hz:(ev s1 x).isFz=true:=Wj.1 hfz (ev s1 x) (WI (WC hi))
    rw [G.tv_none rfl,hget x (by simpa using hi)];exact dT ch (jo (fun _ _ _ h=>h) hz hx)
theorem Nf {j:Nat} (h1:RX g s1 a w H1 γ F1) {r:Nm} {cells:List T} (hroot:ae s1.m r=some ⟨true,cells⟩) (htyd:(Nm.out j).tyd=r.tyd) {b:Nat} (hγr:γ r=.blk b) {nt:Nat} {s2:S} {a':Act} {w':World} {H2:FH} {γ':Gam} {F2:Nm->Fp}
  (e2:RX ⟨nt,w,H1,F1 r,fun i=>if i=j then some b else none,none,[]⟩ s2 a' w' H2 γ' F2) {cells':List T} (hout:ae s2.m (.out j)=some ⟨true,cells'⟩) (hl2:cells'.length=cells.length) (hs2:cells'.all (T.self (.out j))=true) :
  ∃ F3,RX g ⟨i7 (gn r) s1.t,(r,⟨true,cells'.map (T.ren (.out j) r)⟩)::aH (gn r) (bh s1.m r)⟩ a w' H2 γ F3:=by
 have hge:∀ c,F1 r c<=tot F1 s1.m c:=fun c=>bI (F:=F1) (am hroot) c
 have hfr:=e2.fr
 dsimp only at hfr;have hd:=nH h1 r
 have hmdm:(s1.drop r).m=aH (bG r) (bh s1.m r):=rfl
 have hdm:=hd.mem
 rw [hmdm] at hdm;generalize hmd0:aH (bG r) (bh s1.m r)=md at hdm;have tdel:∀ c,tot F1 md c+F1 r c=tot F1 s1.m c:=fun c=>by
  rw [<- hmd0,br]; exact gA hroot c
 have hsame:∀ c,tot F1 md c≠0->w'.heap[c]? = w.heap[c]? := fun c hc=>
  hfr.block c (h1.mem.lt c (by have:=tdel c; omega)) (by have:=tdel c; have:=h1.mem.le1 c; omega)
 have hnewc:∀ c,c<w.heap.size->F1 r c=0->H1 c=H2 c:=by
  intro c hc h0
  funext o
  cases hh:H1 c o with
  | some y=>rw [hfr.hold c o y hh]
  | none=>
   cases hh2:H2 c o with
   | none=>rfl
   | some y=>
    rcases hfr.hnew c o (by rw [hh2]; simp) hh with h' | h'
    ·exact absurd h0 h'
    ·omega
 have hKp:=cP (w':=w') hdm hsame
 have hmd:Mem w' H2 γ md F1:=by
  refine ⟨e2.mem.agree,fun x hx=>aM hKp hfr.hold rfl (fun c hc=>hsame c (by have:=bI (F:=F1) hx c; omega)) (hdm.roots x hx),hdm.keys,hdm.le1,fun c hc=>by have:=hdm.lt c hc; have:=hfr.size; omega,fun c hc o=>?_⟩;rw [<- hnewc c (hdm.lt c hc) (by have:=tdel c; have:=h1.mem.le1 c; omega)]; exact hdm.nofz c hc o
 have hRout:=e2.mem.roots _ (am hout)
 have hγ':γ' (.out j)=.blk b:=e2.df.2.1 j b (by simp)
 have hnone:ae md r=none:=by rw [<- hmd0]; exact xl h1.mem.keys
 have hupd:upd γ r (.blk b)=γ:=by
  funext n
  by_cases hn:n=r
  ·subst hn; rw [cU,hγr]
  ·rw [lB hn]
 have hRr:be w' H2 (upd γ r (.blk b)) ((r,⟨true,cells'.map (T.ren (.out j) r)⟩)::md) r ⟨true,cells'.map (T.ren (.out j) r)⟩ (F2 (.out j)):=
  kq hRout htyd.symm hs2 hγ' hout cU ⟨cells'.map (T.ren (.out j) r),by simp only [ae,if_true],by simp⟩
 have hf1:∀ c,F2 (.out j) c<=tot F2 s2.m c:=fun c=>bI (F:=F2) (am hout) c
 have hf2:∀ c,F2 (.out j) c≠0->F1 r c≠0\/w.heap.size<=c:=fun c hc=>hfr.tt c (by have:=hf1 c; omega)
 have hmd0':∀ c,F2 (.out j) c≠0->tot F1 md c=0:=fun c hc=>by
  rcases hf2 c hc with h' | h'
  ·have:=tdel c; have:=h1.mem.le1 c; omega
  ·rcases WQ (tot F1 md c) with h0 | h0
   ·exact h0
   ·have:=hdm.lt c (by omega); omega
 obtain ⟨hM,htot⟩:=p7 hmd (n:=r) (rc:=.blk b) (r:=⟨true,cells'.map (T.ren (.out j) r)⟩) (f:=F2 (.out j)) hnone hRr (fun c=>by
   by_cases hc:F2 (.out j) c=0
   ·have:=hdm.le1 c; omega
   ·have:=hmd0' c hc; have:=e2.mem.le1 c; have:=hf1 c; omega)
  (fun c hc=>⟨e2.mem.lt c (by have:=hf1 c; omega),e2.mem.nofz c (by have:=hf1 c; omega)⟩)
 rw [hupd] at hM;have hFr:Fr w H1 (tot F1 s1.m) w' H2 (tot (upd F1 r (F2 (.out j))) ((r,⟨true,cells'.map (T.ren (.out j) r)⟩)::md)):=by
  refine ⟨hfr.size,hfr.os,hfr.tape,hfr.output,fun c hc h0=>hfr.block c hc (by have:=hge c; omega),hfr.hold,fun c o h2 h3=>?_,fun c hc=>?_,hfr.nz⟩
  ·rcases hfr.hnew c o h2 h3 with h' | h'
   ·exact .inl (by have:=hge c; omega)
   ·exact .inr h'
  ·rw [htot] at hc;by_cases h0:F2 (.out j) c=0
   ·exact .inl (by have:=tdel c; omega)
   ·rcases hf2 c h0 with h' | h'
    ·exact .inl (by have:=hge c; omega)
    ·exact .inr h'
 have hKB:KeepsB (gn r) w γ s1.m w' γ ((r,⟨true,cells'.map (T.ren (.out j) r)⟩)::md):=by
  have hKa:=iv (w:=w') (γ:=γ) (rc:=.blk b) (r:=⟨true,cells'.map (T.ren (.out j) r)⟩) hnone
  rw [hupd] at hKa;have hKd:KeepsB (bG r) w γ s1.m w γ md:=by rw [<- hmd0]; exact dh
  constructor
  ·intro q hbq hq;by_cases hqr:q.root=r
   ·obtain ⟨qr,qo,qp⟩:=q;dsimp only at hqr;subst hqr;simp only [gn,decide_true,Wv,WY,Bool.not_eq_false',List.isEmpty_iff] at hbq;subst hbq;refine ⟨?_,by simp only [plA]⟩;rw [ak] at hq ⊢;obtain ⟨r0,q1,q2⟩:=hq;dsimp only at q1 q2;rw [hroot] at q1;obtain rfl:=Option.some.inj q1;refine ⟨⟨true,cells'.map (T.ren (.out j) qr)⟩,by simp only [ae,if_true],?_⟩;have q2':qo<cells.length:=q2
    show qo < (cells'.map (T.ren (.out j) qr)).length
    simp; omega
   ·obtain ⟨k1,k2⟩:=hKd.pl q (by simp [bG,hqr]) hq;obtain ⟨k3,k4⟩:=hKp.pl q k1;obtain ⟨k5,k6⟩:=hKa.pl q k3;exact ⟨k5,k6.trans (k4.trans k2)⟩
  ·intro q hbq hq;have hqr:q.root≠r:=by
    intro e;simp [gn,e] at hbq
   obtain ⟨k1,k2⟩:=hKd.rf q (by simp [bG,hqr]) hq;obtain ⟨k3,k4⟩:=hKp.rf q k1;obtain ⟨k5,k6⟩:=hKa.rf q k3;exact ⟨k5,k6.trans (k4.trans k2)⟩
 have hmem2:ae ((r,(⟨true,cells'.map (T.ren (.out j) r)⟩:Root))::aH (gn r) (bh s1.m r)) r=some ⟨true,cells'.map (T.ren (.out j) r)⟩:=by simp only [ae,if_true]
 have hKB2:KeepsB (gn r) w γ s1.m w' γ ((r,⟨true,cells'.map (T.ren (.out j) r)⟩)::aH (gn r) (bh s1.m r)):=by
  constructor
  ·intro q hbq hq;refine ⟨?_,(hKB.pl q hbq hq).2⟩;by_cases hqr:q.root=r
   ·have h:=(hKB.pl q hbq hq).1
    rw [ak] at h ⊢;obtain ⟨r0,q1,q2⟩:=h;refine ⟨r0,?_,q2⟩;rw [hqr] at q1 ⊢;simpa only [ae,if_true] using q1
   ·have h2:bA (aH (gn r) (bh s1.m r)) q:=oL (by rw [ak] at hq ⊢; rw [iy hqr]; exact hq)
    rw [ak] at h2 ⊢;obtain ⟨r0,q1,q2⟩:=h2;exact ⟨r0,by simp only [ae]; rw [if_neg (fun e=>hqr e.symm)]; exact q1,q2⟩
  ·intro q hbq hq;have hqr:q.root≠r:=by
    intro e;simp [gn,e] at hbq
   refine ⟨?_,(hKB.rf q hbq hq).2⟩;have h2:fl (aH (gn r) (bh s1.m r)) q:=oy (by unfold fl at hq ⊢; rw [iy hqr]; exact hq)
   unfold fl at h2 ⊢;simp only [ae];rw [if_neg (fun e=>hqr e.symm)];exact h2
 have ht2:∀ Fu:Nm->Fp,tot Fu ((r,(⟨true,cells'.map (T.ren (.out j) r)⟩:Root))::aH (gn r) (bh s1.m r))=tot Fu ((r,⟨true,cells'.map (T.ren (.out j) r)⟩)::md):=fun Fu=>by
  funext c
  rw [bb,bb,<- hmd0,br,br]
 have hM2:Mem w' H2 γ ((r,⟨true,cells'.map (T.ren (.out j) r)⟩)::aH (gn r) (bh s1.m r)) (upd F1 r (F2 (.out j))):=by
  refine ⟨hM.agree,fun x hx=>?_,?_,fun b=>by rw [ht2]; exact hM.le1 b,fun b hb=>hM.lt b (by rwa [ht2] at hb),fun b hb=>hM.nofz b (by rwa [ht2] at hb)⟩
  ·rcases Wk.1 hx with rfl | hx
   ·dsimp only;rw [cU];exact kq hRout htyd.symm hs2 hγ' hout hγr ⟨_,hmem2,by simp⟩
   ·simp only [aH,WW] at hx;obtain ⟨x0,hx0,rfl⟩:=hx;dsimp only;have hne:x0.1≠r:=fun e=>im (n:=r) h1.mem.keys (by have:=WI (f:=(·.1)) hx0; rw [e] at this; exact this)
    rw [lB hne];refine oE hKB2 hfr.hold rfl (fun c hc=>hsame c ?_) (h1.mem.roots x0 (qL hx0));have:=bI (F:=F1) hx0 c
    rw [<- hmd0,br];omega
  ·have:=hM.keys
   rw [<- hmd0] at this;simpa only [List.map_cons,lJ] using this
 refine ⟨_,gj h1 hM2 (by rw [ht2]; exact hFr) (fun i=>?_) (fun _=>rfl)⟩;rw [iK];exact nL hKB2 hfr.hold (h1.t i)
end
theorem Rv {α β:Type} {r:Except Value α×β} {K K':α->β->Prop} {KP:Value->β->Prop} (h:∀ x y,K x y->K' x y) (hr:exP r K KP):exP r K' KP:=by
 unfold exP at hr ⊢;split at hr
 ·exact h _ _ hr
 ·exact hr
theorem MJ {e:En} (he:e.ok) (hm:e.P.follows .mixedOrders=true) {f:Nat} {fn:Func} (hf:e.P.funcs[f]? = some fn) (hname:(fn.name == "runtime.NumGoroutine")=false) (hb:fn.body.isSome=true) {an:An} {sh:List Sh} {u:U} {ps rs:List U} {pre:El u->Fl ps->Prop} {Fn:El u->Fl ps->Except Value (Fl rs)×El u}
  (hlen:Nat.ble (ps.length+1) fn.ntmps=true) (hc:jf fn.ntmps (fn.body.getD .skip)=true) (law:∀ x y,pre x y->∀ (KK:Fl rs×El u->Prop) (KP:Value->El u->Prop),exP (Fn x y) (fun z x'=>KK (z,x')) KP->cH e fn an sh u ps rs x y KK KP):Cont e.P f (fx sh u ps rs pre Fn):=by
 have hb':fn.body=some (fn.body.getD .skip):=by cases h:fn.body with
  | none=>rw [h] at hb; cases hb
  | some c=>rfl
 refine ⟨GX hf hname hb,fun pk s ops k k' hk hcc=>?_,fun g pk s a w H γ F1 ops k hX hops hcc=>?_⟩
 ·unfold fx at hcc ⊢;split at hcc
  ·exact hcc.elim
  ·dsimp only at hcc ⊢;split at hcc
   ·split at hcc
    ·split at hcc
     ·split at hcc
      ·split at hcc
       ·refine ⟨hcc.1,Rv (fun z x' hz=>hk _ _ ?_ hz) hcc.2⟩;exact ((cv _ _).trans (cO _ _ _ _ _)).trans ⟨WZ _,fb (Wb _),((qG _).trans (ej (Wb _))).trans (iw _ _ _ (Wb _))⟩
       ·exact hcc.elim
      ·exact hcc.elim
     ·exact hcc.elim
    ·exact hcc.elim
   ·exact hcc.elim
 ·unfold fx at hcc;cases ops with
  | nil=>exact hcc.elim
  | cons o os=>
   dsimp only at hcc;have hops':aX o=true/\os.all aX=true:=by simpa using hops
   obtain ⟨H1,F2,h1⟩:=db (os.map (evA s)) s H F1 hX;generalize b9 s (os.map (evA s))=s1 at hcc h1;split at hcc
   ·rename_i r hro;obtain ⟨H2,γ2,F3,h2⟩:=cq (g:=g) r (eL u) sh 0 (Mr h1);generalize bd s1 r (eL u) sh 0=s2 at hcc h2;split at hcc
    ·rename_i r' hev2;split at hcc
     ·rename_i cells hdr hty hroot;have hr':r'=r:=by simpa using hdr
      subst hr';split at hcc
      ·rename_i ts hts;split at hcc
       ·rename_i x y hx hy;have hn2:=rk h2
        obtain ⟨c1,c2,c3⟩:=eE hy;obtain ⟨k1,_⟩:=nN hts (gX hx);have hrootS:ae s2.toS.m r'=some ⟨true,cells.map Tt.toT⟩:=by
         have:=bq hroot
         exact this
        have hlen2:os.length=ps.length:=by
         have:=congrArg List.length c3
         rw [dP] at this;simpa using this
        obtain ⟨b,γc,hγr,hent⟩:=G7 (j:=0) h2 hops' (by rw [ax hops'.1,hev2]; rfl) hrootS (by rw [hty]; rfl) (fT hts).1 (by rw [gk hops'.2]; exact c2) (nt:=fn.ntmps) (by rw [hlen2]; exact Wh hlen);have hent2:=nl hent (.out 0)
        have e0:(⟨1,(0,0,.one (.c (.pl ⟨.out 0,0,[]⟩)))::yH 1 ps y,[(.out 0,0,⟨true,au sh (flat u x),none⟩)]⟩:St).toS=⟨aW 0 (.one (.c (.pl ⟨.out 0,0,[]⟩))::os.map fun x=>(ev s2.toS x).map T.canon),[(Nm.out 0,(⟨true,(cells.map Tt.toT).map (T.ren r' (.out 0))⟩:Root))].map fun x=>(x.1,if x.1=.out 0 then fp x.2 else x.2)⟩:=by
         have e1:(os.map fun x=>(ev s2.toS x).map T.canon)=iz ps y:=by
          have e:(os.map fun x=>(ev s2.toS x).map T.canon)=(os.map (ev s2.toS)).map (AV.map T.canon):=by rw [Wo]; rfl
          rw [e,gk hops'.2]; exact c3
         rw [e1];refine bx.S_ext ?_ ?_
         ·simp only [St.toS,List.map_cons,aW,i9]; rfl
         ·rw [(fT hts).2];simp only [St.toS,List.map_cons,List.map_nil,if_true,Rt.toR,holed,fp,k1]
        rw [<- e0] at hent2;have h:=law x y hcc.1 (fun z=>k ⟨s2.nx+1,eR (dq r') s2.nx s2.t,(r',s2.nx,⟨true,au sh (flat u z.2),none⟩)::bw (dq r') s2.nx (dw s2.m r')⟩ (dF rs z.1))
         (fun v x'=>pk v ⟨s2.nx+1,eR (dq r') s2.nx s2.t,(r',s2.nx,⟨true,au sh (flat u x'),none⟩)::bw (dq r') s2.nx (dw s2.m r')⟩) hcc.2
        have back:∀ {s':S} {a':Act} {w':World} {H':FH} {γ':Gam} {F':Nm->Fp} {cells1 ts1:List Tt} {y1:El u},RX ⟨fn.ntmps,w,H2,F3 r',fun i=>if i=0 then some b else none,none,[]⟩ s' a' w' H' γ' F' ->
          ae s'.m (.out 0)=some ⟨true,cells1.map Tt.toT⟩->dL sh cells1=some ts1->je u ts1=some y1 ->
          ∃ F4,RX g (⟨s2.nx+1,eR (dq r') s2.nx s2.t,(r',s2.nx,⟨true,au sh (flat u y1),none⟩)::bw (dq r') s2.nx (dw s2.m r')⟩:St).toS a w' H' γ2 F4:=by
         intro s' a' w' H' γ' F' cells1 ts1 y1 e2 hout q2 q3;obtain ⟨k3,_⟩:=nN q2 (gX q3);have hl:(cells1.map Tt.toT).length=(cells.map Tt.toT).length:=by
          have l2:∀ (sh:List Sh) (a b:List C),a.length=b.length->(au sh a).length=(au sh b).length:=by
           intro sh;induction sh with
           | nil=>intro a b _; cases a <;> cases b <;> rfl
           | cons s r ih=>
            intro a b hab;have hcons:∀ (c:C) (cs:List C),(au (s::r) (c::cs)).length=(au r cs).length+1:=by
             intro c cs;cases s <;> cases c <;> rfl
            cases a with
            | nil=>cases b with
             | nil=>rfl
             | cons _ _=>cases hab
            | cons c cs=>cases b with
             | nil=>cases hab
             | cons d ds=>rw [hcons,hcons,ih cs ds (by simpa using hab)]
          have a1:=congrArg List.length k3
          have a2:=congrArg List.length k1
          have a3:=l2 sh (flat u y1) (flat u x) (by rw [gv,gv])
          simp only [Wc] at a1 a2 ⊢;omega
         obtain ⟨F4,hX'⟩:=Nf (j:=0) h2 hrootS (by rw [hty]; rfl) hγr e2 hout hl (fT q2).1;refine ⟨F4,?_⟩;have hcn:=nl hX' r'
         have hlist:((r',(⟨true,(cells1.map Tt.toT).map (T.ren (.out 0) r')⟩:Root))::aH (gn r') (bh s2.toS.m r')).map (fun x=>(x.1,if x.1=r' then fp x.2 else x.2))=(r',⟨true,(au sh (flat u y1)).map Tt.toT⟩)::aH (gn r') (bh s2.toS.m r'):=by
          simp only [List.map_cons,if_true]
          congr 1
          ·rw [sR k3.symm]; simp only [fp,k3]
          ·refine (Ws fun z hz=>?_).trans (List.map_id _);have hne:z.1≠r':=by
            intro e;have hz1:z.1∈(aH (gn r') (bh s2.toS.m r')).map (·.1):=WI (f:=(·.1)) hz
            have e2:(aH (gn r') (bh s2.toS.m r')).map (·.1)=(bh s2.toS.m r').map (·.1):=by simp only [aH,Wo]; rfl
            rw [e2,e] at hz1;exact im h2.mem.keys hz1
           rw [if_neg hne]; rfl
         have hfin:(⟨s2.nx+1,eR (dq r') s2.nx s2.t,(r',s2.nx,⟨true,au sh (flat u y1),none⟩)::bw (dq r') s2.nx (dw s2.m r')⟩:St).toS=⟨i7 (gn r') s2.toS.t,(r',⟨true,(au sh (flat u y1)).map Tt.toT⟩)::aH (gn r') (bh s2.toS.m r')⟩:=by
          refine bx.S_ext (iu _ _ _) ?_;simp only [St.toS,List.map_cons]
          congr 1
          have:=dV (dq r') s2.nx (dw s2.m r')
          rw [mb _ _ hn2] at this;exact this
         rw [hfin];dsimp only at hcn;rw [hlist] at hcn;exact hcn
        refine calls_of_wp hf hb' (Code.wp_mono (fun ex a' w' hl=>?_) (fS (e:=⟨e.P,e.E,e.cs,e.sh,Qt sh u (fun v x'=>pk v ⟨s2.nx+1,eR (dq r') s2.nx s2.t,(r',s2.nx,⟨true,au sh (flat u x'),none⟩)::bw (dq r') s2.nx (dw s2.m r')⟩)⟩) he hm (g:=⟨fn.ntmps,w,H2,F3 r',fun i=>if i=0 then some b else none,none,[]⟩) _ an _ _ hc h _ w ⟨H2,γc,_,hent2⟩));obtain ⟨s',hq,hR⟩:=hl;have fin:∀ t:St,s'=t.toS->om e.P fn.results.toList sh u rs (fun z=>k ⟨s2.nx+1,eR (dq r') s2.nx s2.t,(r',s2.nx,⟨true,au sh (flat u z.2),none⟩)::bw (dq r') s2.nx (dw s2.m r')⟩ (dF rs z.1)) t ->
          a'.defers=[]/\∃ v,(results fn a'.tmps).run e.P w'=.ok v w'/\iV g a pk k (.returned v) w':=by
         rintro t rfl ht
         unfold om at ht;dsimp only at ht;have hR1:=cq (.out 0) (eL u) sh 0 (lG fn.results.toList hR)
         generalize bd (ke t fn.results.toList) (.out 0) (eL u) sh 0=s3 at ht hR1;have hid:=lH (us:=rs) (k:=fun vs=>match bS rs vs,bK s3.m (.out 0) with
          | some x_1,some ⟨true,cells,none⟩=>match dL sh cells with
           | some ts=>match je u ts with
            | some y_1=>k ⟨s2.nx+1,eR (dq r') s2.nx s2.t,(r',s2.nx,⟨true,au sh (flat u y_1),none⟩)::bw (dq r') s2.nx (dw s2.m r')⟩ (dF rs x_1)
            | none=>False
           | none=>False
          | _,_=>False) (by
           intro vs hvs;split at hvs
           ·rename_i h1 _; exact ⟨_,h1⟩
           ·exact hvs.elim) ht
         have hg2:=gC (us:=rs) (K:=fun r=>∃ cells ts y1,bK s3.m (.out 0)=some ⟨true,cells,none⟩/\dL sh cells=some ts/\je u ts=some y1/\k ⟨s2.nx+1,eR (dq r') s2.nx s2.t,(r',s2.nx,⟨true,au sh (flat u y1),none⟩)::bw (dq r') s2.nx (dw s2.m r')⟩ (dF rs r)) (OX hR1) (by
           intro vs hvs;split at hvs
           ·rename_i x1 cells1 h1 h2;split at hvs
            ·rename_i ts h3;split at hvs
             ·rename_i y1 h4; exact ⟨x1,h1,cells1,ts,y1,h2,h3,h4,hvs⟩
             ·exact hvs.elim
            ·exact hvs.elim
           ·exact hvs.elim) ht
         obtain ⟨Hs,γs,Fs,hXs⟩:=hR1;obtain ⟨y0,v,H4,F4,e1,e2,e3,e4,r0,e5,cells1,ts1,y1,q1,q2,q3,q4⟩:=DB hXs rfl (A9 hid (K:=fun v=>∃ r,v=(dF rs r).toV/\∃ cells ts y1,bK s3.m (.out 0)=some ⟨true,cells,none⟩/\dL sh cells=some ts/\je u ts=some y1/\k ⟨s2.nx+1,eR (dq r') s2.nx s2.t,(r',s2.nx,⟨true,au sh (flat u y1),none⟩)::bw (dq r') s2.nx (dw s2.m r')⟩ (dF rs r)) (fun r hr=>⟨r,rfl,hr⟩) hg2);rw [hid] at e2 e3;obtain ⟨F5,hX5⟩:=back e2 (bq q1) q2 q3;refine ⟨e2.df.1,y0,e1,.inl ⟨y0,_,dF rs r0,H4,γ2,F5,rfl,q4,?_,hX5⟩⟩;rw [<- e5];exact dT ch (jo (fun _ _ _ h=>h) e4 e3)
        cases ex with
        | normal=>obtain ⟨t,e1,ht⟩:=hq; exact fin t e1 ht
        | ret=>obtain ⟨t,e1,ht⟩:=hq; exact fin t e1 ht
        | exit i=>obtain ⟨t,e1,ht⟩:=hq; exact ht.elim
        | panic c=>
         obtain ⟨v,t,rfl,rfl,hv⟩:=hq;unfold Qt at hv;dsimp only at hv;have hR1:=cq (.out 0) (eL u) sh 0 hR
         have hdf:a'.defers=[]:=by obtain ⟨_,_,_,hX'⟩:=hR; exact hX'.df.1
         generalize bd t (.out 0) (eL u) sh 0=s3 at hv hR1;split at hv
         ·rename_i cells1 q1;split at hv
          ·rename_i ts1 q2;split at hv
           ·rename_i y1 q3;obtain ⟨Hs,γs,Fs,hXs⟩:=hR1;obtain ⟨F5,hX5⟩:=back hXs (bq q1) q2 q3;exact ⟨hdf,.inr ⟨v,_,rfl,hv,Hs,γ2,F5,hX5⟩⟩
           ·exact hv.elim
          ·exact hv.elim
         ·exact hv.elim
        | _=>exact hq.elim
       ·exact hcc.elim
      ·exact hcc.elim
     ·exact hcc.elim
    ·exact hcc.elim
   ·exact hcc.elim
end Go.Am
end

section
namespace Go.Am
open Go Go.RowKit Go.Proofs
def seqs:List Code->Code->Code
 | [],c=>c
 | a::l,c=>.seq a (seqs l c)
def TJ (e:En):List (An×Code)->St->(St->Prop)->(St->Prop)->Prop
 | [],s,k,_=>k s
 | x::l,s,k,r=>wpT e x.1 x.2 s ⟨fun s'=>TJ e l s' k r,fun _ _=>False,r⟩
theorem NM {e:En} (he:e.ok) (hm:e.P.follows .mixedOrders=true) {g:G} {rest:Code} {Post:Exit->Act->World->Prop} {k r:St->Prop} (hpk:∀ v s,¬ e.pk v s)
  (hk:∀ (t:St) a w,k t->R g t.toS a w->rest.wp e.P Post a w) (hr:∀ (t:St) a w,r t->R g t.toS a w->Post .ret a w) :
  ∀ (l:List (An×Code)) (s:St),l.all (fun x=>jf g.nt x.2)=true->TJ e l s k r->∀ a w,R g s.toS a w->(seqs (l.map (·.2)) rest).wp e.P Post a w
 | [],s,_,h,a,w,hR=>hk s a w h hR
 | x::l,s,hc,h,a,w,hR=>by
  rw [Wl,V7] at hc;refine wp_seq (Code.wp_mono (fun y a' w' hl=>?_) (fS he hm x.2 x.1 s _ hc.1 h a w hR));obtain ⟨s',hq,hR'⟩:=hl;cases y with
  | normal=>obtain ⟨t,rfl,ht⟩:=hq; exact NM he hm hpk hk hr l t hc.2 ht a' w' hR'
  | ret=>obtain ⟨t,rfl,ht⟩:=hq; exact hr t a' w' ht hR'
  | exit i=>obtain ⟨t,rfl,ht⟩:=hq; exact ht.elim
  | panic c=>obtain ⟨v,t,rfl,rfl,hv⟩:=hq; exact (hpk _ _ hv).elim
  | _=>exact hq.elim
theorem Ns {P:Program} {Q:Exit->Act->World->Prop} {id dm fc:Nat} {caps:Array Operand} {o1 o2:Oper} {a:Act} {w:World} (h1:o1.op=.makeFunc (.func fc) #[] caps) (d1:o1.dst=some dm) (g1:o1.guard=none)
  (h2:o2.op=.defer ⟨.value (.tmp dm),#[],#[]⟩) (d2:o2.dst=none) (g2:o2.guard=none) (hdm:dm<a.tmps.size)
  (h:Q .normal { a.put (some dm) (.func (.func fc) #[] (caps.map a.eval)) with defers:=⟨.fn (.func fc) (caps.map a.eval),#[]⟩::a.defers } w):(Code.region id #[o1,o2] false).wp P Q a w:=by
 refine wp_region_lit (l:=[o1,o2]) ?_;refine wpList_plain g1 (fun K hK=>?_);have e1:(execOp a.eval o1).run P w=.ok (.value (.func (.func fc) #[] (caps.map a.eval))) w:=by
  unfold execOp;rw [h1];simp [Instr.makeFunc]
 unfold Oper.wp;rw [e1,Oper.upon_value,d1];refine hK _ _ ?_;refine wpList_plain g2 (fun K hK=>?_);have ev:(a.put (some dm) (.func (.func fc) #[] (caps.map a.eval))).eval (.tmp dm)=.func (.func fc) #[] (caps.map a.eval):=by
  show ((a.tmps.setIfInBounds dm _).getD dm undef)=_
  simp [hdm]
 have e2:(execOp (a.put (some dm) (.func (.func fc) #[] (caps.map a.eval))).eval o2).run P w=.ok (.defer ⟨.fn (.func fc) (caps.map a.eval),#[]⟩) w:=by
  unfold execOp;rw [h2];simp [resolve,ev,Deferred.ofValue]
 unfold Oper.wp;rw [e2,Oper.upon_defer,d2];exact hK _ _ h
def dpk (e:En) (fn cl:Func) (anC:An) (rs:List U) (KK:Fl rs->Prop) (i2 i3 i4 i6:Nat):PKt:=fun v t=>∃ n,v=Lt.flt n/\(Lit.int .i64 n).wf=true/\match gtA t.t 2,gtA t.t 3,gtA t.t 4 with
 | .one (.c (.pl ⟨.out j2,0,[]⟩)),.one (.c (.pl ⟨.out j3,0,[]⟩)),.one (.c (.pl ⟨.out j4,0,[]⟩))=>match Nat.beq j2 i2&&(Nat.beq j3 i3&&Nat.beq j4 i4) with
  | true=>TV e anC (cl.body.getD .skip) [i6,i2,i3,i4] n t (fun s'=>match [i2,i3,i4].all (Js s') with
   | true=>qA e.P fn.results.toList rs KK ⟨s'.nx,[(2,0,.one (.c (.pl ⟨.out i2,0,[]⟩))),(3,0,.one (.c (.pl ⟨.out i3,0,[]⟩))),(4,0,.one (.c (.pl ⟨.out i4,0,[]⟩)))],s'.m⟩
   | false=>False)
  | false=>False
 | _,_,_=>False
def NU (e:En) (fn cl:Func) (l:List (An×Code)) (an2 anC:An) (rest:Code) (ps rs:List U) (x:Fl ps) (KK:Fl rs->Prop):Prop:=
 TJ e l (IV ps x) (fun s=>match gtA s.t 2,gtA s.t 3,gtA s.t 4,gtA s.t 6 with
  | .one (.c (.pl ⟨.loc i2,0,[]⟩)),.one (.c (.pl ⟨.loc i3,0,[]⟩)),.one (.c (.pl ⟨.loc i4,0,[]⟩)),.one (.c (.pl ⟨.loc i6,0,[]⟩))=>
   wpT ⟨e.P,e.E,e.cs,e.sh,dpk e fn cl anC rs KK i2 i3 i4 i6⟩ an2 rest (s.put (some 22) .any).sw ⟨qA e.P fn.results.toList rs KK,fun _ _=>False,qA e.P fn.results.toList rs KK⟩
  | _,_,_,_=>False) (qA e.P fn.results.toList rs KK)
theorem Bh {g:G} {s:St} {a:Act} {w:World} {H:FH} {γ:Gam} {F:Nm->Fp} (hX:RX g s.toS a w H γ F) (hex:g.ex=none) {k i:Nat} (h:gtA s.t k=.one (.c (.pl ⟨.loc i,0,[]⟩))):∃ b,γ (.loc i)=.blk b/\a.eval (.tmp k)=.pointer (some ⟨b,0,none⟩):=by
 have e:=hX.t k
 rw [G.tv_none hex,show aA s.toS.t k=(gtA s.t k).toV from cK k s.t,h] at e;obtain ⟨_,_,ad,h1,h2⟩:=e;simp only [plA] at h1;split at h1
 ·rename_i b hb;simp only [V6] at h1;exact ⟨b,hb,by rw [show a.eval (.tmp k)=a.tmps.getD k undef from rfl,h2,h1]⟩
 ·cases h1
theorem GL {g:G} {s:St} {a:Act} {w:World} {H:FH} {γ:Gam} {F:Nm->Fp} (hX:RX g s.toS a w H γ F) (hex:g.ex=none) {k i b:Nat} (h:gtA s.t k=.one (.c (.pl ⟨.out i,0,[]⟩))) (hg:g.out i=some b):a.tmps.getD k undef=.pointer (some ⟨b,0,none⟩):=by
 have e:=hX.t k
 rw [G.tv_none hex,show aA s.toS.t k=(gtA s.t k).toV from cK k s.t,h] at e;obtain ⟨_,_,ad,h1,h2⟩:=e;simp only [plA,hX.df.2.1 _ _ hg,V6] at h1;rw [h2,h1]
theorem GU {E:Ut} {cs:CTt} {sh:List (TypeId×List Sh)} (he:(⟨Tryz.prog,E,cs,sh,fun _ _=>False⟩:En).ok) (hm:Tryz.prog.follows .mixedOrders=true) {f:Nat} {fn:Func} (hf:Tryz.prog.funcs[f]? = some fn) (hname:(fn.name == "runtime.NumGoroutine")=false) {l:List (An×Code)} {an2 anC:An} {id:Nat} {o1 o2:Oper} {rest:Code}
  (hb:fn.body=some (seqs (l.map (·.2)) (.seq (.region id #[o1,o2] false) rest))) (h1:o1.op=.makeFunc (.func 14) #[] #[.tmp 6,.tmp 2,.tmp 3,.tmp 4]) (d1:o1.dst=some 22) (g1:o1.guard=none) (h2:o2.op=.defer ⟨.value (.tmp 22),#[],#[]⟩) (d2:o2.dst=none) (g2:o2.guard=none)
  (h22:Nat.blt 22 fn.ntmps=true) {ps rs:List U} {pre:Fl ps->Prop} {Fn:Fl ps->Fl rs} (hlen:Nat.ble ps.length fn.ntmps=true) (hc:l.all (fun x=>jf fn.ntmps x.2)=true) (hc2:jf fn.ntmps rest=true)
  (law:∀ x,pre x->∀ KK:Fl rs->Prop,KK (Fn x)->NU ⟨Tryz.prog,E,cs,sh,fun _ _=>False⟩ fn Tryz.f14 l an2 anC rest ps rs x KK):Cont Tryz.prog f (fe ps rs pre Fn):=by
 refine ⟨jr hf hname (by rw [hb]; rfl),fun pk s ops k k' hk hcc=>?_,fun g pk s a w H γ F1 ops k hX hops hcc=>?_⟩
 ·unfold fe at hcc ⊢;dsimp only at hcc ⊢;split at hcc
  ·exact ⟨hcc.1,hk _ _ (cv _ _) hcc.2⟩
  ·exact hcc.elim
 ·unfold fe at hcc;dsimp only at hcc;obtain ⟨H1,F2,h1'⟩:=db (ops.map (evA s)) s H F1 hX;generalize b9 s (ops.map (evA s))=s1 at hcc h1';split at hcc
  rotate_left
  ·exact hcc.elim
  rename_i x hx;have hlx:ops.length=ps.length:=by
   obtain ⟨_,_,c3⟩:=eE hx;have:=congrArg List.length c3
   rw [dP] at this;simpa using this
  have h:=law x hcc.1 (fun y=>k s1 (dF rs y)) hcc.2
  have hX0:=CD h1' hops hx (nt:=fn.ntmps) (by rw [hlx]; exact Wh hlen)
  have e0:(IV ps x).toS=⟨aW 0 (iz ps x),[]⟩:=bx.S_ext (i9 0 ps x) rfl
  rw [<- e0] at hX0;have fin:∀ (out:Nat->Option Nat) (ds:List Deferred) (t:St) (a':Act) (w':World),qA Tryz.prog fn.results.toList rs (fun y=>k s1 (dF rs y)) t->R ⟨fn.ntmps,w,H1,fun _=>0,out,none,ds⟩ t.toS a' w' ->
    ∃ v,(results fn a'.tmps).run Tryz.prog w'=.ok v w'/\iV g a pk k (.returned v) w':=by
   intro out ds t a' w' ht hR;obtain ⟨s2,hk2,H2,γ2,F3,hX2⟩:=qd (K:=fun r=>∃ y,r=(dF rs y).toV/\k s1 (dF rs y)) (fun r hr=>⟨r,rfl,hr⟩) ht hR;obtain ⟨y,v,s3,H3,F4,e1,e2,e3,e4,y0,e5,e6⟩:=uA hX2 rfl hk2;refine ⟨y,e1,.inl ⟨y,s1,dF rs y0,H3,γ,F2,rfl,e6,?_,Bd h1' e2.fr e2.mem.agree⟩⟩;rw [<- e5];exact dT ch (jo (fun _ _ _ h=>h) e4 e3)
  refine calls_of_wp_defers hf hb (NM (e:=⟨Tryz.prog,E,cs,sh,fun _ _=>False⟩) (g:=⟨fn.ntmps,w,H1,fun _=>0,fun _=>none,none,[]⟩) he hm (fun _ _ h=>h) (fun t a1 w1 ht hR=>?_) (fun t a1 w1 ht hR=>?_) l _ hc h _ w ⟨H1,γ,F2,hX0⟩)
  rotate_left
  ·obtain ⟨v,e1,e2⟩:=fin _ _ t a1 w1 ht hR;obtain ⟨_,_,_,hX1⟩:=hR;show Leaves Tryz.prog fn a1.tmps _ a1.defers .returning w1
   rw [show a1.defers=[] from hX1.df.1];exact ⟨v,e1,e2⟩
  ·obtain ⟨H2,γ2,F3,hX1⟩:=hR;split at ht
   rotate_left
   ·exact ht.elim
   rename_i i2 i3 i4 i6 t2 t3 t4 t6;obtain ⟨b2,q2,v2⟩:=Bh hX1 rfl t2;obtain ⟨b3,q3,v3⟩:=Bh hX1 rfl t3;obtain ⟨b4,q4,v4⟩:=Bh hX1 rfl t4;obtain ⟨b6,q6,v6⟩:=Bh hX1 rfl t6;have hnt:a1.tmps.size=fn.ntmps:=hX1.nt
   refine wp_seq (Ns h1 d1 g1 h2 d2 g2 (by rw [hnt]; exact Wh h22) ?_);rw [show (#[.tmp 6,.tmp 2,.tmp 3,.tmp 4]:Array Operand).map a1.eval=#[.pointer (some ⟨b6,0,none⟩),.pointer (some ⟨b2,0,none⟩),.pointer (some ⟨b3,0,none⟩),.pointer (some ⟨b4,0,none⟩)] from by
    rw [<- v2,<- v3,<- v4,<- v6]; simp]
   have hP:=hX1.put (d:=some 22) (by show decide (22<fn.ntmps)=true; exact decide_eq_true (Wh h22)) (v:=(At.any).toV) (y:=.func (.func 14) #[] #[.pointer (some ⟨b6,0,none⟩),.pointer (some ⟨b2,0,none⟩),.pointer (some ⟨b3,0,none⟩),.pointer (some ⟨b4,0,none⟩)]) trivial
   have hP2:=dO (bY _ _ _) hP
   have hS:=Vl hP2 (a':={ a1.put (some 22) (.func (.func 14) #[] #[.pointer (some ⟨b6,0,none⟩),.pointer (some ⟨b2,0,none⟩),.pointer (some ⟨b3,0,none⟩),.pointer (some ⟨b4,0,none⟩)]) with defers:=⟨.fn (.func 14) #[.pointer (some ⟨b6,0,none⟩),.pointer (some ⟨b2,0,none⟩),.pointer (some ⟨b3,0,none⟩),.pointer (some ⟨b4,0,none⟩)],#[]⟩::a1.defers }) (ds:=[⟨.fn (.func 14) #[.pointer (some ⟨b6,0,none⟩),.pointer (some ⟨b2,0,none⟩),.pointer (some ⟨b3,0,none⟩),.pointer (some ⟨b4,0,none⟩)],#[]⟩]) rfl (by rw [show a1.defers=[] from hX1.df.1])
   have o2':mo γ2 i2=some b2:=by simp only [mo,q2]
   have o3':mo γ2 i3=some b3:=by simp only [mo,q3]
   have o4':mo γ2 i4=some b4:=by simp only [mo,q4]
   have o6':mo γ2 i6=some b6:=by simp only [mo,q6]
   refine Code.wp_mono (fun y a' w' hl=>?_) (fS (e:=⟨Tryz.prog,E,cs,sh,dpk ⟨Tryz.prog,E,cs,sh,fun _ _=>False⟩ fn Tryz.f14 anC rs (fun y=>k s1 (dF rs y)) i2 i3 i4 i6⟩) he hm rest an2 _ _ hc2 ht _ _ ⟨_,_,_,hS⟩);obtain ⟨s',hq,hR'⟩:=hl;have hdf:a'.defers=[⟨.fn (.func 14) #[.pointer (some ⟨b6,0,none⟩),.pointer (some ⟨b2,0,none⟩),.pointer (some ⟨b3,0,none⟩),.pointer (some ⟨b4,0,none⟩)],#[]⟩]:=by obtain ⟨_,_,_,hX'⟩:=hR'; exact hX'.df.1
   have hinv:(invoke (.fn (.func 14) #[.pointer (some ⟨b6,0,none⟩),.pointer (some ⟨b2,0,none⟩),.pointer (some ⟨b3,0,none⟩),.pointer (some ⟨b4,0,none⟩)]) #[]).run Tryz.prog w'=.ok (.enter 14 #[.pointer (some ⟨b6,0,none⟩),.pointer (some ⟨b2,0,none⟩),.pointer (some ⟨b3,0,none⟩),.pointer (some ⟨b4,0,none⟩)]) w':=by
    have:=jr (P:=Tryz.prog) (fn:=Tryz.f14) (f:=14) (by kernel_rfl) (by kernel_rfl) (by kernel_rfl) #[.pointer (some ⟨b6,0,none⟩),.pointer (some ⟨b2,0,none⟩),.pointer (some ⟨b3,0,none⟩),.pointer (some ⟨b4,0,none⟩)] w'
    simp [invoke,this]
   have fin2:∀ t:St,s'=t.toS->qA Tryz.prog fn.results.toList rs (fun y=>k s1 (dF rs y)) t->Leaves Tryz.prog fn a'.tmps (iV g a pk k) a'.defers .returning w':=by
    rintro t rfl ht
    rw [hdf];refine ⟨by simp,_,_,14,_,rfl,hinv,(RY _ _ _ _ w').mono ?_⟩;rintro e u' w'' ⟨⟨v,rfl⟩,rfl,rfl⟩
    obtain ⟨v,e1,e2⟩:=fin _ _ t a' w'' ht hR';exact ⟨v,e1,e2⟩
   cases y with
   | normal=>obtain ⟨t,e1,ht⟩:=hq; exact fin2 t e1 ht
   | ret=>obtain ⟨t,e1,ht⟩:=hq; exact fin2 t e1 ht
   | exit i=>obtain ⟨t,e1,ht⟩:=hq; exact ht.elim
   | panic c=>
    obtain ⟨v,t,rfl,rfl,n,rfl,hn,hv⟩:=hq;obtain ⟨H3,γ3,F4,hX3⟩:=hR';split at hv
    rotate_left
    ·exact hv.elim
    rename_i j2 j3 j4 u2 u3 u4;split at hv
    rotate_left
    ·exact hv.elim
    rename_i hj;simp only [V7,Nat.beq_eq] at hj;obtain ⟨rfl,rfl,rfl⟩:=hj;have p2:=GL hX3 rfl u2 o2'
    have p3:=GL hX3 rfl u3 o3'
    have p4:=GL hX3 rfl u4 o4'
    show Leaves Tryz.prog fn a'.tmps (iV g a pk k) a'.defers (.panicking (chn (Lt.flt n))) w'
    rw [hdf];refine ⟨by simp,_,_,14,_,rfl,hinv,(SH he hm hX3 o6' o2' o3' o4' hn hv).mono ?_⟩;rintro e u' w'' ⟨⟨v,rfl⟩,hu,s3,hK,H5,γ5,F5,hX5⟩
    split at hK
    rotate_left
    ·exact hK.elim
    rename_i hok;simp only [Wl,Xh,Xe,V7] at hok;obtain ⟨k2,k3,k4⟩:=hok;dsimp only;rw [hu];refine fin _ _ _ a' w'' hK ⟨H5,γ5,F5,hX5.mem,hX5.fr,hX5.nt,hX5.df,fun i=>?_⟩;rw [G.tv_none rfl];have hX6:RX _ (⟨s3.nx,[],s3.m⟩:St).toS a' w'' H5 γ5 F5:=hX5
    have y2:=i5 hX6 k2 o2'
    have y3:=i5 hX6 k3 o3'
    have y4:=i5 hX6 k4 o4'
    match i with
    | 0=>exact trivial
    | 1=>exact trivial
    | 2=>rw [p2]; exact y2
    | 3=>rw [p3]; exact y3
    | 4=>rw [p4]; exact y4
    | i+5=>exact trivial
   | _=>exact hq.elim
end Go.Am
end

section
namespace Go.Am
open Go Go.RowKit Go.Proofs
theorem wT (w:World):Below w.heap.size w w:=Below.refl _ w
theorem EG (c:UInt8):∀ l:List UInt8,-1<=Lib.indexByte l c/\Lib.indexByte l c<=(l.length:Int)
 | []=>by simp [Lib.indexByte]
 | b::l=>by
  have:=EG c l
  unfold Lib.indexByte;simp only [Wp];split
  ·omega
  ·split <;> omega
theorem vd {w:World} {H:FH} {γ:Gam} {m:Mm} {l:List UInt8} (h:l.length<=BIG):AR1 w H γ m (.c (.d (.str l))) (.string ⟨l.toArray⟩):=⟨fun _=>rfl,0,rfl,h⟩
theorem UL {w:World} {H:FH} {γ:Gam} {k:IntKind} {n:Int} {y:Value} (h:AR w H γ [] (.one (.c (.d (.int k n)))) y):y=.int k n:=by
 obtain ⟨_,m,h⟩:=h;cases m <;> exact h.1
def F8:CKt:=aE [.s,.b8] [.i .i64] (fun x=>Lt.fC x.1 x.2)
theorem Qp:Cont Tryz.prog 147 F8:=uD (lz (jr (fn:=Tryz.f147) (by kernel_rfl) (by kernel_rfl) (by kernel_rfl)) (fun x args w H γ _ hl ha hg hag=>by
 obtain ⟨s,c⟩:=x;obtain ⟨u,v,rfl,h1,h2⟩:=JT (x:=.one (.c (.d (.str s)))) (y:=.one (.c (.d (.int .u8 (UInt8.toNat c:Int))))) hl ha;obtain ⟨rfl,hs⟩:=jj h1;have hs:List.length (α:=UInt8) s<=BIG:=hs
 obtain rfl:=UL h2;refine (Tryz.strings_IndexByte ⟨s.toArray⟩ (c.toNat:Int) w).mono ?_;rintro e w' ⟨rfl,hw⟩
 rw [hw];refine ⟨_,H,rfl,wT w,fun _ _ _ h=>h,fun b o h1 h2=>absurd h2 h1,fun b o x l c h1 h2=>by (rw [h2] at h1; cases h1),hag,?_⟩;have e1:((c.toNat:Int).toNat).toUInt8=c:=by simp
 have hi:=EG c s
 rw [nk,e1];unfold BIG at hs;show AR w H γ [] (.one (.c (.d (.int .i64 (Lib.indexByte s c))))) (.int .i64 (Lib.indexByte s c))
 refine ⟨fun _=>rfl,0,rfl,?_⟩;simp only [Lit.wf,V7,decide_eq_true_eq,show IntKind.i64.min=-9223372036854775808 from rfl,show IntKind.i64.max=9223372036854775807 from rfl];omega))
def JV:CKt:=aE [.s,.s] [.s,.bo] (fun x=>Lt.j0 x.1 x.2)
theorem Q2:Cont Tryz.prog 146 JV:=uD (lz (jr (fn:=Tryz.f146) (by kernel_rfl) (by kernel_rfl) (by kernel_rfl)) (fun x args w H γ _ hl ha hg hag=>by
 obtain ⟨s,p⟩:=x;obtain ⟨u,v,rfl,h1,h2⟩:=JT (x:=.one (.c (.d (.str s)))) (y:=.one (.c (.d (.str p)))) hl ha;obtain ⟨rfl,hs⟩:=jj h1;have hs:List.length (α:=UInt8) s<=BIG:=hs
 obtain ⟨rfl,hp⟩:=jj h2;refine (Tryz.strings_CutPrefix ⟨s.toArray⟩ ⟨p.toArray⟩ w).mono ?_;rintro e w' ⟨rfl,hw⟩
 rw [hw];refine ⟨_,H,rfl,wT w,fun _ _ _ h=>h,fun b o h1 h2=>absurd h2 h1,fun b o x l c h1 h2=>by (rw [h2] at h1; cases h1),hag,_,rfl,?_⟩;rw [nk,nk];have hl:(Lib.trimPrefix s p).length<=BIG:=by
  unfold Lib.trimPrefix;split
  ·rw [Wi]; omega
  ·exact hs
 show ARs w H γ [] [.c (.d (.str (Lib.trimPrefix s p))),.c (.d (.bool (Lib.hasPrefix s p)))] [_,_]
 exact ⟨(vd hl:AR1 w H γ [] _ _),⟨fun _=>rfl,0,rfl⟩,trivial⟩))
def Nx:CKt:=fe [.s,.s] [.s,.s,.bo] (fun x=>Lt.QC x.1 x.2) (fun x=>Lt.Pu x.1 x.2)
theorem Uk:Cont Tryz.prog 32 Nx:=lz (jr (fn:=Tryz.f32) (by kernel_rfl) (by kernel_rfl) (by kernel_rfl)) (fun x args w H γ hpre hl ha hg hag=>by
 obtain ⟨s,p⟩:=x;obtain ⟨u,v,rfl,h1,h2⟩:=JT (x:=.one (.c (.d (.str s)))) (y:=.one (.c (.d (.str p)))) hl ha;obtain ⟨rfl,hs⟩:=jj h1;have hs:List.length (α:=UInt8) s<=BIG:=hs
 obtain ⟨rfl,hp⟩:=jj h2;have hpre:s.length < 4294967281:=hpre
 obtain ⟨m,hm⟩:=zW hg hag (k:=1) (by rfl);refine (Tryz.strings_Cut ⟨s.toArray⟩ ⟨p.toArray⟩ m w (by rw [qI]; exact hpre) hm).mono ?_;rintro e w' ⟨rfl,n,rfl⟩
 refine ⟨_,H,rfl,Dm _ _ _,fun _ _ _ h=>h,fun b o h1 h2=>absurd h2 h1,fun b o x l c h1 h2=>by (rw [h2] at h1; cases h1),hag,_,rfl,?_⟩;rw [nk,nk];have hl:(Lib.cut s p).1.length<=BIG/\(Lib.cut s p).2.1.length<=BIG:=by
  unfold Lib.cut;split
  ·refine ⟨?_,?_⟩
   ·show (s.take _).length<=_; rw [Xc]; omega
   ·show (s.drop _).length<=_; rw [Wi]; omega
  ·exact ⟨hs,by unfold BIG; simp⟩
 show ARs _ H γ [] [.c (.d (.str (Lib.cut s p).1)),.c (.d (.str (Lib.cut s p).2.1)),.c (.d (.bool (Lib.cut s p).2.2))] [_,_,_]
 exact ⟨(vd hl.1:AR1 (w.drewN n) H γ [] _ _),(vd hl.2:AR1 (w.drewN n) H γ [] _ _),⟨fun _=>rfl,0,rfl⟩,trivial⟩)
theorem tJ (p:ByteArray):∀ (k:Nat) (s:ByteArray),∀ x∈Lib.splitB p 0 k s,x.size<=s.size
 | 0,s,x,hx=>by rw [Lib.splitB_zero,WJ] at hx; rw [hx]; exact Wb _
 | k+1,s,x,hx=>by
  unfold Lib.splitB at hx;split at hx
  ·rw [WJ] at hx; rw [hx]; exact Wb _
  ·rcases Wk.1 hx with rfl | hx
   ·simp only [ByteArray.size_extract]; omega
   ·have:=tJ p k _ x hx
    simp only [ByteArray.size_extract] at this;omega
def CP:CKt:=fe [.s,.s] [.sl .s] (fun x=>Lt.Fg x.1 x.2) (fun x=>Lt.dR x.1 x.2)
theorem QR:Cont Tryz.prog 31 CP:=lz (jr (fn:=Tryz.f31) (by kernel_rfl) (by kernel_rfl) (by kernel_rfl)) (fun x args w H γ hpre hl ha hg hag=>by
 obtain ⟨s,p⟩:=x;obtain ⟨u,v,rfl,h1,h2⟩:=JT (x:=.one (.c (.d (.str s)))) (y:=.one (.c (.d (.str p)))) hl ha;obtain ⟨rfl,hs⟩:=jj h1;have hs:List.length (α:=UInt8) s<=BIG:=hs
 obtain ⟨rfl,hp⟩:=jj h2;obtain ⟨hpre,hp1⟩:s.length < 4294967281/\1<=p.length:=hpre;obtain ⟨m,hm⟩:=zW hg hag (k:=1) (by rfl);have hsz:=qI s
 refine (Tryz.strings_Split ⟨s.toArray⟩ ⟨p.toArray⟩ m w (by rw [hsz]; exact hpre) hm (by rw [qI]; exact hp1)).mono ?_;rintro e w' ⟨rfl,rfl⟩
 have hlen:=Lib.splitB_all ⟨p.toArray⟩ (by rw [qI]; exact hp1) 0 _ ⟨s.toArray⟩ rfl
 have hle:=Lib.countB_le ⟨p.toArray⟩ (by rw [qI]; exact hp1) _ ⟨s.toArray⟩ (Wb _)
 have hsm:=tJ ⟨p.toArray⟩ (Lib.countB ⟨s.toArray⟩ ⟨p.toArray⟩) ⟨s.toArray⟩
 have hG:Lt.dR s p=(Lib.splitB ⟨p.toArray⟩ 0 (Lib.countB ⟨s.toArray⟩ ⟨p.toArray⟩) ⟨s.toArray⟩).map (·.data.toList):=rfl
 generalize Lib.splitB ⟨p.toArray⟩ 0 (Lib.countB ⟨s.toArray⟩ ⟨p.toArray⟩) ⟨s.toArray⟩=L at hlen hsm hG ⊢;rw [<- hlen];rw [hsz] at hle hsm;refine ⟨_,fun b o=>if b=w.heap.size then (L.map Value.string).toArray[o]? else H b o,rfl,(Below.refl _ w).alloc (Wb _) _,fun b o y h=>?_,fun b o h1 h2=>?_,fun b o x l c h1 h2=>?_,fun b o y h=>?_,fun _=>rfl,1,?_⟩
 ·have:=World.block_lt_of_cell? _ _ (hag b o y h)
  have this:b<w.heap.size:=this
  dsimp only;rw [if_neg (by omega)]; exact h
 ·dsimp only at h1;split at h1
  ·omega
  ·exact absurd h2 h1
 ·dsimp only at h1;split at h1
  ·have h1:=Array.mem_of_getElem? h1
   simp at h1
  ·rw [h2] at h1; cases h1
 ·dsimp only at h;split at h
  ·rename_i hb;subst hb;rw [World.cell?_alloc_new]; exact h
  ·rename_i hb;rw [World.cell?_alloc_old _ _ _ hb]; exact hag b o y h
 ·show FD _ 1 (.li ((Lt.dR s p).map (ao .s))) _
  rw [hG,ma];unfold BIG at hs ⊢;refine ⟨_,_,by rw [Wc,Wc],by simp,by simp; omega,.inr ⟨w.heap.size,0,1,rfl,fun i hi=>?_⟩⟩;have hi:i<L.length:=by simpa using hi
  have e:((L.map (·.data.toList)).map (ao .s)).getD i []=[.str L[i].data.toList]:=by
   rw [List.getD,Wa,Wa,V8 hi]; rfl
  rw [e];refine ⟨rfl,fun j hj=>?_⟩;have hj:j=0:=by omega
  subst hj;refine ⟨.string L[i],?_,?_⟩
  ·dsimp only;rw [if_pos rfl];simp [hi]
  ·refine ⟨by simp,?_⟩;have:=hsm L[i] (WX hi)
   show L[i].data.toList.length<=BIG
   unfold BIG;rw [<- Lib.size_eq]; omega)
end Go.Am
end
