/-
  Part 18: AmClo · AmDef.
-/
import Derived.Test.YtgpedlcblhiklaaGreatDoorVo17
import Derived.Recover
set_option linter.unusedSimpArgs false
set_option linter.unusedVariables false
set_option linter.unusedSectionVars false
set_option linter.unnecessarySimpa false
open Go.Proofs.Tryz
section
namespace Go.Am
open Go Go.RowKit Go.Proofs
def K3(cs:List Frame):Value×List Frame:=match recoverD cs with
 |some (v,a)=>(v,a)
 |none=>(.nilIface,cs)
variable{a:Act}{id:Nat}{w:World}
theorem QQ{P:Program}{Q:Exit->Act->List Frame->World->Prop}{o0 o1:Oper}{d:Nat}{cs:List Frame}(h0:o0.op=.call ⟨.builtin .recover,#[],#[]⟩)(h1:o1.op=.assign (.tmp d))(e:o0.guard=none)(g1:o1.guard=none)
  (h:Q .normal ((a.put o0.dst (K3 cs).1).put o1.dst ((a.put o0.dst (K3 cs).1).eval (.tmp d))) (K3 cs).2 w):(Code.region id #[o0,o1] false).wpS P Q a cs w:=by
 refine wpS_region ?_;show wpOpsS _ _ _ [0,1] _ _ _
 have e0:∀a:Act,(execOp a.eval o0).run P w=.ok .recover w:=fun a=>by
  unfold execOp;rw[h0];rfl
 have c:∀a:Act,(execOp a.eval o1).run P w=.ok (.value (a.eval (.tmp d))) w:=fun a=>by
  simp_all[execOp]
 have i:(#[o0,o1]:Array Oper)[0]? = some o0:=rfl
 have g:(#[o0,o1]:Array Oper)[1]? = some o1:=rfl
 have w0:∀f,Region.wanted o0 f=true:=fun f=>by simp[Region.wanted,e]
 have w1:∀f,Region.wanted o1 f=true:=fun f=>by simp[Region.wanted,g1]
 have fin:∀v b,Q .normal ((a.put o0.dst v).put o1.dst ((a.put o0.dst v).eval (.tmp d))) b w->wpOpsS P #[o0,o1] Q [1] (a.put o0.dst v) b w:=by
  intro v b hq;unfold wpOpsS;rw[g];dsimp only;rw[if_pos (w1 _),c];exact hq
 grind [wpOpsS,K3]
theorem TI{P:Program}{t u:TypeId}{ms}{x:Value}(h:P.underlying t=some (.interface ms))(w:World):(binOp .neq t (.iface u x) .nilIface).run P w=.ok (.bool true) w:=by
 show(do pure (.bool (!(<- Op.equal t (.iface u x) .nilIface))):Sem Value).run P w=_
 unfold Op.equal Op.maxDepth;rw[show(10000:Nat)=9999+1 from rfl];unfold Op.equalIn;simp only[Sem.run_bind,run_underlying h,Result.andThen];rfl
variable{c:Code}
theorem agZ{P:Program}{Q:Exit->Act->World->Prop}(b:Act)(h:a=b)(hb:c.wp P Q b w):c.wp P Q a w:=h ▸ hb
theorem ac1{P:Program}{b:Code}{Q Q':Exit->Act->World->Prop}{a':Act}(hc:b=c)(d:a'=a)(h:b.wp P Q' a' w)(hq:∀e a w,Q' e a w->Q e a w):c.wp P Q a w:=by grind [Code.wp_mono]
theorem aaE(c f b d:Value)(w:World):CallsD prog 43 #[c,f,b,d] .returning w fun e u' w'=>(∃v,e=.returned v)/\u'=.returning/\w'=w:=by
 refine callsD_of_wpS func43 rfl (fun a cs hc=>?_);refine wpS_seq (QQ rfl rfl rfl rfl ?_);have hr:K3 (a::cs)=(.nilIface,a::cs):=by simp[K3,recoverD,hc]
 rw[hr];refine wpS_of_wp ?_;refine agZ { tmps:=#[c,f,b,d,.nilIface,undef,undef,.nilIface,undef,undef,undef,undef,undef,undef,undef,undef,undef,undef,undef,undef,undef,undef,undef,undef,undef],defers:=[] } kQ0 ?_
 go_wp2
 exact⟨rfl,a.mode,rfl,.tuple #[],(by simp_all[kV]),⟨_,rfl⟩,hc,rfl⟩
variable{F:Nm->Fp}{H:FH}{i:Nat}{ops rest:List Oper}{s:St}{sh:List (TypeId×List Sh)}{γ:Gam}
section
variable {P:Program} {g:G} {Q:Exit->S->Prop}
theorem ag2{m:Mm}{x y:Value}(h:AR w H γ m (.one (.c (.d (.v x)))) y):y=x:=by
 obtain⟨_,m,h⟩:=h;cases m<;>exact h.1
theorem ON{b a:List Oper}{s:S}(h1:b=ops)(h2:a=rest)(h:AL P g b a Q s):AL P g ops rest Q s:=by grind
theorem Zb{a:Code}{s:S}(h1:a=c)(h:AW P g a Q s):AW P g c Q s:=by grind
theorem Eo{o:Oper}(v:At)(d:o.guard=none)(hd:okD g.nt o.dst=true)
  (h:∀a w H γ F,RX g s.toS a w H γ F->∃y,(execOp a.eval o).run P w=.ok (.value y) w/\AR w H γ s.toS.m v.toV y) (hk:AL P g ops rest Q (s.put o.dst v).toS):AL P g ops (o::rest) Q s.toS:=by
 refine OO d (OP (fun a w e=>?_));obtain⟨H,γ,F,hX⟩:=e;obtain⟨y,c,b⟩:=h a w H γ F hX;unfold Oper.wp;rw[c];exact⟨_,hk,H,γ,F,br (aJ s o.dst v) (hX.put hd b)⟩
def Qm(t:St)(i:Nat):Bool:=match cw t.m (.out i)with
 |some r=>!r.cells.isEmpty
 |none=>false
def kL:Code->Code|.seq a _=>a|c=>c
def kR:Code->Code|.seq _ b=>b|c=>c
def kT:Code->Code|.cond _ a _=>a|c=>c
def kO:Code->List Oper|.region _ ops _=>ops.toList|_=>[]
abbrev ahQ(a:List Nat)(t:St):St:=⟨t.nx+1,EL t.nx 0 (a.map fun i=>.one (.c (.pl ⟨.out i,0,[]⟩))),t.m⟩
abbrev ahR(a:List Nat)(n:Int)(t:St):St:=((ahQ a t).put (some 7) (sct (.v (Lt.flt n)))).put (some 4) (sct (.v (Lt.flt n)))
abbrev aiJ(a:List Nat)(n:Int)(t:St):St:=((ahR a n t).put (some 8) (sct (.v (Lt.flt n)))).put (some 9) (sct (.bo true))
abbrev aiK(a:List Nat)(n:Int)(t:St):St:=((aiJ a n t).put (some 11) (sct (.v (Lt.flt n)))).put (some 12) (.tup [.agg [.d (.i .i64 n)],.c (.d (.bo true))])
def afH(e:En)(an:An)(c:Code)(a:List Nat)(n:Int)(t:St)(K:St->Prop):Prop:=
 match a.all (Qm t)with
 |true=>oo e (kO (kL (kT (kR (kR c))))) ((kO (kL (kT (kR (kR c))))).drop 2) (aiK a n t) (fun s=>oo e (kO (kL (kL (kR (kT (kR (kR c))))))) (kO (kL (kL (kR (kT (kR (kR c))))))) s (fun s=>match gtA s.t 16 with
  |.one (.c (.d (.bo false)))=>wpT e an (kR (kR (kT (kR (kR c))))) s ⟨K,fun _ _=>False,K⟩
  |_=>False))
 |false=>False
theorem kG{t:St}{b:Nat}(hX:RX g t.toS a w H γ F)(h:Qm t i=true)(d:g.out i=some b):AR w H γ t.toS.m (.one (.c (.pl ⟨.out i,0,[]⟩))) (.pointer (some ⟨b,0,none⟩)):=by
 refine⟨fun _=>rfl,?_,⟨b,0,none⟩,?_,rfl⟩
 ·unfold Qm at h;split at h
  ·rename_i r hr;rw[aA];refine⟨_,bz hr,?_⟩;show 0<r.toR.cells.length
   have hl:r.toR.cells.length=r.cells.length:=by
    unfold Rt.toR holed
    grind
   grind
  grind
 ·simp only[plA,hX.df.2.1 _ _ d]
theorem aaU(c b d a:Value)(r:Array Value)(i:Nat)(hi:i < 4):(#[c,b,d,a]++r).getD i undef=#[c,b,d,a].getD i undef:=by
 simp_all[akJ]
set_option maxRecDepth 100000 in
theorem aaD{E:Ut}{cs:CTt}(he:(⟨prog,E,cs,sh,fun _ _=>False⟩:En).ok)(L:prog.follows .mixedOrders=true){t:St}{a0:Act}(hX:RX g t.toS a0 w H γ F)
  {q z r o b0 b1 b2 A:Nat} (h0:g.out q=some b0) (h1:g.out z=some b1) (h2:g.out r=some b2) (h3:g.out o=some A) {n:Int} (hn:(Lit.int .i64 n).wf=true) {an:An} {K:St->Prop} (h:afH ⟨prog,E,cs,sh,fun _ _=>False⟩ an (f43.body.getD .skip) [q,z,r,o] n t K) :
  CallsD prog 43 #[.pointer (some ⟨b0,0,none⟩),.pointer (some ⟨b1,0,none⟩),.pointer (some ⟨b2,0,none⟩),.pointer (some ⟨A,0,none⟩)] (.panicking (chn (Lt.flt n))) w
   fun e u' w'=>(∃v,e=.returned v)/\settle u'=.returning/\∃s':St,K s'/\∃H' γ' F',RX g ⟨[],s'.toS.m⟩ a0 w' H' γ' F':=by
 refine callsD_of_wpS func43 rfl (fun y f hc=>?_);refine wpS_seq (QQ rfl rfl rfl rfl ?_);have hr:K3 (y::f)=(Lt.flt n,{ y with mode:=.panicking [{ v:=Lt.flt n,recovered:=true }] }::f):=by simp[K3,recoverD,hc]
 rw[hr];refine wpS_of_wp ?_;unfold afH at h;split at h
 rotate_left
 ·grind
 rename_i k;simp only[ajE,alC,akK,aiW]at k;obtain⟨k0,k1,k2,k3⟩:=k
 let g3:G:=⟨25,g.w0,g.H0,g.own0,g.out,none,[]⟩
 have u0:=kG hX k0 h0
 have u1:=kG hX k1 h1
 have M:=kG hX k2 h2
 have N:=kG hX k3 h3
 have I:RX g3 (ahQ [q,z,r,o] t).toS { tmps:=#[.pointer (some ⟨b0,0,none⟩),.pointer (some ⟨b1,0,none⟩),.pointer (some ⟨b2,0,none⟩),.pointer (some ⟨A,0,none⟩)]++Array.replicate (f43.ntmps - 4) undef,defers:=[] } w H γ F:=by
  refine⟨hX.mem,hX.fr,by kernel_rfl,⟨rfl,hX.df.2⟩,fun i=>?_⟩;rw[G.tv_none rfl]
  match i with
  |0=>rw[aaU _ _ _ _ _ 0 (by decide)];exact u0
  |1=>rw[aaU _ _ _ _ _ 1 (by decide)];exact u1
  |2=>rw[aaU _ _ _ _ _ 2 (by decide)];exact M
  |3=>rw[aaU _ _ _ _ _ 3 (by decide)];exact N
  |i+4=>exact trivial
 have C:∀(w:World)(H:FH)(γ:Gam)(m:Mm),AR w H γ m (sct (.v (Lt.flt n))).toV (Lt.flt n):=fun w H γ m=>⟨fun _=>rfl,0,rfl,rfl⟩
 have J:=br (aJ _ _ _) ((br (aJ _ _ _) (I.put (d:=some 7) rfl (C _ _ _ _))).put (d:=some 4) rfl (C _ _ _ _))
 have run:AW prog g3 (kR (f43.body.getD .skip)) (LQ (fun _ _=>False) ⟨K,fun _ _=>False,K⟩) (ahR [q,z,r,o] n t).toS:=by
  refine vp (qh (Eo (sct (.v (Lt.flt n))) rfl rfl (fun a w H γ F hX=>?_) (Eo (sct (.bo true)) rfl rfl (fun a w H γ F hX=>?_) (UA (Er (b:=true) ?_ (fun _=>vp (qh (Eo (sct (.v (Lt.flt n))) rfl rfl (fun a w H γ F hX=>?_)
   (Eo (.tup [.agg [.d (.i .i64 n)],.c (.d (.bo true))]) rfl rfl (fun a w H γ F hX=>?_) ?_)))) (fun h=>by cases h))))))
  ·have e:=hX.t 4
   rw[G.tv_none rfl]at e;exact⟨_,rfl,e⟩
  ·have e:=hX.t 8
   rw[G.tv_none rfl]at e;have B:a.eval (.tmp 8)=Lt.flt n:=ag2 e
   refine⟨.bool true,?_,⟨fun _=>rfl,0,rfl⟩⟩;simp only[execOp,B,show a.eval (.const .nilIface)=.nilIface from rfl,Sem.run_bind,Lt.flt,TI underlying20];rfl
  ·rfl
  ·have e:=hX.t 4
   rw[G.tv_none rfl]at e;exact⟨_,rfl,e⟩
  ·have e:=hX.t 11
   rw[G.tv_none rfl]at e;have B:a.eval (.tmp 11)=Lt.flt n:=ag2 e
   refine⟨.tuple #[.agg #[.int .i64 n],.bool true],?_,?_⟩
   ·simp_all[execOp,Instr.typeAssert,Lt.flt]
   ·exact⟨_,rfl,⟨_,rfl,rfl,⟨_,[],fun _=>0,fun _=>0,rfl,fun _=>rfl,⟨fun _=>rfl,0,rfl,hn⟩,fun _=>rfl⟩⟩,⟨fun _=>rfl,0,rfl⟩,trivial⟩
  ·refine ON (by rfl) (by rfl) (nk (e:=⟨prog,E,cs,sh,fun _ _=>False⟩) he (fun x s h=>h.elim fun _ h=>h.elim fun _ h=>h.2.2.elim) (by rfl) h (fun t j=>?_));refine vp (vp (qh (ON (by rfl) (by rfl) (nk (e:=⟨prog,E,cs,sh,fun _ _=>False⟩) he (fun x s h=>h.elim fun _ h=>h.elim fun _ h=>h.2.2.elim) (by rfl) j (fun t j=>?_)))));split at j
   ·rename_i l;exact Er (b:=false) (jH l) (fun h=>by cases h) (fun _=>OV (Zb (by rfl) (rZ he L _ an t _ kQ0 j)))
   grind
 refine ac1 (by rfl) kQ0 (run _ _ ⟨H,γ,F,J⟩) (fun x a' w' hl=>?_);obtain⟨s',hq,H',γ',F',hX'⟩:=hl;have fin:∀t':St,s'=t'.toS->K t'->a'.defers=[]/\∃u',({ y with mode:=.panicking [{ v:=Lt.flt n,recovered:=true }] }::f:List Frame)={ y with mode:=u' }::f/\∃v,(results f43 a'.tmps).run prog w'=.ok v w' /\
   ((∃D,Ending.returned v=.returned D)/\settle u'=.returning/\∃s':St,K s'/\∃H' γ' F',RX g ⟨[],s'.toS.m⟩ a0 w' H' γ' F'):=by
  rintro t' rfl hk
  exact⟨hX'.df.1,_,rfl,.tuple #[],(by simp_all[kV]),⟨_,rfl⟩,rfl,t',hk,H',γ',F',hX'.mem,hX'.fr,hX.nt,⟨hX.df.1,hX'.df.2⟩,fun _=>trivial⟩
 cases x with
 |normal=>obtain⟨t',p,j⟩:=hq;exact fin t' p j
 |ret=>obtain⟨t',p,j⟩:=hq;exact fin t' p j
 |exit i=>obtain⟨t',p,j⟩:=hq;grind
 |panic c=>obtain⟨_,_,_,_,hv⟩:=hq;grind
 |_=>exact hq.elim
end
def seqs:List Code->Code->Code
 |[],c=>c
 |a::l,c=>.seq a (seqs l c)
def agY(e:En):List (An×Code)->St->(St->Prop)->(St->Prop)->Prop
 |[],s,k,_=>k s
 |x::l,s,k,r=>wpT e x.1 x.2 s ⟨fun s'=>agY e l s' k r,fun _ _=>False,r⟩
theorem Y6{e:En}(he:e.ok)(n:e.P.follows .mixedOrders=true){g:G}{rest:Code}{b:Exit->Act->World->Prop}{k r:St->Prop}(m:∀v s,¬ e.pk v s)
  (hk:∀(t:St)a w,k t->R g t.toS a w->rest.wp e.P b a w) (hr:∀(t:St)a w,r t->R g t.toS a w->b .ret a w) :
  ∀(l:List (An×Code))(s:St),l.all (fun x=>kz g.nt x.2)=true->agY e l s k r->∀a w,R g s.toS a w->(seqs (l.map (·.2)) rest).wp e.P b a w
 |[],s,_,h,a,w,j=>hk s a w h j
 |x::l,s,hc,h,a,w,j=>by
  rw[ajE,aiW]at hc;refine wp_seq (Code.wp_mono (fun y a' w' hl=>?_) (rZ he n x.2 x.1 s _ hc.1 h a w j));obtain⟨s',hq,d⟩:=hl;cases y with
  |normal=>obtain⟨t,rfl,f⟩:=hq;exact Y6 he n m hk hr l t hc.2 f a' w' d
  |ret=>obtain⟨t,rfl,f⟩:=hq;exact hr t a' w' f d
  |exit i=>obtain⟨t,rfl,f⟩:=hq;grind
  |panic c=>obtain⟨v,t,rfl,rfl,hv⟩:=hq;grind
  |_=>exact hq.elim
theorem Y5{P:Program}{Q:Exit->Act->World->Prop}{b c:Nat}{caps:Array Operand}{o1 o2:Oper}(h1:o1.op=.makeFunc (.func c) #[] caps)(j:o1.dst=some b)(g1:o1.guard=none)
  (h2:o2.op=.defer ⟨.value (.tmp b),#[],#[]⟩) (i:o2.dst=none) (g2:o2.guard=none) (d:b<a.tmps.size)
  (h:Q .normal { a.put (some b) (.func (.func c) #[] (caps.map a.eval))with defers:=⟨.fn (.func c) (caps.map a.eval),#[]⟩::a.defers } w):(Code.region id #[o1,o2] false).wp P Q a w:=by
 refine wp_region_lit (l:=[o1,o2]) ?_;refine wpList_plain g1 (fun K e=>?_);have g:(execOp a.eval o1).run P w=.ok (.value (.func (.func c) #[] (caps.map a.eval))) w:=by
  simp_all[execOp,Instr.makeFunc]
 unfold Oper.wp;rw[g,Oper.upon_value,j];refine e _ _ ?_;refine wpList_plain g2 (fun K e=>?_);have ev:(a.put (some b) (.func (.func c) #[] (caps.map a.eval))).eval (.tmp b)=.func (.func c) #[] (caps.map a.eval):=by
  show((a.tmps.setIfInBounds b _).getD b undef)=_
  simp[d]
 have f:(execOp (a.put (some b) (.func (.func c) #[] (caps.map a.eval))).eval o2).run P w=.ok (.defer ⟨.fn (.func c) (caps.map a.eval),#[]⟩) w:=by
  simp_all[execOp,resolve,Deferred.ofValue]
 unfold Oper.wp;rw[f,Oper.upon_defer,i];exact e _ _ h
def dpk(e:En)(fn cl:Func)(anC:An)(rs:List U)(KK:Fl rs->Prop)(a b d g:Nat):PKt:=fun v t=>∃n,v=Lt.flt n/\(Lit.int .i64 n).wf=true/\match gtA t.t 2,gtA t.t 3,gtA t.t 4 with
 |.one (.c (.pl ⟨.out f,0,[]⟩)),.one (.c (.pl ⟨.out h,0,[]⟩)),.one (.c (.pl ⟨.out i,0,[]⟩))=>match Nat.beq f a&&(Nat.beq h b&&Nat.beq i d)with
  |true=>afH e anC (cl.body.getD .skip) [g,a,b,d] n t (fun s'=>match [a,b,d].all (Qm s')with
   |true=>uW e.P fn.results.toList rs KK ⟨s'.nx,[(2,0,.one (.c (.pl ⟨.out a,0,[]⟩))),(3,0,.one (.c (.pl ⟨.out b,0,[]⟩))),(4,0,.one (.c (.pl ⟨.out d,0,[]⟩)))],s'.m⟩
   |false=>False)
  |false=>False
 |_,_,_=>False
def VU(e:En)(fn cl:Func)(l:List (An×Code))(an2 anC:An)(rest:Code)(ps rs:List U)(x:Fl ps)(KK:Fl rs->Prop):Prop:=
 agY e l (MM ps x) (fun s=>match gtA s.t 2,gtA s.t 3,gtA s.t 4,gtA s.t 6 with
  |.one (.c (.pl ⟨.loc a,0,[]⟩)),.one (.c (.pl ⟨.loc f,0,[]⟩)),.one (.c (.pl ⟨.loc b,0,[]⟩)),.one (.c (.pl ⟨.loc d,0,[]⟩))=>
   wpT ⟨e.P,e.E,e.cs,e.sh,dpk e fn cl anC rs KK a f b d⟩ an2 rest (s.put (some 22) .any).sw ⟨uW e.P fn.results.toList rs KK,fun _ _=>False,uW e.P fn.results.toList rs KK⟩
  |_,_,_,_=>False) (uW e.P fn.results.toList rs KK)
theorem Fw{g:G}(hX:RX g s.toS a w H γ F)(d:g.ex=none){k:Nat}(h:gtA s.t k=.one (.c (.pl ⟨.loc i,0,[]⟩))):∃b,γ (.loc i)=.blk b/\a.eval (.tmp k)=.pointer (some ⟨b,0,none⟩):=by
 have e:=hX.t k
 rw[G.tv_none d,show bd s.toS.t k=(gtA s.t k).toV from dC k s.t,h]at e;obtain⟨_,_,ad,h1,h2⟩:=e;simp only[plA]at h1;split at h1
 ·rename_i b hb;simp only[aiX]at h1;exact⟨b,hb,by rw[show a.eval (.tmp k)=a.tmps.getD k undef from rfl,h2,h1]⟩
 grind
theorem NY{g:G}(hX:RX g s.toS a w H γ F)(d:g.ex=none){k b:Nat}(h:gtA s.t k=.one (.c (.pl ⟨.out i,0,[]⟩)))(f:g.out i=some b):a.tmps.getD k undef=.pointer (some ⟨b,0,none⟩):=by
 have e:=hX.t k
 rw[G.tv_none d,show bd s.toS.t k=(gtA s.t k).toV from dC k s.t,h]at e;obtain⟨_,_,ad,h1,h2⟩:=e;simp only[plA,hX.df.2.1 _ _ f,aiX]at h1
 grind
theorem LW{E:Ut}{cs:CTt}(he:(⟨prog,E,cs,sh,fun _ _=>False⟩:En).ok)(hm:prog.follows .mixedOrders=true){f:Nat}{fn:Func}(hf:prog.funcs[f]? = some fn) (M:(fn.name == "runtime.NumGoroutine")=false) {l:List (An×Code)} {an2 anC:An}  {o1 o2:Oper} {rest:Code}
  (hb:fn.body=some (seqs (l.map (·.2)) (.seq (.region id #[o1,o2] false) rest))) (h1:o1.op=.makeFunc (.func 43) #[] #[.tmp 6,.tmp 2,.tmp 3,.tmp 4]) (d1:o1.dst=some 22) (g1:o1.guard=none) (h2:o2.op=.defer ⟨.value (.tmp 22),#[],#[]⟩) (d2:o2.dst=none) (g2:o2.guard=none)
  (ah:Nat.blt 22 fn.ntmps=true) {ps rs:List U} {pre:Fl ps->Prop} {Fn:Fl ps->Fl rs} (W:Nat.ble ps.length fn.ntmps=true) (hc:l.all (fun x=>kz fn.ntmps x.2)=true) (ae:kz fn.ntmps rest=true)
  (ac:∀x,pre x->∀KK:Fl rs->Prop,KK (Fn x)->VU ⟨prog,E,cs,sh,fun _ _=>False⟩ fn f43 l an2 anC rest ps rs x KK):Cont prog f (uP ps rs pre Fn):=by
 refine Es (fun _ _ _ _ h h'=>⟨h'.1,h _ h'.2⟩) (fi hf M (by grind)) fun x K KP args w H γ hp hl ha hg ad=>?_
 have h:=ac x hp.1 K hp.2
 have hX0:=Ii (F1:=fun _ _=>0) ad hg hl ha (nt:=fn.ntmps) (ajA W)
 generalize hPo:(fun(e:Ending) (w':World)=>∃Y tt,Fr w H (fun _=>0) w' Y tt/\(∀b o y,Y b o=some y->RdV w' b o y)/\((∃r y,e=.returned r/\K y/\AR w' Y γ [] (gy rs y).toV r)\/∃v,e=.panicked (chn v)/\KP v))=Po;have fin:∀(out:Nat->Option Nat)(ds:List Deferred)(t:St)(a':Act)(w':World),uW prog fn.results.toList rs K t->R ⟨fn.ntmps,w,H,fun _=>0,out,none,ds⟩ t.toS a' w' ->
   ∃v,(results fn a'.tmps).run prog w'=.ok v w'/\Po (.returned v) w':=by
  grind [QG]
 refine calls_of_wp_defers hf hb (Y6 (e:=⟨prog,E,cs,sh,fun _ _=>False⟩) (g:=⟨fn.ntmps,w,H,fun _=>0,fun _=>none,none,[]⟩) he hm (fun _ _ h=>h) (fun t q w1 p X=>?_) (fun t q w1 p X=>?_) l _ hc h _ w ⟨H,γ,_,hX0⟩)
 rotate_left
 ·obtain⟨v,F,Z⟩:=fin _ _ t q w1 p X;obtain⟨_,_,_,j⟩:=X;show Leaves prog fn q.tmps _ q.defers .returning w1
  rw[show q.defers=[]from j.df.1];exact⟨v,F,Z⟩
 ·obtain⟨Y,B,F3,j⟩:=X;split at p
  rotate_left
  ·grind
  rename_i i2 i3 i4 i6 t2 t3 t4 t6;obtain⟨b2,q2,v2⟩:=Fw j rfl t2;obtain⟨z,q3,v3⟩:=Fw j rfl t3;obtain⟨b4,q4,v4⟩:=Fw j rfl t4;obtain⟨b6,q6,v6⟩:=Fw j rfl t6;have ag:q.tmps.size=fn.ntmps:=j.nt
  refine wp_seq (Y5 h1 d1 g1 h2 d2 g2 (by simp_all) ?_);rw[show(#[.tmp 6,.tmp 2,.tmp 3,.tmp 4]:Array Operand).map q.eval=#[.pointer (some ⟨b6,0,none⟩),.pointer (some ⟨b2,0,none⟩),.pointer (some ⟨z,0,none⟩),.pointer (some ⟨b4,0,none⟩)]from by
   grind]
  have hP:=j.put (d:=some 22) (by show decide (22<fn.ntmps)=true;simp_all) (v:=(At.any).toV) (y:=.func (.func 43) #[] #[.pointer (some ⟨b6,0,none⟩),.pointer (some ⟨b2,0,none⟩),.pointer (some ⟨z,0,none⟩),.pointer (some ⟨b4,0,none⟩)]) trivial
  have aa:=br (aJ _ _ _) hP
  have hS:=ag5 aa (a':={ q.put (some 22) (.func (.func 43) #[] #[.pointer (some ⟨b6,0,none⟩),.pointer (some ⟨b2,0,none⟩),.pointer (some ⟨z,0,none⟩),.pointer (some ⟨b4,0,none⟩)])with defers:=⟨.fn (.func 43) #[.pointer (some ⟨b6,0,none⟩),.pointer (some ⟨b2,0,none⟩),.pointer (some ⟨z,0,none⟩),.pointer (some ⟨b4,0,none⟩)],#[]⟩::q.defers }) (ds:=[⟨.fn (.func 43) #[.pointer (some ⟨b6,0,none⟩),.pointer (some ⟨b2,0,none⟩),.pointer (some ⟨z,0,none⟩),.pointer (some ⟨b4,0,none⟩)],#[]⟩]) rfl (by rw[show q.defers=[]from j.df.1])
  have O:rU B i2=some b2:=by grind [rU]
  have Q:rU B i3=some z:=by grind [rU]
  have J:rU B i4=some b4:=by grind [rU]
  have ab:rU B i6=some b6:=by grind [rU]
  refine Code.wp_mono (fun y a' w' hl=>?_) (rZ (e:=⟨prog,E,cs,sh,dpk ⟨prog,E,cs,sh,fun _ _=>False⟩ fn f43 anC rs K i2 i3 i4 i6⟩) he hm rest an2 _ _ ae p _ _ ⟨_,_,_,hS⟩);obtain⟨s',hq,L⟩:=hl;have S:a'.defers=[⟨.fn (.func 43) #[.pointer (some ⟨b6,0,none⟩),.pointer (some ⟨b2,0,none⟩),.pointer (some ⟨z,0,none⟩),.pointer (some ⟨b4,0,none⟩)],#[]⟩]:=by obtain⟨_,_,_,hX'⟩:=L;exact hX'.df.1
  have I:(invoke (.fn (.func 43) #[.pointer (some ⟨b6,0,none⟩),.pointer (some ⟨b2,0,none⟩),.pointer (some ⟨z,0,none⟩),.pointer (some ⟨b4,0,none⟩)]) #[]).run prog w'=.ok (.enter 43 #[.pointer (some ⟨b6,0,none⟩),.pointer (some ⟨b2,0,none⟩),.pointer (some ⟨z,0,none⟩),.pointer (some ⟨b4,0,none⟩)]) w':=by
   have:=fi (P:=prog) (fn:=f43) (f:=43) kQ0 (by rfl) (by rfl) #[.pointer (some ⟨b6,0,none⟩),.pointer (some ⟨b2,0,none⟩),.pointer (some ⟨z,0,none⟩),.pointer (some ⟨b4,0,none⟩)] w'
   grind [invoke]
  have D:∀t:St,s'=t.toS->uW prog fn.results.toList rs K t->Leaves prog fn a'.tmps (Po) a'.defers .returning w':=by
   rintro t rfl p
   rw[S];refine⟨by simp,_,_,43,_,rfl,I,(aaE _ _ _ _ w').mono ?_⟩;rintro e u' A ⟨⟨v,rfl⟩,rfl,rfl⟩
   obtain⟨v,F,Z⟩:=fin _ _ t a' A p L;exact⟨v,F,Z⟩
  cases y with
  |normal=>obtain⟨t,F,p⟩:=hq;exact D t F p
  |ret=>obtain⟨t,F,p⟩:=hq;exact D t F p
  |exit i=>obtain⟨t,F,p⟩:=hq;grind
  |panic c=>
   obtain⟨v,t,rfl,rfl,n,rfl,hn,hv⟩:=hq;obtain⟨H3,af,F4,C⟩:=L;split at hv
   rotate_left
   ·grind
   rename_i j2 j3 j4 u2 u3 u4;split at hv
   rotate_left
   ·grind
   rename_i hj;simp only[aiW,Nat.beq_eq]at hj;obtain⟨rfl,rfl,rfl⟩:=hj;have p2:=NY C rfl u2 O
   have p3:=NY C rfl u3 Q
   have p4:=NY C rfl u4 J
   show Leaves prog fn a'.tmps (Po) a'.defers (.panicking (chn (Lt.flt n))) w'
   rw[S];refine⟨by simp,_,_,43,_,rfl,I,(aaD he hm C ab O Q J hn hv).mono ?_⟩;rintro e u' A ⟨⟨v,rfl⟩,hu,s3,hK,H5,V,F5,k⟩
   split at hK
   rotate_left
   ·grind
   rename_i T;simp only[ajE,alC,akK,aiW]at T;obtain⟨k2,k3,k4⟩:=T;dsimp only;rw[hu];refine fin _ _ _ a' A hK ⟨H5,V,F5,k.mem,k.fr,k.nt,k.df,fun i=>?_⟩;rw[G.tv_none rfl];have N:RX _ (⟨s3.nx,[],s3.m⟩:St).toS a' A H5 V F5:=k
   have y2:=kG N k2 O
   have y3:=kG N k3 Q
   have y4:=kG N k4 J
   match i with
   |0=>exact trivial
   |1=>exact trivial
   |2=>rw[p2];exact y2
   |3=>rw[p3];exact y3
   |4=>rw[p4];exact y4
   |i+5=>exact trivial
  |_=>exact hq.elim
end Go.Am
end
