/-
  Part 19: AmClo · AmDef.
-/
import Derived.Test.YthhkhcolidkemaaGreatDoorCt18
import Derived.Recover
set_option linter.unusedSimpArgs false
set_option linter.unusedVariables false
set_option linter.unusedSectionVars false
set_option linter.unnecessarySimpa false
open Go.Proofs.Tryz
section
namespace Go.Am
open Go Go.RowKit Go.Proofs
def K5(cs:List Frame):Value×List Frame:=match recoverD cs with
 |some (v,a)=>(v,a)
 |none=>(.nilIface,cs)
variable{a:Act}{id:Nat}{w:World}
theorem Rl{P:Program}{Q:Exit->Act->List Frame->World->Prop}{o0 o1:Oper}{d:Nat}{cs:List Frame}(h0:o0.op=.call ⟨.builtin .recover,#[],#[]⟩)(h1:o1.op=.assign (.tmp d))(c:o0.guard=none)(g1:o1.guard=none)
  (h:Q .normal ((a.put o0.dst (K5 cs).1).put o1.dst ((a.put o0.dst (K5 cs).1).eval (.tmp d))) (K5 cs).2 w):(Code.region id #[o0,o1] false).wpS P Q a cs w:=by
 refine wpS_region ?_;show wpOpsS _ _ _ [0,1] _ _ _
 have e0:∀a:Act,(execOp a.eval o0).run P w=.ok .recover w:=λa=>by unfold execOp;rw[h0];rfl
 have g:∀a:Act,(execOp a.eval o1).run P w=.ok (.value (a.eval (.tmp d))) w:=λa=>by simp_all[execOp]
 have e:(#[o0,o1]:Array Oper)[1]? = some o1:=rfl
 have w0:∀f,Region.wanted o0 f=true:=λf=>by simp[Region.wanted,c]
 have w1:∀f,Region.wanted o1 f=true:=λf=>by simp[Region.wanted,g1]
 have fin:∀v b,Q .normal ((a.put o0.dst v).put o1.dst ((a.put o0.dst v).eval (.tmp d))) b w->wpOpsS P #[o0,o1] Q [1] (a.put o0.dst v) b w:=by intro v b hq;unfold wpOpsS;rw[e];dsimp only;rw[if_pos (w1 _),g];exact hq
 grind [wpOpsS,K5]
theorem Ui{P:Program}{t u:TypeId}{ms}{x:Value}(h:P.underlying t=some (.interface ms))(w:World):(binOp .neq t (.iface u x) .nilIface).run P w=.ok (.bool true) w:=by
 show(do pure (.bool (!(<- Op.equal t (.iface u x) .nilIface))):Sem Value).run P w=_
 unfold Op.equal Op.maxDepth;unfold Op.equalIn;simp only[Sem.run_bind,run_underlying h,Result.andThen];rfl
variable{c:Code}
theorem aiG{P:Program}{Q:Exit->Act->World->Prop}(b:Act)(h:a=b)(hb:c.wp P Q b w):c.wp P Q a w:=h ▸ hb
theorem aeO{P:Program}{b:Code}{Q Q':Exit->Act->World->Prop}{a':Act}(hc:b=c)(d:a'=a)(h:b.wp P Q' a' w)(hq:∀e a w,Q' e a w->Q e a w):c.wp P Q a w:=by grind [Code.wp_mono]
theorem ab6(c f b d:Value)(w:World):CallsD prog 36 #[c,f,b,d] .returning w λe u' w'=>(∃v,e=.returned v)/\u'=.returning/\w'=w:=by
 refine callsD_of_wpS func36 rfl (λa cs hc=>?_);refine wpS_seq (Rl rfl rfl rfl rfl ?_);have hr:K5 (a::cs)=(.nilIface,a::cs):=by simp[K5,recoverD,hc]
 rw[hr];refine wpS_of_wp ?_;refine aiG { tmps:=#[c,f,b,d,.nilIface,undef,undef,.nilIface,undef,undef,undef,undef,undef,undef,undef,undef,undef,undef,undef,undef,undef,undef,undef,undef,undef],defers:=[] } kQ0 ?_
 go_wp2
 exact⟨rfl,a.mode,rfl,.tuple #[],(by simp_all[jy]),⟨_,rfl⟩,hc,rfl⟩
variable{F:Nm->Fp}{H:FH}{i:Nat}{ops rest:List Oper}{s:St}{sh:List (TypeId×List Sh)}{γ:Gam}
section
variable {P:Program} {g:G} {Q:Exit->S->Prop}
theorem aiJ{m:Mm}{x y:Value}(h:AR w H γ m (.one (.c (.d (.v x)))) y):y=x:=by obtain⟨_,m,h⟩:=h;cases m<;>exact h.1
theorem O7{b a:List Oper}{s:S}(h1:b=ops)(h2:a=rest)(h:AL P g b a Q s):AL P g ops rest Q s:=by grind
theorem aaB{a:Code}{s:S}(h1:a=c)(h:AW P g a Q s):AW P g c Q s:=by grind
theorem Es{o:Oper}(v:At)(f:o.guard=none)(hd:okD g.nt o.dst=true)
  (h:∀a w H γ F,RX g s.toS a w H γ F->∃y,(execOp a.eval o).run P w=.ok (.value y) w/\AR w H γ s.toS.m v.toV y) (hk:AL P g ops rest Q (s.put o.dst v).toS):AL P g ops (o::rest) Q s.toS:=by
 refine O8 f (O9 (λa w d=>?_));obtain⟨H,γ,F,b⟩:=d;obtain⟨y,c,e⟩:=h a w H γ F b;unfold Oper.wp;rw[c];exact⟨_,hk,H,γ,F,bH (aM s o.dst v) (b.put hd e)⟩
def QK(t:St)(i:Nat):Bool:=match cm t.m (.out i)with
 |some r=>!r.cells.isEmpty
 |none=>false
def kL:Code->Code|.seq a _=>a|c=>c
def kR:Code->Code|.seq _ b=>b|c=>c
def kT:Code->Code|.cond _ a _=>a|c=>c
def kO:Code->List Oper|.region _ ops _=>ops.toList|_=>[]
abbrev ai7(a:List Nat)(t:St):St:=⟨t.nx+1,BU t.nx 0 (a.map λi=>.one (.c (.pl ⟨.out i,0,[]⟩))),t.m⟩
abbrev ai8(a:List Nat)(n:Int)(t:St):St:=((ai7 a t).put (some 7) (sct (.v (Lt.flt n)))).put (some 4) (sct (.v (Lt.flt n)))
abbrev aj7(a:List Nat)(n:Int)(t:St):St:=((ai8 a n t).put (some 8) (sct (.v (Lt.flt n)))).put (some 9) (sct (.bo true))
abbrev aj8(a:List Nat)(n:Int)(t:St):St:=((aj7 a n t).put (some 11) (sct (.v (Lt.flt n)))).put (some 12) (.tup [.agg [.d (.i .i64 n)],.c (.d (.bo true))])
def agY(e:En)(an:An)(c:Code)(a:List Nat)(n:Int)(t:St)(K:St->Prop):Prop:=
 match a.all (QK t)with
 |true=>o9 e (kO (kL (kT (kR (kR c))))) ((kO (kL (kT (kR (kR c))))).drop 2) (aj8 a n t) (λs=>o9 e (kO (kL (kL (kR (kT (kR (kR c))))))) (kO (kL (kL (kR (kT (kR (kR c))))))) s (λs=>match gtA s.t 16 with
  |.one (.c (.d (.bo false)))=>wpT e an (kR (kR (kT (kR (kR c))))) s ⟨K,λ_ _=>False,K⟩
  |_=>False))
 |false=>False
theorem lA{t:St}{b:Nat}(e:RX g t.toS a w H γ F)(h:QK t i=true)(d:g.out i=some b):AR w H γ t.toS.m (.one (.c (.pl ⟨.out i,0,[]⟩))) (.pointer (some ⟨b,0,none⟩)):=by
 refine⟨λ_=>rfl,?_,⟨b,0,none⟩,?_,rfl⟩
 .unfold QK at h;split at h
  .rename_i r hr;rw[ay];refine⟨_,bz hr,?_⟩;show 0<r.toR.cells.length
   have hl:r.toR.cells.length=r.cells.length:=by
    unfold Rt.toR holed
    grind
   grind
  grind
 simp only[plA,e.df.2.1 _ _ d]
theorem acN(a c b d:Value)(r:Array Value)(i:Nat)(hi:i < 4):(#[a,c,b,d]++r).getD i undef=#[a,c,b,d].getD i undef:=by simp_all[alR]
set_option maxRecDepth 100000 in
theorem ab5{E:Ut}{cs:CTt}(B:(⟨prog,E,cs,sh,λ_ _=>False⟩:En).ok)(hm:prog.follows .mixedOrders=true){t:St}{a0:Act}(f:RX g t.toS a0 w H γ F)
  {q y r p b0 b1 b2 b3:Nat} (h0:g.out q=some b0) (h1:g.out y=some b1) (h2:g.out r=some b2) (h3:g.out p=some b3) {n:Int} (hn:(Lit.int .i64 n).wf=true) {an:An} {K:St->Prop} (h:agY ⟨prog,E,cs,sh,λ_ _=>False⟩ an (f36.body.getD .skip) [q,y,r,p] n t K) :
  CallsD prog 36 #[.pointer (some ⟨b0,0,none⟩),.pointer (some ⟨b1,0,none⟩),.pointer (some ⟨b2,0,none⟩),.pointer (some ⟨b3,0,none⟩)] (.panicking (chn (Lt.flt n))) w
   λe u' w'=>(∃v,e=.returned v)/\settle u'=.returning/\∃s':St,K s'/\∃H' γ' F',RX g ⟨[],s'.toS.m⟩ a0 w' H' γ' F':=by
 refine callsD_of_wpS func36 rfl (λz k hc=>?_);refine wpS_seq (Rl rfl rfl rfl rfl ?_);have hr:K5 (z::k)=(Lt.flt n,{ z with mode:=.panicking [{ v:=Lt.flt n,recovered:=true }] }::k):=by simp[K5,recoverD,hc]
 rw[hr];refine wpS_of_wp ?_;unfold agY at h;split at h
 rotate_left
 .grind
 rename_i o;simp only[akW,amV,amO,akI]at o;obtain⟨k0,k1,k2,k3⟩:=o
 let g3:G:=⟨25,g.w0,g.H0,g.own0,g.out,none,[]⟩
 have u0:=lA f k0 h0
 have u1:=lA f k1 h1
 have J:=lA f k2 h2
 have I:=lA f k3 h3
 have L:RX g3 (ai7 [q,y,r,p] t).toS { tmps:=#[.pointer (some ⟨b0,0,none⟩),.pointer (some ⟨b1,0,none⟩),.pointer (some ⟨b2,0,none⟩),.pointer (some ⟨b3,0,none⟩)]++Array.replicate (f36.ntmps - 4) undef,defers:=[] } w H γ F:=by
  refine⟨f.mem,f.fr,by kernel_rfl,⟨rfl,f.df.2⟩,λi=>?_⟩;rw[G.tv_none rfl]
  match i with
  |0=>rw[acN _ _ _ _ _ 0 (by decide)];exact u0
  |1=>rw[acN _ _ _ _ _ 1 (by decide)];exact u1
  |2=>rw[acN _ _ _ _ _ 2 (by decide)];exact J
  |3=>rw[acN _ _ _ _ _ 3 (by decide)];exact I
  |i+4=>exact trivial
 have D:∀(w:World)(H:FH)(γ:Gam)(m:Mm),AR w H γ m (sct (.v (Lt.flt n))).toV (Lt.flt n):=λw H γ m=>⟨λ_=>rfl,0,rfl,rfl⟩
 have N:=bH (aM _ _ _) ((bH (aM _ _ _) (L.put (d:=some 7) rfl (D _ _ _ _))).put (d:=some 4) rfl (D _ _ _ _))
 have run:AW prog g3 (kR (f36.body.getD .skip)) (LQ (λ_ _=>False) ⟨K,λ_ _=>False,K⟩) (ai8 [q,y,r,p] n t).toS:=by
  refine vU (qP (Es (sct (.v (Lt.flt n))) rfl rfl (λa w H γ F f=>?_) (Es (sct (.bo true)) rfl rfl (λa w H γ F f=>?_) (Va (Eu (b:=true) ?_ (λ_=>vU (qP (Es (sct (.v (Lt.flt n))) rfl rfl (λa w H γ F f=>?_)
   (Es (.tup [.agg [.d (.i .i64 n)],.c (.d (.bo true))]) rfl rfl (λa w H γ F f=>?_) ?_)))) (λh=>by cases h))))))
  .have e:=f.t 4
   exact⟨_,rfl,e⟩
  .have e:=f.t 8
   have C:a.eval (.tmp 8)=Lt.flt n:=aiJ e
   refine⟨.bool true,?_,⟨λ_=>rfl,0,rfl⟩⟩;simp only[execOp,C,show a.eval (.const .nilIface)=.nilIface from rfl,Sem.run_bind,Lt.flt,Ui underlying20];rfl
  .rfl
  .have e:=f.t 4
   exact⟨_,rfl,e⟩
  .have e:=f.t 11
   have C:a.eval (.tmp 11)=Lt.flt n:=aiJ e
   refine⟨.tuple #[.agg #[.int .i64 n],.bool true],?_,?_⟩
   .simp_all[execOp,Instr.typeAssert,Lt.flt]
   exact⟨_,rfl,⟨_,rfl,rfl,⟨_,[],λ_=>0,λ_=>0,rfl,λ_=>rfl,⟨λ_=>rfl,0,rfl,hn⟩,λ_=>rfl⟩⟩,⟨λ_=>rfl,0,rfl⟩,trivial⟩
  refine O7 (by rfl) (by rfl) (og (e:=⟨prog,E,cs,sh,λ_ _=>False⟩) B (λx s h=>h.elim λ_ h=>h.elim λ_ h=>h.2.2.elim) (by rfl) h (λt j=>?_));refine vU (vU (qP (O7 (by rfl) (by rfl) (og (e:=⟨prog,E,cs,sh,λ_ _=>False⟩) B (λx s h=>h.elim λ_ h=>h.elim λ_ h=>h.2.2.elim) (by rfl) j (λt j=>?_)))));split at j
  .rename_i l;exact Eu (b:=false) (jr l) (λh=>by cases h) (λ_=>Pg (aaB (by rfl) (om B hm _ an t _ kQ0 j)))
  grind
 refine aeO (by rfl) kQ0 (run _ _ ⟨H,γ,F,N⟩) (λx a' w' hl=>?_);obtain⟨s',hq,H',γ',F',hX'⟩:=hl;have fin:∀t':St,s'=t'.toS->K t'->a'.defers=[]/\∃u',({ z with mode:=.panicking [{ v:=Lt.flt n,recovered:=true }] }::k:List Frame)={ z with mode:=u' }::k/\∃v,(results f36 a'.tmps).run prog w'=.ok v w' /\
   ((∃M,Ending.returned v=.returned M)/\settle u'=.returning/\∃s':St,K s'/\∃H' γ' F',RX g ⟨[],s'.toS.m⟩ a0 w' H' γ' F'):=by
  rintro t' rfl hk
  exact⟨hX'.df.1,_,rfl,.tuple #[],(by simp_all[jy]),⟨_,rfl⟩,rfl,t',hk,H',γ',F',hX'.mem,hX'.fr,f.nt,⟨f.df.1,hX'.df.2⟩,λ_=>trivial⟩
 cases x with
 |normal=>obtain⟨t',A,j⟩:=hq;exact fin t' A j
 |ret=>obtain⟨t',A,j⟩:=hq;exact fin t' A j
 |exit i=>obtain⟨t',A,j⟩:=hq;grind
 |panic c=>obtain⟨_,_,_,_,hv⟩:=hq;grind
 |_=>exact hq.elim
end
def seqs:List Code->Code->Code
 |[],c=>c
 |a::l,c=>.seq a (seqs l c)
def aiF(e:En):List (An×Code)->St->(St->Prop)->(St->Prop)->Prop
 |[],s,k,_=>k s
 |x::l,s,k,r=>wpT e x.1 x.2 s ⟨λs'=>aiF e l s' k r,λ_ _=>False,r⟩
theorem Z6{e:En}(n:e.ok)(hm:e.P.follows .mixedOrders=true){g:G}{rest:Code}{b:Exit->Act->World->Prop}{k r:St->Prop}(m:∀v s,¬ e.pk v s)
  (hk:∀(t:St)a w,k t->R g t.toS a w->rest.wp e.P b a w) (hr:∀(t:St)a w,r t->R g t.toS a w->b .ret a w) :
  ∀(l:List (An×Code))(s:St),l.all (λx=>jZ g.nt x.2)=true->aiF e l s k r->∀a w,R g s.toS a w->(seqs (l.map (·.2)) rest).wp e.P b a w
 |[],s,_,h,a,w,j=>hk s a w h j
 |x::l,s,hc,h,a,w,j=>by
  rw[akW,akI]at hc;refine wp_seq (Code.wp_mono (λy a' w' hl=>?_) (om n hm x.2 x.1 s _ hc.1 h a w j));obtain⟨s',hq,d⟩:=hl;cases y with
  |normal=>obtain⟨t,rfl,f⟩:=hq;exact Z6 n hm m hk hr l t hc.2 f a' w' d
  |ret=>obtain⟨t,rfl,f⟩:=hq;exact hr t a' w' f d
  |exit i=>obtain⟨t,rfl,f⟩:=hq;grind
  |panic c=>obtain⟨v,t,rfl,rfl,hv⟩:=hq;grind
  |_=>exact hq.elim
theorem Z5{P:Program}{Q:Exit->Act->World->Prop}{b c:Nat}{caps:Array Operand}{o1 o2:Oper}(h1:o1.op=.makeFunc (.func c) #[] caps)(g:o1.dst=some b)(g1:o1.guard=none)
  (h2:o2.op=.defer ⟨.value (.tmp b),#[],#[]⟩) (i:o2.dst=none) (g2:o2.guard=none) (d:b<a.tmps.size)
  (h:Q .normal { a.put (some b) (.func (.func c) #[] (caps.map a.eval))with defers:=⟨.fn (.func c) (caps.map a.eval),#[]⟩::a.defers } w):(Code.region id #[o1,o2] false).wp P Q a w:=by
 refine wp_region_lit (l:=[o1,o2]) ?_;refine wpList_plain g1 (λK e=>?_);have f:(execOp a.eval o1).run P w=.ok (.value (.func (.func c) #[] (caps.map a.eval))) w:=by simp_all[execOp,Instr.makeFunc]
 unfold Oper.wp;rw[f,Oper.upon_value,g];refine e _ _ ?_;refine wpList_plain g2 (λK e=>?_);have ev:(a.put (some b) (.func (.func c) #[] (caps.map a.eval))).eval (.tmp b)=.func (.func c) #[] (caps.map a.eval):=by
  show((a.tmps.setIfInBounds b _).getD b undef)=_
  simp[d]
 have j:(execOp (a.put (some b) (.func (.func c) #[] (caps.map a.eval))).eval o2).run P w=.ok (.defer ⟨.fn (.func c) (caps.map a.eval),#[]⟩) w:=by simp_all[execOp,resolve,Deferred.ofValue]
 unfold Oper.wp;rw[j,Oper.upon_defer,i];exact e _ _ h
def dpk(e:En)(fn cl:Func)(anC:An)(rs:List U)(KK:Fl rs->Prop)(b d a g:Nat):PKt:=λv t=>∃n,v=Lt.flt n/\(Lit.int .i64 n).wf=true/\match gtA t.t 2,gtA t.t 3,gtA t.t 4 with
 |.one (.c (.pl ⟨.out i,0,[]⟩)),.one (.c (.pl ⟨.out h,0,[]⟩)),.one (.c (.pl ⟨.out f,0,[]⟩))=>match Nat.beq i b&&(Nat.beq h d&&Nat.beq f a)with
  |true=>agY e anC (cl.body.getD .skip) [g,b,d,a] n t (λs'=>match [b,d,a].all (QK s')with
   |true=>vD e.P fn.results.toList rs KK ⟨s'.nx,[(2,0,.one (.c (.pl ⟨.out b,0,[]⟩))),(3,0,.one (.c (.pl ⟨.out d,0,[]⟩))),(4,0,.one (.c (.pl ⟨.out a,0,[]⟩)))],s'.m⟩
   |false=>False)
  |false=>False
 |_,_,_=>False
def WM(e:En)(fn cl:Func)(l:List (An×Code))(an2 anC:An)(rest:Code)(ps rs:List U)(x:Fl ps)(KK:Fl rs->Prop):Prop:=
 aiF e l (MP ps x) (λs=>match gtA s.t 2,gtA s.t 3,gtA s.t 4,gtA s.t 6 with
  |.one (.c (.pl ⟨.loc d,0,[]⟩)),.one (.c (.pl ⟨.loc f,0,[]⟩)),.one (.c (.pl ⟨.loc b,0,[]⟩)),.one (.c (.pl ⟨.loc a,0,[]⟩))=>wpT ⟨e.P,e.E,e.cs,e.sh,dpk e fn cl anC rs KK d f b a⟩ an2 rest (s.put (some 22) .any).sw ⟨vD e.P fn.results.toList rs KK,λ_ _=>False,vD e.P fn.results.toList rs KK⟩
  |_,_,_,_=>False) (vD e.P fn.results.toList rs KK)
theorem Fv{g:G}(f:RX g s.toS a w H γ F)(d:g.ex=none){k:Nat}(h:gtA s.t k=.one (.c (.pl ⟨.loc i,0,[]⟩))):∃b,γ (.loc i)=.blk b/\a.eval (.tmp k)=.pointer (some ⟨b,0,none⟩):=by
 have e:=f.t k
 rw[G.tv_none d,show bB s.toS.t k=(gtA s.t k).toV from dy k s.t,h]at e;obtain⟨_,_,ad,h1,h2⟩:=e;simp only[plA]at h1;split at h1
 .rename_i b hb;exact⟨b,hb,by rw[show a.eval (.tmp k)=a.tmps.getD k undef from rfl,h2,h1]⟩
 grind
theorem Oh{g:G}(f:RX g s.toS a w H γ F)(d:g.ex=none){k b:Nat}(h:gtA s.t k=.one (.c (.pl ⟨.out i,0,[]⟩)))(j:g.out i=some b):a.tmps.getD k undef=.pointer (some ⟨b,0,none⟩):=by
 have e:=f.t k
 rw[G.tv_none d,show bB s.toS.t k=(gtA s.t k).toV from dy k s.t,h]at e;obtain⟨_,_,ad,h1,h2⟩:=e;simp only[plA,f.df.2.1 _ _ j]at h1
 grind
theorem LS{E:Ut}{cs:CTt}(he:(⟨prog,E,cs,sh,λ_ _=>False⟩:En).ok)(hm:prog.follows .mixedOrders=true){f:Nat}{fn:Func}(hf:prog.funcs[f]? = some fn) (I:(fn.name == "runtime.NumGoroutine")=false) {l:List (An×Code)} {an2 anC:An}  {o1 o2:Oper} {rest:Code}
  (hb:fn.body=some (seqs (l.map (·.2)) (.seq (.region id #[o1,o2] false) rest))) (h1:o1.op=.makeFunc (.func 36) #[] #[.tmp 6,.tmp 2,.tmp 3,.tmp 4]) (d1:o1.dst=some 22) (g1:o1.guard=none) (h2:o2.op=.defer ⟨.value (.tmp 22),#[],#[]⟩) (d2:o2.dst=none) (g2:o2.guard=none)
  (ae:Nat.blt 22 fn.ntmps=true) {ps rs:List U} {pre:Fl ps->Prop} {Fn:Fl ps->Fl rs} (V:Nat.ble ps.length fn.ntmps=true) (hc:l.all (λx=>jZ fn.ntmps x.2)=true) (ac:jZ fn.ntmps rest=true)
  (ad:∀x,pre x->∀KK:Fl rs->Prop,KK (Fn x)->WM ⟨prog,E,cs,sh,λ_ _=>False⟩ fn f36 l an2 anC rest ps rs x KK):Cont prog f (Bc ps rs pre Fn):=by
 refine Ex (λ_ _ _ _ h h'=>⟨h'.1,h _ h'.2⟩) (iU hf I (by grind)) λx K KP args w H γ hp hl ha hg ab=>?_
 have h:=ad x hp.1 K hp.2
 have hX0:=Ig (F1:=λ_ _=>0) ab hg hl ha (nt:=fn.ntmps) (akR V)
 generalize hPo:(λ(e:Ending) (w':World)=>∃X tt,Fr w H (λ_=>0) w' X tt/\(∀b o y,X b o=some y->RdV w' b o y)/\((∃r y,e=.returned r/\K y/\AR w' X γ [] (ic rs y).toV r)\/∃v,e=.panicked (chn v)/\KP v))=Po;have fin:∀(out:Nat->Option Nat)(ds:List Deferred)(t:St)(a':Act)(w':World),vD prog fn.results.toList rs K t->R ⟨fn.ntmps,w,H,λ_=>0,out,none,ds⟩ t.toS a' w' ->
   ∃v,(results fn a'.tmps).run prog w'=.ok v w'/\Po (.returned v) w':=by
  grind [Q5]
 refine calls_of_wp_defers hf hb (Z6 (e:=⟨prog,E,cs,sh,λ_ _=>False⟩) (g:=⟨fn.ntmps,w,H,λ_=>0,λ_=>none,none,[]⟩) he hm (λ_ _ h=>h) (λt q w1 k W=>?_) (λt q w1 k W=>?_) l _ hc h _ w ⟨H,γ,_,hX0⟩)
 rotate_left
 .obtain⟨v,F,Z⟩:=fin _ _ t q w1 k W;obtain⟨_,_,_,j⟩:=W;show Leaves prog fn q.tmps _ q.defers .returning w1
  rw[show q.defers=[]from j.df.1];exact⟨v,F,Z⟩
 obtain⟨X,A,F3,j⟩:=W;split at k
 rotate_left
 .grind
 rename_i i2 i3 i4 i6 t2 t3 t4 t6;obtain⟨b2,q2,v2⟩:=Fv j rfl t2;obtain⟨b3,q3,v3⟩:=Fv j rfl t3;obtain⟨b4,q4,v4⟩:=Fv j rfl t4;obtain⟨b6,q6,v6⟩:=Fv j rfl t6;have ag:q.tmps.size=fn.ntmps:=j.nt
 refine wp_seq (Z5 h1 d1 g1 h2 d2 g2 (by simp_all) ?_);rw[show(#[.tmp 6,.tmp 2,.tmp 3,.tmp 4]:Array Operand).map q.eval=#[.pointer (some ⟨b6,0,none⟩),.pointer (some ⟨b2,0,none⟩),.pointer (some ⟨b3,0,none⟩),.pointer (some ⟨b4,0,none⟩)]from by grind]
 have hP:=j.put (d:=some 22) (by show decide (22<fn.ntmps)=true;simp_all) (v:=(At.any).toV) (y:=.func (.func 36) #[] #[.pointer (some ⟨b6,0,none⟩),.pointer (some ⟨b2,0,none⟩),.pointer (some ⟨b3,0,none⟩),.pointer (some ⟨b4,0,none⟩)]) trivial
 have aa:=bH (aM _ _ _) hP
 have hS:=aiN aa (a':={ q.put (some 22) (.func (.func 36) #[] #[.pointer (some ⟨b6,0,none⟩),.pointer (some ⟨b2,0,none⟩),.pointer (some ⟨b3,0,none⟩),.pointer (some ⟨b4,0,none⟩)])with defers:=⟨.fn (.func 36) #[.pointer (some ⟨b6,0,none⟩),.pointer (some ⟨b2,0,none⟩),.pointer (some ⟨b3,0,none⟩),.pointer (some ⟨b4,0,none⟩)],#[]⟩::q.defers }) (ds:=[⟨.fn (.func 36) #[.pointer (some ⟨b6,0,none⟩),.pointer (some ⟨b2,0,none⟩),.pointer (some ⟨b3,0,none⟩),.pointer (some ⟨b4,0,none⟩)],#[]⟩]) rfl (by rw[show q.defers=[]from j.df.1])
 have O:sI A i2=some b2:=by grind [sI]
 have J:sI A i3=some b3:=by grind [sI]
 have L:sI A i4=some b4:=by grind [sI]
 have Y:sI A i6=some b6:=by grind [sI]
 refine Code.wp_mono (λy a' w' hl=>?_) (om (e:=⟨prog,E,cs,sh,dpk ⟨prog,E,cs,sh,λ_ _=>False⟩ fn f36 anC rs K i2 i3 i4 i6⟩) he hm rest an2 _ _ ac k _ _ ⟨_,_,_,hS⟩);obtain⟨s',hq,N⟩:=hl;have S:a'.defers=[⟨.fn (.func 36) #[.pointer (some ⟨b6,0,none⟩),.pointer (some ⟨b2,0,none⟩),.pointer (some ⟨b3,0,none⟩),.pointer (some ⟨b4,0,none⟩)],#[]⟩]:=by obtain⟨_,_,_,hX'⟩:=N;exact hX'.df.1
 have D:(invoke (.fn (.func 36) #[.pointer (some ⟨b6,0,none⟩),.pointer (some ⟨b2,0,none⟩),.pointer (some ⟨b3,0,none⟩),.pointer (some ⟨b4,0,none⟩)]) #[]).run prog w'=.ok (.enter 36 #[.pointer (some ⟨b6,0,none⟩),.pointer (some ⟨b2,0,none⟩),.pointer (some ⟨b3,0,none⟩),.pointer (some ⟨b4,0,none⟩)]) w':=by
  have:=iU (P:=prog) (fn:=f36) (f:=36) kQ0 (by rfl) (by rfl) #[.pointer (some ⟨b6,0,none⟩),.pointer (some ⟨b2,0,none⟩),.pointer (some ⟨b3,0,none⟩),.pointer (some ⟨b4,0,none⟩)] w'
  grind [invoke]
 have C:∀t:St,s'=t.toS->vD prog fn.results.toList rs K t->Leaves prog fn a'.tmps (Po) a'.defers .returning w':=by
  rintro t rfl k
  rw[S];refine⟨by simp,_,_,36,_,rfl,D,(ab6 _ _ _ _ w').mono ?_⟩;rintro e u' B ⟨⟨v,rfl⟩,rfl,rfl⟩
  obtain⟨v,F,Z⟩:=fin _ _ t a' B k N;exact⟨v,F,Z⟩
 cases y with
 |normal=>obtain⟨t,F,k⟩:=hq;exact C t F k
 |ret=>obtain⟨t,F,k⟩:=hq;exact C t F k
 |exit i=>obtain⟨t,F,k⟩:=hq;grind
 |panic c=>
  obtain⟨v,t,rfl,rfl,n,rfl,hn,hv⟩:=hq;obtain⟨H3,af,F4,z⟩:=N;split at hv
  rotate_left
  .grind
  rename_i j2 j3 j4 u2 u3 u4;split at hv
  rotate_left
  .grind
  rename_i hj;simp only[akI,Nat.beq_eq]at hj;obtain⟨rfl,rfl,rfl⟩:=hj;have p2:=Oh z rfl u2 O
  have p3:=Oh z rfl u3 J
  have p4:=Oh z rfl u4 L
  show Leaves prog fn a'.tmps (Po) a'.defers (.panicking (chn (Lt.flt n))) w'
  rw[S];refine⟨by simp,_,_,36,_,rfl,D,(ab5 he hm z Y O J L hn hv).mono ?_⟩;rintro e u' B ⟨⟨v,rfl⟩,hu,s3,hK,H5,Q,F5,p⟩
  split at hK
  rotate_left
  .grind
  rename_i T;simp only[akW,amV,amO,akI]at T;obtain⟨k2,k3,k4⟩:=T;dsimp only;rw[hu];refine fin _ _ _ a' B hK ⟨H5,Q,F5,p.mem,p.fr,p.nt,p.df,λi=>?_⟩;rw[G.tv_none rfl];have M:RX _ (⟨s3.nx,[],s3.m⟩:St).toS a' B H5 Q F5:=p
  have y2:=lA M k2 O
  have y3:=lA M k3 J
  have y4:=lA M k4 L
  match i with
  |0=>exact trivial
  |1=>exact trivial
  |2=>rw[p2];exact y2
  |3=>rw[p3];exact y3
  |4=>rw[p4];exact y4
  |i+5=>exact trivial
 |_=>exact hq.elim
end Go.Am
end
