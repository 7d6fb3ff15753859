/-
  Part 17: AmClo · AmB4.
-/
import Derived.Test.YthhkhcolidkemaaGreatDoorCs16
import Derived.Recover
set_option linter.unusedSimpArgs false
set_option linter.unusedVariables false
set_option linter.unusedSectionVars false
set_option linter.unnecessarySimpa false
open Go.Proofs.Tryz
section
namespace Go.Am
open Go Go.RowKit Go.Proofs
def TN(cs:List Frame):Value×List Frame:=match recoverD cs with
 |some (v,a)=>(v,a)
 |none=>(.nilIface,cs)
variable{a:Act}{id:Nat}
theorem acW{P:Program}{Q:Exit->Act->List Frame->World->Prop}{o0 o1:Oper}{d:Nat}{cs:List Frame}{w:World}(h0:o0.op=.call ⟨.builtin .recover,#[],#[]⟩)(h1:o1.op=.assign (.tmp d))(e:o0.guard=none)(g1:o1.guard=none)
  (h:Q .normal ((a.put o0.dst (TN cs).1).put o1.dst ((a.put o0.dst (TN cs).1).eval (.tmp d))) (TN cs).2 w):(Code.region id #[o0,o1] false).wpS P Q a cs w:=by
 refine wpS_region ?_;show wpOpsS _ _ _ [0,1] _ _ _
 have e0:∀a:Act,(execOp a.eval o0).run P w=.ok .recover w:=fun a=>by
  unfold execOp;rw[h0];rfl
 have g:∀a:Act,(execOp a.eval o1).run P w=.ok (.value (a.eval (.tmp d))) w:=fun a=>by
  simp_all[execOp]
 have i:(#[o0,o1]:Array Oper)[0]? = some o0:=rfl
 have c:(#[o0,o1]:Array Oper)[1]? = some o1:=rfl
 have w0:∀f,Region.wanted o0 f=true:=fun f=>by simp[Region.wanted,e]
 have w1:∀f,Region.wanted o1 f=true:=fun f=>by simp[Region.wanted,g1]
 have fin:∀v b,Q .normal ((a.put o0.dst v).put o1.dst ((a.put o0.dst v).eval (.tmp d))) b w->wpOpsS P #[o0,o1] Q [1] (a.put o0.dst v) b w:=by
  intro v b hq;unfold wpOpsS;rw[c];dsimp only;rw[if_pos (w1 _),g];exact hq
 grind [wpOpsS,TN]
theorem agN{P:Program}{c:Code}{Q:Exit->Act->World->Prop}{w:World}(b:Act)(h:a=b)(hb:c.wp P Q b w):c.wp P Q a w:=h ▸ hb
theorem Z9(d f c b:Value)(w:World):CallsD prog 36 #[d,f,c,b] .returning w fun e u' w'=>(∃v,e=.returned v)/\u'=.returning/\w'=w:=by
 refine callsD_of_wpS func36 rfl (fun a cs hc=>?_);refine wpS_seq (acW rfl rfl rfl rfl ?_);have hr:TN (a::cs)=(.nilIface,a::cs):=by simp[TN,recoverD,hc]
 rw[hr];refine wpS_of_wp ?_;refine agN { tmps:=#[d,f,c,b,.nilIface,undef,undef,.nilIface,undef,undef,undef,undef,undef,undef,undef,undef,undef,undef,undef,undef,undef,undef,undef,undef,undef],defers:=[] } kQ0 ?_
 go_wp2
 exact⟨rfl,a.mode,rfl,.tuple #[],(by simp_all[ll]),⟨_,rfl⟩,hc,rfl⟩
section
variable {P:Program} {g:G} {Q:Exit->S->Prop}
def kT:Code->Code|.cond _ a _=>a|c=>c
end
def seqs:List Code->Code->Code
 |[],c=>c
 |a::l,c=>.seq a (seqs l c)
def YQ(e:En):List (An×Code)->St->(St->Prop)->(St->Prop)->Prop
 |[],s,k,_=>k s
 |x::l,s,k,r=>wpT e x.1 x.2 s ⟨fun s'=>YQ e l s' k r,fun _ _=>False,r⟩
variable{rest:Code}
theorem YS{e:En}(n:e.ok)(hm:e.P.follows .mixedOrders=true){g:G}{b:Exit->Act->World->Prop}{k r:St->Prop}(j:∀v s,¬ e.pk v s)
  (hk:∀(t:St)a w,k t->R g t.toS a w->rest.wp e.P b a w) (hr:∀(t:St)a w,r t->R g t.toS a w->b .ret a w) :
  ∀(l:List (An×Code))(s:St),l.all (fun x=>gS g.nt x.2)=true->YQ e l s k r->∀a w,R g s.toS a w->(seqs (l.map (·.2)) rest).wp e.P b a w
 |[],s,_,h,a,w,m=>hk s a w h m
 |x::l,s,hc,h,a,w,m=>by
  rw[ajJ,ai9]at hc;refine wp_seq (Code.wp_mono (fun y a' w' hl=>?_) (o7 n hm x.2 x.1 s _ hc.1 h a w m));obtain⟨s',hq,d⟩:=hl;cases y with
  |normal=>obtain⟨t,rfl,f⟩:=hq;exact YS n hm j hk hr l t hc.2 f a' w' d
  |ret=>obtain⟨t,rfl,f⟩:=hq;exact hr t a' w' f d
  |exit i=>obtain⟨t,rfl,f⟩:=hq;grind
  |panic c=>obtain⟨v,t,rfl,rfl,hv⟩:=hq;grind
  |_=>exact hq.elim
theorem YR{P:Program}{Q:Exit->Act->World->Prop}{b c:Nat}{caps:Array Operand}{o1 o2:Oper}{w:World}(h1:o1.op=.makeFunc (.func c) #[] caps)(f:o1.dst=some b)(g1:o1.guard=none)
  (h2:o2.op=.defer ⟨.value (.tmp b),#[],#[]⟩) (i:o2.dst=none) (g2:o2.guard=none) (d:b<a.tmps.size)
  (h:Q .normal { a.put (some b) (.func (.func c) #[] (caps.map a.eval))with defers:=⟨.fn (.func c) (caps.map a.eval),#[]⟩::a.defers } w):(Code.region id #[o1,o2] false).wp P Q a w:=by
 refine wp_region_lit (l:=[o1,o2]) ?_;refine wpList_plain g1 (fun K e=>?_);have j:(execOp a.eval o1).run P w=.ok (.value (.func (.func c) #[] (caps.map a.eval))) w:=by
  simp_all[execOp,Instr.makeFunc]
 unfold Oper.wp;rw[j,Oper.upon_value,f];refine e _ _ ?_;refine wpList_plain g2 (fun K e=>?_);have ev:(a.put (some b) (.func (.func c) #[] (caps.map a.eval))).eval (.tmp b)=.func (.func c) #[] (caps.map a.eval):=by
  show((a.tmps.setIfInBounds b _).getD b undef)=_
  simp[d]
 have g:(execOp (a.put (some b) (.func (.func c) #[] (caps.map a.eval))).eval o2).run P w=.ok (.defer ⟨.fn (.func c) (caps.map a.eval),#[]⟩) w:=by
  simp_all[execOp,resolve,Deferred.ofValue]
 unfold Oper.wp;rw[g,Oper.upon_defer,i];exact e _ _ h
theorem F8{E:Ut}{cs:CTt}{sh:List (TypeId×List Sh)}(V:(⟨prog,E,cs,sh,noP⟩:En).ok)(hm:prog.follows .mixedOrders=true){f:Nat}{fn:Func}(hf:prog.funcs[f]? = some fn) (B:(fn.name == "runtime.NumGoroutine")=false) {l:List (An×Code)} {an2:An}  {o1 o2:Oper} 
  (hb:fn.body=some (seqs (l.map (·.2)) (.seq (.region id #[o1,o2] false) rest))) (h1:o1.op=.makeFunc (.func 36) #[] #[.tmp 6,.tmp 2,.tmp 3,.tmp 4]) (d1:o1.dst=some 22) (g1:o1.guard=none) (h2:o2.op=.defer ⟨.value (.tmp 22),#[],#[]⟩) (d2:o2.dst=none) (g2:o2.guard=none)
  (aa:Nat.blt 22 fn.ntmps=true) {ps rs:List U} {pre:Fl ps->Prop} {Fn:Fl ps->Fl rs} (G:Nat.ble ps.length fn.ntmps=true) (hc:l.all (fun x=>gS fn.ntmps x.2)=true) (T:gS fn.ntmps rest=true)
  (L:∀x,pre x->∀KK:Fl rs->Prop,KK (Fn x)->YQ ⟨prog,E,cs,sh,noP⟩ l (EB ps x) (fun s=>wpT ⟨prog,E,cs,sh,noP⟩ an2 rest (s.put (some 22) .any) ⟨oZ prog fn.results.toList rs KK,fun _ _=>False,oZ prog fn.results.toList rs KK⟩) (oZ prog fn.results.toList rs KK)):Cont prog f (lg ps rs pre Fn):=by
 refine D5 (fun _ _ _ _ h h'=>⟨h'.1,h _ h'.2⟩) (s6 hf B (by grind)) fun x K W args w H γ hp hl Z hg N=>?_
 have hX0:=GY (F1:=fun _ _=>0) N hg hl Z (nt:=fn.ntmps) (ajG G)
 generalize hPo:(fun(e:Ending) (w':World)=>∃F tt,Fr w H (fun _=>0) w' F tt/\(∀b o y,F b o=some y->RdV w' b o y)/\((∃r y,e=.returned r/\K y/\AR w' F γ [] (dh rs y).toV r)\/∃v,e=.panicked (chn v)/\W v))=Po;have fin:∀(ds:List Deferred)(t:St)(a':Act)(w':World),oZ prog fn.results.toList rs K t->R ⟨fn.ntmps,w,H,fun _=>0,fun _=>none,none,ds⟩ t.toS a' w' ->
   ∃v,(results fn a'.tmps).run prog w'=.ok v w'/\Po (.returned v) w':=by
  grind [Qs]
 refine calls_of_wp_defers hf hb (YS (e:=⟨prog,E,cs,sh,noP⟩) (g:=⟨fn.ntmps,w,H,fun _=>0,fun _=>none,none,[]⟩) V hm (fun _ _ h=>h) (fun t j w1 m J=>?_) (fun t j w1 m J=>?_) l _ hc (L x hp.1 K hp.2) _ w ⟨H,γ,_,hX0⟩)
 rotate_left
 ·obtain⟨v,z,Q⟩:=fin _ t j w1 m J;obtain⟨_,_,_,k⟩:=J;show Leaves prog fn j.tmps _ j.defers .returning w1
  rw[show j.defers=[]from k.df.1];exact⟨v,z,Q⟩
 obtain⟨F,O,F3,k⟩:=J;have Y:j.tmps.size=fn.ntmps:=k.nt
 refine wp_seq (YR h1 d1 g1 h2 d2 g2 (by simp_all) ?_);rw[show(#[.tmp 6,.tmp 2,.tmp 3,.tmp 4]:Array Operand).map j.eval=#[j.eval (.tmp 6),j.eval (.tmp 2),j.eval (.tmp 3),j.eval (.tmp 4)]from by simp];generalize j.eval (.tmp 6)=q;generalize j.eval (.tmp 2)=A;generalize j.eval (.tmp 3)=q2;generalize j.eval (.tmp 4)=p;have D:=bH (aO _ _ _) (k.put (d:=some 22) (by show decide (22<fn.ntmps)=true;simp_all) (v:=(At.any).toV) (y:=.func (.func 36) #[] #[q,A,q2,p]) trivial)
 have X:RX ⟨fn.ntmps,w,H,fun _=>0,fun _=>none,none,[⟨.fn (.func 36) #[q,A,q2,p],#[]⟩]⟩ (t.put (some 22) .any).toS { j.put (some 22) (.func (.func 36) #[] #[q,A,q2,p])with defers:=⟨.fn (.func 36) #[q,A,q2,p],#[]⟩::j.defers } w1 F O F3:=
  ⟨D.mem,D.fr,D.nt,⟨by rw[show j.defers=[]from k.df.1],D.df.2⟩,D.t⟩
 refine Code.wp_mono (fun y a' w' hl=>?_) (o7 (e:=⟨prog,E,cs,sh,noP⟩) V hm rest an2 _ _ T m _ _ ⟨_,_,_,X⟩);obtain⟨s',hq,I⟩:=hl;have M:a'.defers=[⟨.fn (.func 36) #[q,A,q2,p],#[]⟩]:=by obtain⟨_,_,_,hX'⟩:=I;exact hX'.df.1
 have C:(invoke (.fn (.func 36) #[q,A,q2,p]) #[]).run prog w'=.ok (.enter 36 #[q,A,q2,p]) w':=by
  have:=s6 (P:=prog) (fn:=f36) (f:=36) kQ0 (by rfl) (by rfl) #[q,A,q2,p] w'
  grind [invoke]
 have n:∀t:St,s'=t.toS->oZ prog fn.results.toList rs K t->Leaves prog fn a'.tmps Po a'.defers .returning w':=by
  rintro t rfl m
  rw[M];refine⟨by simp,_,_,36,_,rfl,C,(Z9 _ _ _ _ w').mono ?_⟩;rintro e u' S ⟨⟨v,rfl⟩,rfl,rfl⟩
  obtain⟨v,z,Q⟩:=fin _ t a' S m I;exact⟨v,z,Q⟩
 cases y with
 |normal=>obtain⟨t,z,m⟩:=hq;exact n t z m
 |ret=>obtain⟨t,z,m⟩:=hq;exact n t z m
 |exit i=>obtain⟨t,z,m⟩:=hq;grind
 |panic c=>obtain⟨_,_,_,_,hf⟩:=hq;grind
 |_=>exact hq.elim
def acV(n:Nat)(b:EnB):List Code->St->(St->Bool)->(St->Bool)->Bool
 |[],s,k,_=>k s
 |c::l,s,k,r=>wpB n b c s ⟨fun s'=>acV n b l s' k r,fun _ _=>false,r⟩
def Em(n:Nat)(b:EnB)(fn:Func)(l:List Code)(rest:Code)(ps rs:List U)(x:Fl ps)(KK:Fl rs->Bool):Bool:=
 acV n b l (EB ps x) (fun s=>wpB n b rest (s.put (some 22) .any) ⟨KN b.e.P fn.results.toList rs KK,fun _ _=>false,KN b.e.P fn.results.toList rs KK⟩) (KN b.e.P fn.results.toList rs KK)
theorem QD{n:Nat}{b:EnB}(hc:Ga b.cs b.e.cs){pk:PKt}:∀(l:List Code)(s:St){kb a:St->Bool}{k r:St->Prop},(∀s,kb s=true->k s)->(∀s,a s=true->r s)->acV n b l s kb a=true->YQ (b.w pk) (l.map fun c=>(lE n c,c)) s k r
 |[],s,_,_,_,_,hk,_,h=>hk s h
 |c::l,s,kb,a,k,r,hk,hr,h=>lD hc n c s (Kb:=⟨fun s'=>acV n b l s' kb a,fun _ _=>false,a⟩) (K:=⟨fun s'=>YQ (b.w pk) (l.map fun c=>(lE n c,c)) s' k r,fun _ _=>False,r⟩) ⟨fun s' h'=>QD hc l s' hk hr h',fun _ _ h=>(by cases h),hr⟩ h
def kLs:Nat->Code->List Code
 |0,_=>[]
 |n+1,.seq a b=>a::kLs n b
 |_+1,_=>[]
def kRs:Nat->Code->Code
 |0,c=>c
 |n+1,.seq _ b=>kRs n b
 |_+1,c=>c
def kHd:Code->Code
 |.seq a _=>a
 |c=>c
def ahQ:Code->Nat
 |.region id _ _=>id
 |_=>0
def KO(c:Code)(i:Nat):Oper:=match c with
 |.region _ l _=>l.getD i default
 |_=>default
def uG{α β:Type}[DecidableEq α](xs:List (α×β))(df:β)(x:α):β:=match xs.find? (fun z=>decide (z.1=x))with
 |some z=>z.2
 |none=>df
theorem F7{n:Nat}(E:Ut)(sh:List (TypeId×List Sh))(l:ClS)(k:Nat){f:Nat}(fn:Func){ps rs:List U}[DecidableEq (Fl ps)][DecidableEq (Fl rs)](xs:List (Fl ps×Fl rs))
  (hf:prog.funcs[f]? = some fn) (a:(fn.name == "runtime.NumGoroutine")=false)
  (hb:fn.body=some (seqs (kLs k (fn.body.getD .skip)) (.seq (.region (ahQ (kHd (kRs k (fn.body.getD .skip)))) #[KO (kHd (kRs k (fn.body.getD .skip))) 0,KO (kHd (kRs k (fn.body.getD .skip))) 1] false) (kRs (k+1) (fn.body.getD .skip)))))
  (h1:(KO (kHd (kRs k (fn.body.getD .skip))) 0).op=.makeFunc (.func 36) #[] #[.tmp 6,.tmp 2,.tmp 3,.tmp 4]) (p:(KO (kHd (kRs k (fn.body.getD .skip))) 0).dst=some 22) (g1:(KO (kHd (kRs k (fn.body.getD .skip))) 0).guard=none) (h2:(KO (kHd (kRs k (fn.body.getD .skip))) 1).op=.defer ⟨.value (.tmp 22),#[],#[]⟩) (q:(KO (kHd (kRs k (fn.body.getD .skip))) 1).dst=none) (g2:(KO (kHd (kRs k (fn.body.getD .skip))) 1).guard=none)
  (i:Nat.blt 22 fn.ntmps=true) (d:Nat.ble ps.length fn.ntmps=true) (hc:(kLs k (fn.body.getD .skip)).all (fun c=>gS fn.ntmps c)=true) (j:gS fn.ntmps (kRs (k+1) (fn.body.getD .skip))=true)
  (df:Fl rs) (g:∀x∈xs,Em n (clE E sh l) fn (kLs k (fn.body.getD .skip)) (kRs (k+1) (fn.body.getD .skip)) ps rs x.1 (fun y=>decide (y=x.2))=true) :
  Cont prog f (lg ps rs (fun x=>∃y,(x,y)∈xs) (uG xs df)):=by
 refine F8 (E:=E) (cs:=clI l) (sh:=sh) (C4 E sh l) wh hf a (l:=(kLs k (fn.body.getD .skip)).map fun c=>(lE n c,c)) (an2:=lE n (kRs (k+1) (fn.body.getD .skip)))
  (id:=ahQ (kHd (kRs k (fn.body.getD .skip)))) (by rw[akA,show((fun x:An×Code=>x.2) ∘ fun c=>(lE n c,c))=id from rfl,List.map_id];exact hb) h1 p g1 h2 q g2 i d (by grind) j (fun x hp KK o=>?_)
 obtain⟨y,hy⟩:=hp;unfold uG at o;cases b:xs.find? (fun z=>decide (z.1=x))with
 |none=>grind
 |some z=>
  rw[b]at o;have r:z.1=x:=by grind
  have m:=g z (List.mem_of_find?_eq_some b)
  rw[r]at m;have hr:∀s,KN (clE E sh l).e.P fn.results.toList rs (fun y=>decide (y=z.2)) s=true->oZ (clE E sh l).e.P fn.results.toList rs KK s:=fun s h=>FJ (fun w hw=>by grind) h
  exact QD (w6 l) _ _ (fun s h'=>lD (w6 l) n _ _ ⟨hr,fun _ _ h=>(by cases h),hr⟩ h') hr m
end Go.Am
end
