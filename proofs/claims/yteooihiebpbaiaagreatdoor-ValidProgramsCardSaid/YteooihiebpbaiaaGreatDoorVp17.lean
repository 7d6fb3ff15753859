/-
  Part 17: AmClo · AmB4.
-/
import Derived.Test.YteooihiebpbaiaaGreatDoorVp16
import Derived.Recover
set_option linter.unusedSimpArgs false
set_option linter.unusedVariables false
set_option linter.unusedSectionVars false
set_option linter.unnecessarySimpa false
open Go.Proofs.Tryz
section
namespace Go.Am
open Go Go.RowKit Go.Proofs
def Uy(cs:List Frame):Value×List Frame:=match recoverD cs with
 |some (v,a)=>(v,a)
 |none=>(.nilIface,cs)
variable{a:Act}{id:Nat}
theorem aeD{P:Program}{Q:Exit->Act->List Frame->World->Prop}{o0 o1:Oper}{d:Nat}{cs:List Frame}{w:World}(h0:o0.op=.call ⟨.builtin .recover,#[],#[]⟩)(h1:o1.op=.assign (.tmp d))(e:o0.guard=none)(g1:o1.guard=none)
  (h:Q .normal ((a.put o0.dst (Uy cs).1).put o1.dst ((a.put o0.dst (Uy cs).1).eval (.tmp d))) (Uy cs).2 w):(Code.region id #[o0,o1] false).wpS P Q a cs w:=by
 refine wpS_region ?_;show wpOpsS _ _ _ [0,1] _ _ _
 have e0:∀a:Act,(execOp a.eval o0).run P w=.ok .recover w:=λa=>by unfold execOp;rw[h0];rfl
 have c:∀a:Act,(execOp a.eval o1).run P w=.ok (.value (a.eval (.tmp d))) w:=λa=>by simp_all[execOp]
 have i:(#[o0,o1]:Array Oper)[0]? = some o0:=rfl
 have g:(#[o0,o1]:Array Oper)[1]? = some o1:=rfl
 have w0:∀f,Region.wanted o0 f=true:=λf=>by simp[Region.wanted,e]
 have w1:∀f,Region.wanted o1 f=true:=λf=>by simp[Region.wanted,g1]
 have fin:∀v b,Q .normal ((a.put o0.dst v).put o1.dst ((a.put o0.dst v).eval (.tmp d))) b w->wpOpsS P #[o0,o1] Q [1] (a.put o0.dst v) b w:=by intro v b hq;unfold wpOpsS;rw[g];dsimp only;rw[if_pos (w1 _),c];exact hq
 grind [wpOpsS,Uy]
theorem ah8{P:Program}{c:Code}{Q:Exit->Act->World->Prop}{w:World}(b:Act)(h:a=b)(hb:c.wp P Q b w):c.wp P Q a w:=h ▸ hb
theorem abO(f b d c:Value)(w:World):CallsD prog 33 #[f,b,d,c] .returning w λe u' w'=>(∃v,e=.returned v)/\u'=.returning/\w'=w:=by
 refine callsD_of_wpS func33 rfl (λa cs hc=>?_);refine wpS_seq (aeD rfl rfl rfl rfl ?_);have hr:Uy (a::cs)=(.nilIface,a::cs):=by simp[Uy,recoverD,hc]
 rw[hr];refine wpS_of_wp ?_;refine ah8 { tmps:=#[f,b,d,c,.nilIface,undef,undef,.nilIface,undef,undef,undef,undef,undef,undef,undef,undef,undef,undef,undef,undef,undef,undef,undef,undef,undef],defers:=[] } kQ0 ?_
 go_wp2
 exact⟨rfl,a.mode,rfl,.tuple #[],(by simp_all[lr]),⟨_,rfl⟩,hc,rfl⟩
section
variable {P:Program} {g:G} {Q:Exit->S->Prop}
def kT:Code->Code|.cond _ a _=>a|c=>c
end
def seqs:List Code->Code->Code
 |[],c=>c
 |a::l,c=>.seq a (seqs l c)
def ZB(e:En):List (An×Code)->St->(St->Prop)->(St->Prop)->Prop
 |[],s,k,_=>k s
 |x::l,s,k,r=>wpT e x.1 x.2 s ⟨λs'=>ZB e l s' k r,λ_ _=>False,r⟩
variable{rest:Code}
theorem ZD{e:En}(n:e.ok)(hm:e.P.follows .mixedOrders=true){g:G}{b:Exit->Act->World->Prop}{k r:St->Prop}(m:∀v s,¬ e.pk v s)
  (hk:∀(t:St)a w,k t->R g t.toS a w->rest.wp e.P b a w) (hr:∀(t:St)a w,r t->R g t.toS a w->b .ret a w) :
  ∀(l:List (An×Code))(s:St),l.all (λx=>ii g.nt x.2)=true->ZB e l s k r->∀a w,R g s.toS a w->(seqs (l.map (·.2)) rest).wp e.P b a w
 |[],s,_,h,a,w,j=>hk s a w h j
 |x::l,s,hc,h,a,w,j=>by
  rw[ak2,akP]at hc;refine wp_seq (Code.wp_mono (λy a' w' hl=>?_) (sy n hm x.2 x.1 s _ hc.1 h a w j));obtain⟨s',hq,d⟩:=hl;cases y with
  |normal=>obtain⟨t,rfl,f⟩:=hq;exact ZD n hm m hk hr l t hc.2 f a' w' d
  |ret=>obtain⟨t,rfl,f⟩:=hq;exact hr t a' w' f d
  |exit i=>obtain⟨t,rfl,f⟩:=hq;grind
  |panic c=>obtain⟨v,t,rfl,rfl,hv⟩:=hq;grind
  |_=>exact hq.elim
theorem ZC{P:Program}{Q:Exit->Act->World->Prop}{b c:Nat}{caps:Array Operand}{o1 o2:Oper}{w:World}(h1:o1.op=.makeFunc (.func c) #[] caps)(j:o1.dst=some b)(g1:o1.guard=none)
  (h2:o2.op=.defer ⟨.value (.tmp b),#[],#[]⟩) (g:o2.dst=none) (g2:o2.guard=none) (d:b<a.tmps.size)
  (h:Q .normal { a.put (some b) (.func (.func c) #[] (caps.map a.eval))with defers:=⟨.fn (.func c) (caps.map a.eval),#[]⟩::a.defers } w):(Code.region id #[o1,o2] false).wp P Q a w:=by
 refine wp_region_lit (l:=[o1,o2]) ?_;refine wpList_plain g1 (λK e=>?_);have i:(execOp a.eval o1).run P w=.ok (.value (.func (.func c) #[] (caps.map a.eval))) w:=by simp_all[execOp,Instr.makeFunc]
 unfold Oper.wp;rw[i,Oper.upon_value,j];refine e _ _ ?_;refine wpList_plain g2 (λK e=>?_);have ev:(a.put (some b) (.func (.func c) #[] (caps.map a.eval))).eval (.tmp b)=.func (.func c) #[] (caps.map a.eval):=by
  show((a.tmps.setIfInBounds b _).getD b undef)=_
  simp[d]
 have f:(execOp (a.put (some b) (.func (.func c) #[] (caps.map a.eval))).eval o2).run P w=.ok (.defer ⟨.fn (.func c) (caps.map a.eval),#[]⟩) w:=by simp_all[execOp,resolve,Deferred.ofValue]
 unfold Oper.wp;rw[f,Oper.upon_defer,g];exact e _ _ h
theorem Gy{E:Ut}{cs:CTt}{sh:List (TypeId×List Sh)}(V:(⟨prog,E,cs,sh,noP⟩:En).ok)(hm:prog.follows .mixedOrders=true){f:Nat}{fn:Func}(hf:prog.funcs[f]? = some fn) (B:(fn.name == "runtime.NumGoroutine")=false) {l:List (An×Code)} {an2:An}  {o1 o2:Oper} 
  (hb:fn.body=some (seqs (l.map (·.2)) (.seq (.region id #[o1,o2] false) rest))) (h1:o1.op=.makeFunc (.func 33) #[] #[.tmp 6,.tmp 2,.tmp 3,.tmp 4]) (d1:o1.dst=some 22) (g1:o1.guard=none) (h2:o2.op=.defer ⟨.value (.tmp 22),#[],#[]⟩) (d2:o2.dst=none) (g2:o2.guard=none)
  (aa:Nat.blt 22 fn.ntmps=true) {ps rs:List U} {pre:Fl ps->Prop} {Fn:Fl ps->Fl rs} (I:Nat.ble ps.length fn.ntmps=true) (hc:l.all (λx=>ii fn.ntmps x.2)=true) (M:ii fn.ntmps rest=true)
  (T:∀x,pre x->∀KK:Fl rs->Prop,KK (Fn x)->ZB ⟨prog,E,cs,sh,noP⟩ l (EW ps x) (λs=>wpT ⟨prog,E,cs,sh,noP⟩ an2 rest (s.put (some 22) .any) ⟨pq prog fn.results.toList rs KK,λ_ _=>False,pq prog fn.results.toList rs KK⟩) (pq prog fn.results.toList rs KK)):Cont prog f (lk ps rs pre Fn):=by
 refine Ep (λ_ _ _ _ h h'=>⟨h'.1,h _ h'.2⟩) (wP hf B (by grind)) λx K KP args w H γ hp hl ha W O=>?_
 have hX0:=Ip (F1:=λ_ _=>0) O W hl ha (nt:=fn.ntmps) (akZ I)
 generalize hPo:(λ(e:Ending) (w':World)=>∃G tt,Fr w H (λ_=>0) w' G tt/\(∀b o y,G b o=some y->RdV w' b o y)/\((∃r y,e=.returned r/\K y/\AR w' G γ [] (dp rs y).toV r)\/∃v,e=.panicked (chn v)/\KP v))=Po;have fin:∀(ds:List Deferred)(t:St)(a':Act)(w':World),pq prog fn.results.toList rs K t->R ⟨fn.ntmps,w,H,λ_=>0,λ_=>none,none,ds⟩ t.toS a' w' ->
   ∃v,(results fn a'.tmps).run prog w'=.ok v w'/\Po (.returned v) w':=by
  grind [Q4]
 refine calls_of_wp_defers hf hb (ZD (e:=⟨prog,E,cs,sh,noP⟩) (g:=⟨fn.ntmps,w,H,λ_=>0,λ_=>none,none,[]⟩) V hm (λ_ _ h=>h) (λt j w1 m J=>?_) (λt j w1 m J=>?_) l _ hc (T x hp.1 K hp.2) _ w ⟨H,γ,_,hX0⟩)
 rotate_left
 .obtain⟨v,p,L⟩:=fin _ t j w1 m J;obtain⟨_,_,_,k⟩:=J;show Leaves prog fn j.tmps _ j.defers .returning w1
  rw[show j.defers=[]from k.df.1];exact⟨v,p,L⟩
 obtain⟨G,Q,Y,k⟩:=J;have Z:j.tmps.size=fn.ntmps:=k.nt
 refine wp_seq (ZC h1 d1 g1 h2 d2 g2 (by simp_all) ?_);rw[show(#[.tmp 6,.tmp 2,.tmp 3,.tmp 4]:Array Operand).map j.eval=#[j.eval (.tmp 6),j.eval (.tmp 2),j.eval (.tmp 3),j.eval (.tmp 4)]from by simp];generalize j.eval (.tmp 6)=z;generalize j.eval (.tmp 2)=n;generalize j.eval (.tmp 3)=q2;generalize j.eval (.tmp 4)=A;have F:=bJ (aQ _ _ _) (k.put (d:=some 22) (by show decide (22<fn.ntmps)=true;simp_all) (v:=(At.any).toV) (y:=.func (.func 33) #[] #[z,n,q2,A]) trivial)
 have X:RX ⟨fn.ntmps,w,H,λ_=>0,λ_=>none,none,[⟨.fn (.func 33) #[z,n,q2,A],#[]⟩]⟩ (t.put (some 22) .any).toS { j.put (some 22) (.func (.func 33) #[] #[z,n,q2,A])with defers:=⟨.fn (.func 33) #[z,n,q2,A],#[]⟩::j.defers } w1 G Q Y:=⟨F.mem,F.fr,F.nt,⟨by rw[show j.defers=[]from k.df.1],F.df.2⟩,F.t⟩
 refine Code.wp_mono (λy a' w' hl=>?_) (sy (e:=⟨prog,E,cs,sh,noP⟩) V hm rest an2 _ _ M m _ _ ⟨_,_,_,X⟩);obtain⟨s',hq,C⟩:=hl;have S:a'.defers=[⟨.fn (.func 33) #[z,n,q2,A],#[]⟩]:=by obtain⟨_,_,_,hX'⟩:=C;exact hX'.df.1
 have D:(invoke (.fn (.func 33) #[z,n,q2,A]) #[]).run prog w'=.ok (.enter 33 #[z,n,q2,A]) w':=by
  have:=wP (P:=prog) (fn:=f33) (f:=33) kQ0 (by rfl) (by rfl) #[z,n,q2,A] w'
  grind [invoke]
 have q:∀t:St,s'=t.toS->pq prog fn.results.toList rs K t->Leaves prog fn a'.tmps Po a'.defers .returning w':=by
  rintro t rfl m
  rw[S];refine⟨by simp,_,_,33,_,rfl,D,(abO _ _ _ _ w').mono ?_⟩;rintro e u' N ⟨⟨v,rfl⟩,rfl,rfl⟩
  obtain⟨v,p,L⟩:=fin _ t a' N m C;exact⟨v,p,L⟩
 cases y with
 |normal=>obtain⟨t,p,m⟩:=hq;exact q t p m
 |ret=>obtain⟨t,p,m⟩:=hq;exact q t p m
 |exit i=>obtain⟨t,p,m⟩:=hq;grind
 |panic c=>obtain⟨_,_,_,_,hf⟩:=hq;grind
 |_=>exact hq.elim
def aeC(n:Nat)(b:EnB):List Code->St->(St->Bool)->(St->Bool)->Bool
 |[],s,k,_=>k s
 |c::l,s,k,r=>wpB n b c s ⟨λs'=>aeC n b l s' k r,λ_ _=>false,r⟩
def MB(n:Nat)(b:EnB)(fn:Func)(l:List Code)(rest:Code)(ps rs:List U)(x:Fl ps)(KK:Fl rs->Bool):Bool:=aeC n b l (EW ps x) (λs=>wpB n b rest (s.put (some 22) .any) ⟨Lg b.e.P fn.results.toList rs KK,λ_ _=>false,Lg b.e.P fn.results.toList rs KK⟩) (Lg b.e.P fn.results.toList rs KK)
theorem Rf{n:Nat}{b:EnB}(hc:GA b.cs b.e.cs){pk:PKt}:∀(l:List Code)(s:St){kb a:St->Bool}{k r:St->Prop},(∀s,kb s=true->k s)->(∀s,a s=true->r s)->aeC n b l s kb a=true->ZB (b.w pk) (l.map λc=>(lH n c,c)) s k r
 |[],s,_,_,_,_,hk,_,h=>hk s h
 |c::l,s,kb,a,k,r,hk,hr,h=>lG hc n c s (Kb:=⟨λs'=>aeC n b l s' kb a,λ_ _=>false,a⟩) (K:=⟨λs'=>ZB (b.w pk) (l.map λc=>(lH n c,c)) s' k r,λ_ _=>False,r⟩) ⟨λs' h'=>Rf hc l s' hk hr h',λ_ _ h=>(by cases h),hr⟩ h
def kLs:Nat->Code->List Code
 |0,_=>[]
 |n+1,.seq a b=>a::kLs n b
 |_+1,_=>[]
def kRs:Nat->Code->Code
 |0,c=>c
 |n+1,.seq _ b=>kRs n b
 |_+1,c=>c
def kHd:Code->Code
 |.seq a _=>a
 |c=>c
def ai9:Code->Nat
 |.region id _ _=>id
 |_=>0
def Lh(c:Code)(i:Nat):Oper:=match c with
 |.region _ l _=>l.getD i default
 |_=>default
def uS{α β:Type}[DecidableEq α](xs:List (α×β))(df:β)(x:α):β:=match xs.find? (λz=>decide (z.1=x))with
 |some z=>z.2
 |none=>df
theorem Gx{n:Nat}(E:Ut)(sh:List (TypeId×List Sh))(l:ClS)(k:Nat){f:Nat}(fn:Func){ps rs:List U}[DecidableEq (Fl ps)][DecidableEq (Fl rs)](xs:List (Fl ps×Fl rs))
  (hf:prog.funcs[f]? = some fn) (a:(fn.name == "runtime.NumGoroutine")=false)
  (hb:fn.body=some (seqs (kLs k (fn.body.getD .skip)) (.seq (.region (ai9 (kHd (kRs k (fn.body.getD .skip)))) #[Lh (kHd (kRs k (fn.body.getD .skip))) 0,Lh (kHd (kRs k (fn.body.getD .skip))) 1] false) (kRs (k+1) (fn.body.getD .skip)))))
  (h1:(Lh (kHd (kRs k (fn.body.getD .skip))) 0).op=.makeFunc (.func 33) #[] #[.tmp 6,.tmp 2,.tmp 3,.tmp 4]) (q:(Lh (kHd (kRs k (fn.body.getD .skip))) 0).dst=some 22) (g1:(Lh (kHd (kRs k (fn.body.getD .skip))) 0).guard=none) (h2:(Lh (kHd (kRs k (fn.body.getD .skip))) 1).op=.defer ⟨.value (.tmp 22),#[],#[]⟩) (p:(Lh (kHd (kRs k (fn.body.getD .skip))) 1).dst=none) (g2:(Lh (kHd (kRs k (fn.body.getD .skip))) 1).guard=none)
  (i:Nat.blt 22 fn.ntmps=true) (b:Nat.ble ps.length fn.ntmps=true) (hc:(kLs k (fn.body.getD .skip)).all (λc=>ii fn.ntmps c)=true) (j:ii fn.ntmps (kRs (k+1) (fn.body.getD .skip))=true)
  (df:Fl rs) (d:∀x∈xs,MB n (clE E sh l) fn (kLs k (fn.body.getD .skip)) (kRs (k+1) (fn.body.getD .skip)) ps rs x.1 (λy=>decide (y=x.2))=true) :
  Cont prog f (lk ps rs (λx=>∃y,(x,y)∈xs) (uS xs df)):=by
 refine Gy (E:=E) (cs:=clI l) (sh:=sh) (Di E sh l) wz hf a (l:=(kLs k (fn.body.getD .skip)).map λc=>(lH n c,c)) (an2:=lH n (kRs (k+1) (fn.body.getD .skip)))
  (id:=ai9 (kHd (kRs k (fn.body.getD .skip)))) (by rw[al3,show((λx:An×Code=>x.2) ∘ λc=>(lH n c,c))=id from rfl,List.map_id];exact hb) h1 q g1 h2 p g2 i b (by grind) j (λx hp KK o=>?_)
 obtain⟨y,hy⟩:=hp;unfold uS at o;cases g:xs.find? (λz=>decide (z.1=x))with
 |none=>grind
 |some z=>
  rw[g]at o;have r:z.1=x:=by grind
  have m:=d z (List.mem_of_find?_eq_some g)
  rw[r]at m;have hr:∀s,Lg (clE E sh l).e.P fn.results.toList rs (λy=>decide (y=z.2)) s=true->pq (clE E sh l).e.P fn.results.toList rs KK s:=λs h=>Gc (λw hw=>by grind) h
  exact Rf (xn l) _ _ (λs h'=>lG (xn l) n _ _ ⟨hr,λ_ _ h=>(by cases h),hr⟩ h') hr m
end Go.Am
end
