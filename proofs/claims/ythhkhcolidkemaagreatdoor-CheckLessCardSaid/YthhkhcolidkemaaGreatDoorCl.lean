/-
  CheckLess: a source whose last function none of the others calls is a source without it. The card's listed variables are tied to the program's text.
-/
import Derived.Test.YthhkhcolidkemaaGreatDoorCl23
import Derived.Test.YthhkhcolidkemaaGreatDoorCards
import Derived.Test.YthhkhcolidkemaaGreatDoorTie
import Derived.ChangeMaps5
import Derived.Stop.Joined
import Derived.SevenTiedAt
set_option linter.unusedSimpArgs false
set_option linter.unusedVariables false
set_option linter.unusedSectionVars false
set_option linter.unnecessarySimpa false
open Lt
open Go.Proofs.Tryz
section
namespace Go.Proofs.YthhkhcolidkemaaGreatDoor
open Go.ChangeShapes Go.ChangeMaps Go.WideShapes Go.ChangeAt Go.WideMaps Go.WideElems Go.RowKit Go.Am
theorem Wm:ownKnob prog.godebug=none:=by kernel_rfl
theorem Wk {W:World} (h:W.ShapedOpen prog):∀ k,UO=some k->∃ n m,yW (snap W) m [.int .i64 n] k 0:=by
 intro k hk;obtain rfl:1=k:=by simpa [UO] using hk
 exact PS (t:=3) (zero:=#[.int .i64 0]) h (by decide +kernel) (by kernel_rfl) rfl (by kernel_rfl) (by kernel_rfl) (by kernel_rfl)
theorem Qo {n:Int} (h:okI .i64 n):Lt.inR n:=by
 unfold okI at h;simp only [Lit.wf,YV,decide_eq_true_eq] at h;have h1:IntKind.i64.min=-9223372036854775808:=by decide
 have h2:IntKind.i64.max=9223372036854775807:=by decide
 rw [h1,h2] at h;exact ⟨h.1,by omega⟩
theorem wI {a:Lt.Arg} (h:a.okr):a.ok:=Qo h.2.2
theorem Qp {i:Lt.Instr} (h:i.okr):i.ok:=
 ⟨fun a ha=>wI (h.2.2.2.1.2 a ha),fun f hf=>⟨by have:=(h.2.2.2.2.1.2 f hf).2.2.2.1; omega,fun b hb=>wI ((h.2.2.2.2.1.2 f hf).2.2.2.2 b hb).2⟩,fun o ho a ha=>wI ((h.2.2.2.2.2.2 o ho).2.2 a ha)⟩
theorem Wn {x:Lt.Phi} (h:x.okr):x.ok:=⟨by have:=h.2.1; omega,fun i hi=>wI (h.2.2 i hi).2⟩
theorem TG {t:Lt.Term} (h:t.okr):t.ok:=⟨wI h.2.1,Qo h.2.2.2⟩
theorem Qn {b:Lt.Block} (h:b.okr):b.ok:=⟨fun x hx=>Wn (h.2.1.2 x hx),fun i hi=>Qp (h.2.2.1.2 i hi),TG h.2.2.2⟩
theorem TE {p:Lt.Program} (h:p.okr):p.ok:=fun f hf b hb=>Qn (((h.2.2.2.2.2 f hf).2.2.2.2.2) b hb)
theorem bK {s:List UInt8} (h:okS s):short s:=by unfold okS at h; unfold short; omega
theorem vw {v:Lt.Var} (h:v.okr):GH v:=⟨bK h.1,bK h.2⟩
theorem q8 {a:Lt.Arg} (h:a.okr):yw a:=bK h.2.1
theorem No {i:Lt.Instr} (h:i.okr):yy i:=
 ⟨bK h.2.1,bK h.2.2.1,fun a ha=>q8 (h.2.2.2.1.2 a ha),fun f hf=>(fun (k:f.okr)=>⟨bK k.1,bK k.2.1,fun b hb=>⟨bK (k.2.2.2.2 b hb).1,q8 (k.2.2.2.2 b hb).2⟩⟩) (h.2.2.2.2.1.2 f hf),fun o ho=>⟨bK (h.2.2.2.2.2.2 o ho).1,fun a ha=>q8 ((h.2.2.2.2.2.2 o ho).2.2 a ha)⟩⟩
theorem TF {x:Lt.Phi} (h:x.okr):Vb x:=⟨bK h.1,fun i hi=>⟨bK (h.2.2 i hi).1,q8 (h.2.2 i hi).2⟩⟩
theorem Nn {b:Lt.Block} (h:b.okr):yx b:=⟨bK h.1,q8 h.2.2.2.2.1,fun t ht=>bK (h.2.2.2.2.2.1.2 t ht),fun x hx=>TF (h.2.1.2 x hx),fun i hi=>No (h.2.2.1.2 i hi)⟩
theorem Qq {p:Lt.Program} (h:p.okr):V4 p:=
 ⟨fun c hc=>⟨bK (h.2.1.2 c hc).1,fun v hv=>vw ((h.2.1.2 c hc).2.2 v hv)⟩,fun v hv=>vw (h.2.2.1.2 v hv),fun e he=>bK (h.2.2.2.1.2 e he).1,
  fun f hf=>(fun (k:f.okr)=>⟨bK k.1,bK k.2.1,fun v hv=>vw (k.2.2.1.2 v hv),fun v hv=>vw (k.2.2.2.1.2 v hv),fun b hb=>Nn (k.2.2.2.2.2 b hb)⟩) (h.2.2.2.2.2 f hf)⟩
theorem Wo {p:Lt.Program} (h:p.okr):MA p:=⟨TE h,fun hf=>Xb (Xo (Qq h) hf).1⟩
theorem I2:laidOutB prog=true:=by kernel_rfl
theorem Wj (x:Lt.Program):dN [.st .Program] x=[.one (.agg (x.enc.map T.d))]:=by
 obtain ⟨a,b,c,d,e⟩:=x;rfl
theorem TA {W:World}:∀ k row,pA k=some row->∃ m,yW (snap W) m row k 0:=fun k row hk=>by
 unfold pA at hk;split at hk <;> cases hk
theorem Wl (os:Os) (args:Array Value):laidMetH prog Rows.checkLessRow.laid ((World.laidAll prog os Rows.checkLessRow.laid).forCall (fun _ _=>0) ⟨#[],args,[]⟩).memory:=by
 rw [MakeChecks.laidMetH_plain _ _ _ (by kernel_rfl)]; exact laidMet_laidAll _ (by kernel_rfl) (by kernel_rfl)
set_option maxRecDepth 100000 in
theorem FT (os:Os) (started:os.Started) (H:Type) (enc:TypeId×Value->H) :
  ReturnsInHanded {} Tryz.checked os 5 .any (fun w args=>(Rows.checkLessSpec.pre enc prog f5 [] false w args/\laidMetH prog Rows.checkLessRow.laid w)/\sizedMet enc prog f5 (OpenSpec.ofChange Rows.checkLessSpec) false w args) (Rows.checkLessSpec.post enc prog f5 false true false false):=by
 refine rF (C:=Tryz.checked) (X:=fun w _=>laidMetH prog Rows.checkLessRow.laid w) (fun _ _ _ hh h=>h.of_heap hh) Wm started (by kernel_rfl) func5
  (ChangeSpec.witness_shaped (enc:=enc) (C:=Tryz.checked) (os:=os) (X:=fun w _=>laidMetH prog Rows.checkLessRow.laid w) false (World.laidAll prog os Rows.checkLessRow.laid) #[.agg #[.bool false,.slice none 0 0,.slice none 0 0,.slice none 0 0,.slice none 0 0]] 8 (World.laidAll_os _ _ _) (World.shaped_of_ZipB (by kernel_rfl) (by kernel_rfl)) (by kernel_rfl) (by kernel_rfl) (by kernel_rfl) (Wl os _)) ?_
 intro W base args ds gs before hval0 hW hsz0 hL hsh;have hsz:(DataW.weightsEach prog (f5.params.toList++Rows.checkLessSpec.plain.varTypes prog) (ds++gs)).all (·<=reachBytes)=true:=hsz0
 clear hsz0;have hval:∀ (j:Nat) t v,f5.params[j]? = some t->args[j]? = some v->Value.okWide prog W .any base t v:=hval0
 have hW':=hW
 obtain ⟨p,q,hA0,hV,rfl,_,_⟩:=hW;have hA:DataW.TrodAll enc prog W 0 (fun _=>true) true f5.params.toList args.toList ds p:=hA0
 have hlt:∀ x∈p++q,x.block<W.heap.size:=hW'.lt
 rw [Tryz.params5] at hA hval hsz;obtain ⟨v0,d0,rfl,rfl,h0⟩:=trodAll_one hA;obtain ⟨rfl,rfl⟩:=trodVars_none hV;obtain ⟨cs,hv0,_⟩:=okWide_struct underlying27 (hval 0 27 v0 rfl rfl);clear hA0 hval0;simp only [List.append_nil] at hW' hlt;obtain ⟨fuel,htr⟩:=h0;obtain ⟨pr,hok,hr,hl⟩:=yX W H enc fuel _ _ htr (fun n hn=>by
  have:=Y6.1 hsz n (DataW.weights_mem_each (j:=0) (t:=27) (d:=d0) rfl rfl n hn)
  simpa using this)
 have hpre:=Wo hok
 have hcall:=Is (P:=prog) (f:=5) (fn:=f5) (c:=f5.body.getD .skip) func5 (by kernel_rfl) [v0] [.one (.agg (pr.enc.map T.d))] W (show 1<=f5.ntmps by decide +kernel) rfl
  (fun i v hi=>by
   match i,hi with
   | 0,hi=>simp only [Zu,YT] at hi; subst hi; exact ⟨_,rfl,MP hv0 hr hl⟩
   | i+1,hi=>simp at hi)
  ⟨TA,Wk hsh⟩
  (fun r=>r=o1 cB true)
  (fun g hg=>by
   have h1:=vQ (K:=fun r=>r=o1 cB true) (B8) mixed (fn:=f5) (an:=q9) (ps:=[.st .Program]) (rs:=[.bo]) hg (by kernel_rfl) (x:=pr) (KK:=fun r=>r=true) (fun r h=>by subst h; rfl) (Eq.mp (yN pr _) (zh pr hpre _ rfl))
   rw [Wj] at h1;exact h1)
 refine hcall.mono fun e W' ⟨v,r,H',γ',m',he,hr',har,hb⟩=>?_
 subst he; subst hr';obtain rfl:=Te har;exact ⟨_,rfl,_,_,_,[],p,[],hW',trodAll_mk1 (shut_bool underlying4 true),(trodAll_mk1 (Below.trod I2 (by kernel_rfl) (of_decide_eq_true (by kernel_rfl)) ⟨fuel,htr⟩ hb (fun x hx=>hlt x hx))),rfl,hb.frame _,fun h=>by cases h⟩
theorem RL:Rows.CheckLessSaid:=
 OpenClaim.holds_of_wide 5 f5 rfl rfl rfl rfl rfl rfl rfl ⟨rfl,rfl,rfl,rfl,rfl⟩ rfl rfl rfl rfl rfl (by kernel_rfl) func5 Nl
  (of_decide_eq_true (by kernel_rfl)) (by unfold Func.isWrapper; first | (rw [if_pos (by decide +kernel)]; kernel_rfl) | (rw [if_neg (by decide +kernel)]; exact ⟨rfl,rfl⟩))
  (fun os started H enc _=>FT os started H enc)
theorem less_holds:Rows.CheckLessCardSaid:=
 Claim7.holds_tied_plain_at .later [] [.data,.pinned] true (true, "49708c2375af96dae238f86cc59608cfcf90c4649586e84e779c099bc4358686") true
  RL (fun _ h=>by cases h) (by kernel_rfl) (fun _ h=>by cases h) checkLess_row_tie rfl ⟨rfl,rfl⟩ (by kernel_rfl) rfl
  (fun f fn hf hfn=>by
   obtain rfl:f=5:=Option.some.inj ((show prog.funcNamed "lateen/lateenlaw14.CheckLess" = some 5 by kernel_rfl).symm.trans hf) |>.symm
   obtain rfl:fn=f5:=(Option.some.inj (func5.symm.trans hfn)).symm;exact ⟨by kernel_rfl,fun j t ht=>by
    rw [Tryz.params5] at ht;have hm:t∈[27]:=by simpa using Array.mem_of_getElem? ht
    have hall:([27].all fun u=>!prog.wantsStandIn u)=true:=by kernel_rfl
    exact (show prog.wantsStandIn t=false by simpa using Y6.1 hall t hm)⟩)
  (by kernel_rfl)
end Go.Proofs.YthhkhcolidkemaaGreatDoor
#print axioms Go.Proofs.YthhkhcolidkemaaGreatDoor.less_holds
end
