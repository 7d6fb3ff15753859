/-
  ShowBack: what is shown is read as the program that it was, and what is read is shown in one way. The card's listed variables are tied to the program's text.
-/
import Derived.Test.YtlikflolhhlgjaaGreatDoorBa19
import Derived.Test.YtlikflolhhlgjaaGreatDoorRows
import Derived.Test.YtlikflolhhlgjaaGreatDoorCards
import Derived.Test.YtlikflolhhlgjaaGreatDoorTie
import Derived.ChangeMaps5
import Derived.Stop.Joined
import Derived.SevenTiedAt
set_option linter.unusedSimpArgs false
set_option linter.unusedVariables false
set_option linter.unusedSectionVars false
set_option linter.unnecessarySimpa false
section
namespace Go.Proofs.YtlikflolhhlgjaaGreatDoor
open Go.ChangeShapes Go.ChangeMaps Go.WideShapes Go.ChangeAt Go.WideMaps Go.WideElems Go.RowKit Go.Am
theorem ZH:ownKnob Tryz.prog.godebug=none:=by kernel_rfl
theorem aaO {W:World} (h:W.ShapedOpen Tryz.prog):∀ k,Xd=some k->∃ n m,Dv (snap W) m [.int .i64 n] k 0:=by
 intro k hk;obtain rfl:1=k:=by simpa [Xd] using hk
 exact U9 (t:=3) (zero:=#[.int .i64 0]) h (by decide +kernel) (by kernel_rfl) rfl (by kernel_rfl) (by kernel_rfl) (by kernel_rfl)
theorem GD {n:Int} (h:okI .i64 n):Lt.inR n:=by
 unfold okI at h;simp only [Lit.wf,ac9,decide_eq_true_eq] at h;have h1:IntKind.i64.min=-9223372036854775808:=by decide
 have h2:IntKind.i64.max=9223372036854775807:=by decide
 rw [h1,h2] at h;exact ⟨h.1,by omega⟩
theorem zv {a:Lt.Arg} (h:a.okr):a.ok:=GD h.2.2
theorem UP {i:Lt.Instr} (h:i.okr):i.ok:=
 ⟨fun a ha=>zv (h.2.2.2.1.2 a ha),fun f hf=>⟨by have:=(h.2.2.2.2.1.2 f hf).2.2.2.1; omega,fun b hb=>zv ((h.2.2.2.2.1.2 f hf).2.2.2.2 b hb).2⟩,fun o ho a ha=>zv ((h.2.2.2.2.2.2 o ho).2.2 a ha)⟩
theorem abF {x:Lt.Phi} (h:x.okr):x.ok:=⟨by have:=h.2.1; omega,fun i hi=>zv (h.2.2 i hi).2⟩
theorem W7 {t:Lt.Term} (h:t.okr):t.ok:=⟨zv h.2.1,GD h.2.2.2⟩
theorem Vr {b:Lt.Block} (h:b.okr):b.ok:=⟨fun x hx=>abF (h.2.1.2 x hx),fun i hi=>UP (h.2.2.1.2 i hi),W7 h.2.2.2⟩
theorem Pw {p:Lt.Program} (h:p.okr):p.ok:=fun f hf b hb=>Vr (((h.2.2.2.2.2 f hf).2.2.2.2.2) b hb)
theorem cG {s:List UInt8} (h:okS s):short s:=by unfold okS at h; unfold short; omega
theorem zk {v:Lt.Var} (h:v.okr):ic v:=⟨cG h.1,cG h.2⟩
theorem ve {a:Lt.Arg} (h:a.okr):cm a:=cG h.2.1
theorem QR {i:Lt.Instr} (h:i.okr):ej i:=
 ⟨cG h.2.1,cG h.2.2.1,fun a ha=>ve (h.2.2.2.1.2 a ha),fun f hf=>(fun (k:f.okr)=>⟨cG k.1,cG k.2.1,fun b hb=>⟨cG (k.2.2.2.2 b hb).1,ve (k.2.2.2.2 b hb).2⟩⟩) (h.2.2.2.2.1.2 f hf),fun o ho=>⟨cG (h.2.2.2.2.2.2 o ho).1,fun a ha=>ve ((h.2.2.2.2.2.2 o ho).2.2 a ha)⟩⟩
theorem Xg {x:Lt.Phi} (h:x.okr):jD x:=⟨cG h.1,fun i hi=>⟨cG (h.2.2 i hi).1,ve (h.2.2 i hi).2⟩⟩
theorem S6 {b:Lt.Block} (h:b.okr):cR b:=⟨cG h.1,ve h.2.2.2.2.1,fun t ht=>cG (h.2.2.2.2.2.1.2 t ht),fun x hx=>Xg (h.2.1.2 x hx),fun i hi=>QR (h.2.2.1.2 i hi)⟩
theorem TA {p:Lt.Program} (h:p.okr):U8 p:=
 ⟨fun c hc=>⟨cG (h.2.1.2 c hc).1,fun v hv=>zk ((h.2.1.2 c hc).2.2 v hv)⟩,fun v hv=>zk (h.2.2.1.2 v hv),fun e he=>cG (h.2.2.2.1.2 e he).1,
  fun f hf=>(fun (k:f.okr)=>⟨cG k.1,cG k.2.1,fun v hv=>zk (k.2.2.1.2 v hv),fun v hv=>zk (k.2.2.2.1.2 v hv),fun b hb=>S6 (k.2.2.2.2.2 b hb)⟩) (h.2.2.2.2.2 f hf)⟩
theorem UW {p:Lt.Program} (h:p.okr):Lt.Bv p:=by
 have he:∀ e∈p.Externs,Lt.inR e.N:=fun e he=>GD (h.2.2.2.1.2 e he).2
 have hn:∀ f∈p.Funcs,∀ b∈f.Blocks,∀ i∈b.Code,∀ r∈i.Frames,Lt.inR r.At:=fun f hf b hb i hi r hr=>
  GD ((((h.2.2.2.2.2 f hf).2.2.2.2.2 b hb).2.2.1.2 i hi).2.2.2.2.1.2 r hr).2.2.1
 exact ⟨Pw h,he,hn,TW (TA h) (Pw h) he hn⟩
theorem Mh:laidOutB Tryz.prog=true:=by kernel_rfl
theorem ZM (x:Lt.Program) (s:List UInt8):iP [.st .Program,.s] (x,s)=[.one (.agg (x.enc.map T.d)),.one (.c (.d (.str s)))]:=by
 obtain ⟨a,b,c,d,e⟩:=x;rfl
theorem Xu {W:World}:∀ k row,rT k=some row->∃ m,Dv (snap W) m row k 0:=fun k row hk=>by
 unfold rT at hk;split at hk <;> cases hk
theorem aaK (os:Os) (args:Array Value):laidMetH Tryz.prog Rows.showBackRow.laid ((World.laidAll Tryz.prog os Rows.showBackRow.laid).forCall (fun _ _=>0) ⟨#[],args,[]⟩).memory:=by
 rw [MakeChecks.laidMetH_plain _ _ _ (by kernel_rfl)]; exact laidMet_laidAll _ (by kernel_rfl) (by kernel_rfl)
set_option maxRecDepth 100000 in
theorem KU (os:Os) (started:os.Started) (H:Type) (enc:TypeId×Value->H) :
  ReturnsInHanded {} Tryz.checked os 5 .any (fun w args=>(Rows.showBackSpec.pre enc Tryz.prog Tryz.f5 [] false w args/\laidMetH Tryz.prog Rows.showBackRow.laid w)/\sizedMet enc Tryz.prog Tryz.f5 (OpenSpec.ofChange Rows.showBackSpec) false w args) (Rows.showBackSpec.post enc Tryz.prog Tryz.f5 false true false false):=by
 refine vl (C:=Tryz.checked) (X:=fun w _=>laidMetH Tryz.prog Rows.showBackRow.laid w) (fun _ _ _ hh h=>h.of_heap hh) ZH started (by kernel_rfl) Tryz.func5
  (ChangeSpec.witness_shaped (enc:=enc) (C:=Tryz.checked) (os:=os) (X:=fun w _=>laidMetH Tryz.prog Rows.showBackRow.laid w) false (World.laidAll Tryz.prog os Rows.showBackRow.laid) #[.agg #[.bool false,.slice none 0 0,.slice none 0 0,.slice none 0 0,.slice none 0 0],.string ⟨#[]⟩] 8 (World.laidAll_os _ _ _) (World.shaped_of_ZipB (by kernel_rfl) (by kernel_rfl)) (by kernel_rfl) (by kernel_rfl) (by kernel_rfl) (aaK os _)) ?_
 intro W base args ds gs before hval0 hW hsz0 hL hsh;have hsz:(DataW.weightsEach Tryz.prog (Tryz.f5.params.toList++Rows.showBackSpec.plain.varTypes Tryz.prog) (ds++gs)).all (·<=reachBytes)=true:=hsz0
 clear hsz0;have hval:∀ (j:Nat) t v,Tryz.f5.params[j]? = some t->args[j]? = some v->Value.okWide Tryz.prog W .any base t v:=hval0
 have hW':=hW
 obtain ⟨p,q,hA0,hV,rfl,_,_⟩:=hW;have hA:DataW.TrodAll enc Tryz.prog W 0 (fun _=>true) true Tryz.f5.params.toList args.toList ds p:=hA0
 have hlt:∀ x∈p++q,x.block<W.heap.size:=hW'.lt
 rw [Tryz.params5] at hA hval hsz;obtain ⟨v0,v1,d0,d1,p0,p1,rfl,rfl,rfl,h0,h1⟩:=trodAll_two hA;obtain ⟨rfl,rfl⟩:=trodVars_none hV;obtain ⟨cs,hv0,_⟩:=okWide_struct Tryz.underlying27 (hval 0 27 v0 rfl rfl);obtain ⟨s1,rfl,rfl,rfl,w1⟩:=open_string Tryz.underlying9 (hval 1 9 v1 rfl rfl) h1;clear hA0 hval0;simp only [aeO] at hW' hlt;obtain ⟨fuel,htr⟩:=h0;obtain ⟨pr,hok,hr,hl⟩:=C3 W H enc fuel _ _ htr (fun n hn=>by
  have:=adI.1 hsz n (DataW.weights_mem_each (j:=0) (t:=27) (d:=d0) rfl rfl n hn)
  simpa using this)
 have hpre:Lt.Bv pr:=UW hok
 have hl1:s1.data.toList.length<=140737488351232:=by
  have:=adI.1 hsz _ (DataW.weights_mem_each (P:=Tryz.prog) (j:=1) (t:=9) (d:=.lit (.string s1.data.toList)) rfl rfl s1.data.toList.length (by simp [DataW.weights]))
  have:=of_decide_eq_true this
  unfold reachBytes at this;exact this
 have hcall:=Mi (P:=Tryz.prog) (f:=5) (fn:=Tryz.f5) (c:=Tryz.f5.body.getD .skip) Tryz.func5 (by kernel_rfl) [v0,.string s1] [.one (.agg (pr.enc.map T.d)),.one (.c (.d (.str s1.data.toList)))] W (show 2<=Tryz.f5.ntmps by decide +kernel) rfl
  (fun i v hi=>by
   match i,hi with
   | 0,hi=>simp only [aeN,ac8] at hi; subst hi; exact ⟨_,rfl,SX hv0 hr hl⟩
   | 1,hi=>simp only [aeN,aeU,ac8] at hi; subst hi; exact ⟨_,rfl,SS hl1⟩
   | i+2,hi=>simp at hi)
  ⟨Xu,aaO hsh⟩
  (fun r=>r=o1 cB true)
  (fun g hg=>by
   have h1:=TM (K:=fun r=>r=o1 cB true) (KO) mixed (fn:=Tryz.f5) (an:=xL) (ps:=[.st .Program,.s]) (rs:=[.bo]) hg (by kernel_rfl) (x:=(pr,s1.data.toList)) (KK:=fun r=>r=true) (fun r h=>by subst h; rfl) (Eq.mp (CR pr s1.data.toList _) (FF pr s1.data.toList hpre _ rfl))
   rw [ZM] at h1;exact h1)
 refine hcall.mono fun e W' ⟨v,r,H',γ',m',he,hr',har,hb⟩=>?_
 subst he; subst hr';obtain rfl:=XT har;exact ⟨_,rfl,_,_,_,[],p0,[],hW',trodAll_mk1 (shut_bool Tryz.underlying4 true),(by have:=trodAll_mk2 (Below.trod Mh (by kernel_rfl) (of_decide_eq_true (by kernel_rfl)) ⟨fuel,htr⟩ hb (fun x hx=>hlt x hx)) (shut_string Tryz.underlying9 w1); rw [aeO] at this; exact this),rfl,hb.frame _,fun h=>by cases h⟩
theorem VW:Rows.ShowBackSaid:=
 OpenClaim.holds_of_wide 5 Tryz.f5 rfl rfl rfl rfl rfl rfl rfl ⟨rfl,rfl,rfl,rfl,rfl⟩ rfl rfl rfl rfl rfl (by kernel_rfl) Tryz.func5 (by kernel_rfl)
  (of_decide_eq_true (by kernel_rfl)) (by unfold Func.isWrapper; first | (rw [if_pos (by decide +kernel)]; kernel_rfl) | (rw [if_neg (by decide +kernel)]; exact ⟨rfl,rfl⟩))
  (fun os started H enc _=>KU os started H enc)
theorem back_holds:Rows.ShowBackCardSaid:=
 Claim7.holds_tied_plain_at .later [] [.data,.pinned] true (true, "9da83e1c6d76c49cf458950506eca06a17840cb35261018a01ae1822ddcfbe6f") true
  VW (fun _ h=>by cases h) (by kernel_rfl) (fun _ h=>by cases h) showBack_row_tie rfl ⟨rfl,rfl⟩ (by kernel_rfl) rfl
  (fun f fn hf hfn=>by
   obtain rfl:f=5:=Option.some.inj ((show Tryz.prog.funcNamed "lateen/lateenlaw06.ShowBack" = some 5 by kernel_rfl).symm.trans hf) |>.symm
   obtain rfl:fn=Tryz.f5:=(Option.some.inj (Tryz.func5.symm.trans hfn)).symm;exact ⟨by kernel_rfl,fun j t ht=>by
    rw [Tryz.params5] at ht;have hm:t∈[27,9]:=by simpa using Array.mem_of_getElem? ht
    have hall:([27,9].all fun u=>!Tryz.prog.wantsStandIn u)=true:=by kernel_rfl
    exact (show Tryz.prog.wantsStandIn t=false by simpa using adI.1 hall t hm)⟩)
  (by kernel_rfl)
end Go.Proofs.YtlikflolhhlgjaaGreatDoor
#print axioms Go.Proofs.YtlikflolhhlgjaaGreatDoor.back_holds
end
