/-
  SplitNone: a function that is split has no critical ways, its shape is right, its phis are, if they were, and splitting it again changes nothing. The card's listed variables are tied to the program's text.
-/
import Derived.Test.YtjccmeppajblpaaGreatDoorSn21
import Derived.Test.YtjccmeppajblpaaGreatDoorRows
import Derived.Test.YtjccmeppajblpaaGreatDoorCards
import Derived.Test.YtjccmeppajblpaaGreatDoorTie
import Derived.ChangeMaps5
import Derived.Stop.Joined
import Derived.SevenTiedAt
set_option linter.unusedSimpArgs false
set_option linter.unusedVariables false
set_option linter.unusedSectionVars false
set_option linter.unnecessarySimpa false
section
namespace Go.Proofs.YtjccmeppajblpaaGreatDoor
open Go.ChangeShapes Go.ChangeMaps Go.WideShapes Go.ChangeAt Go.WideMaps Go.WideElems Go.RowKit Go.Am
theorem P7:ownKnob Tryz.prog.godebug=none:=by kernel_rfl
theorem Rd {W:World} (h:W.ShapedOpen Tryz.prog):∀ k,N5=some k->∃ n m,we (snap W) m [.int .i64 n] k 0:=by
 intro k hk;obtain rfl:1=k:=by simpa [N5] using hk
 exact Lk (t:=3) (zero:=#[.int .i64 0]) h (by decide +kernel) (by kernel_rfl) rfl (by kernel_rfl) (by kernel_rfl) (by kernel_rfl)
theorem Le {n:Int} (h:okI .i64 n):Lt.inR n:=by
 unfold okI at h;simp only [Lit.wf,SL,decide_eq_true_eq] at h;have h1:IntKind.i64.min=-9223372036854775808:=by decide
 have h2:IntKind.i64.max=9223372036854775807:=by decide
 rw [h1,h2] at h;exact ⟨h.1,by omega⟩
theorem tC {a:Lt.Arg} (h:a.okr):a.ok:=Le h.2.2
theorem Ml {i:Lt.Instr} (h:i.okr):i.ok:=
 ⟨fun a ha=>tC (h.2.2.2.1.2 a ha),fun f hf=>⟨by have:=(h.2.2.2.2.1.2 f hf).2.2.2.1; omega,fun b hb=>tC ((h.2.2.2.2.1.2 f hf).2.2.2.2 b hb).2⟩,fun o ho a ha=>tC ((h.2.2.2.2.2.2 o ho).2.2 a ha)⟩
theorem Q6 {x:Lt.Phi} (h:x.okr):x.ok:=⟨by have:=h.2.1; omega,fun i hi=>tC (h.2.2 i hi).2⟩
theorem NU {t:Lt.Term} (h:t.okr):t.ok:=⟨tC h.2.1,Le h.2.2.2⟩
theorem Md {b:Lt.Block} (h:b.okr):b.ok:=⟨fun x hx=>Q6 (h.2.1.2 x hx),fun i hi=>Ml (h.2.2.1.2 i hi),NU h.2.2.2⟩
theorem cg {s:List UInt8} (h:okS s):short s:=by unfold okS at h; unfold short; omega
theorem GG {v:Lt.Var} (h:v.okr):Ka v:=⟨cg h.1,cg h.2⟩
theorem py {a:Lt.Arg} (h:a.okr):tJ a:=cg h.2.1
theorem Ip {i:Lt.Instr} (h:i.okr):sQ i:=
 ⟨cg h.2.1,cg h.2.2.1,fun a ha=>py (h.2.2.2.1.2 a ha),fun f hf=>(fun (k:f.okr)=>⟨cg k.1,cg k.2.1,fun b hb=>⟨cg (k.2.2.2.2 b hb).1,py (k.2.2.2.2 b hb).2⟩⟩) (h.2.2.2.2.1.2 f hf),fun o ho=>⟨cg (h.2.2.2.2.2.2 o ho).1,fun a ha=>py ((h.2.2.2.2.2.2 o ho).2.2 a ha)⟩⟩
theorem Pd {x:Lt.Phi} (h:x.okr):Oq x:=⟨cg h.1,fun i hi=>⟨cg (h.2.2 i hi).1,py (h.2.2 i hi).2⟩⟩
theorem IL {b:Lt.Block} (h:b.okr):tc b:=⟨cg h.1,py h.2.2.2.2.1,fun t ht=>cg (h.2.2.2.2.2.1.2 t ht),fun x hx=>Pd (h.2.1.2 x hx),fun i hi=>Ip (h.2.2.1.2 i hi)⟩
theorem QZ {f:Lt.Func} (h:f.okr):Lt.PN f:=by
 have hs:Px f:=⟨cg h.1,cg h.2.1,fun v hv=>GG (h.2.2.1.2 v hv),fun v hv=>GG (h.2.2.2.1.2 v hv),fun b hb=>IL (h.2.2.2.2.2 b hb)⟩
 refine ⟨fun b hb=>Md (h.2.2.2.2.2 b hb),fun hf=>?_⟩;have h1:L2 f<=3000:=by
  have:=It f hs
  unfold Pc at this;omega
 unfold L2 B2 at h1;omega
theorem E0:laidOutB Tryz.prog=true:=by kernel_rfl
theorem PW (x:Lt.Func):eM [.st .Func] x=[.one (.agg (x.enc.map T.d))]:=by
 obtain ⟨a,b,c,d,e⟩:=x;rfl
theorem NS {W:World}:∀ k row,ng k=some row->∃ m,we (snap W) m row k 0:=fun k row hk=>by
 unfold ng at hk;split at hk <;> cases hk
theorem Qz (os:Os) (args:Array Value):laidMetH Tryz.prog Rows.splitNoneRow.laid ((World.laidAll Tryz.prog os Rows.splitNoneRow.laid).forCall (fun _ _=>0) ⟨#[],args,[]⟩).memory:=by
 rw [MakeChecks.laidMetH_plain _ _ _ (by kernel_rfl)]; exact laidMet_laidAll _ (by kernel_rfl) (by kernel_rfl)
set_option maxRecDepth 100000 in
theorem Ce (os:Os) (started:os.Started) (H:Type) (enc:TypeId×Value->H) :
  ReturnsInHanded {} Tryz.checked os 4 .any (fun w args=>(Rows.splitNoneSpec.pre enc Tryz.prog Tryz.f4 [] false w args/\laidMetH Tryz.prog Rows.splitNoneRow.laid w)/\sizedMet enc Tryz.prog Tryz.f4 (OpenSpec.ofChange Rows.splitNoneSpec) false w args) (Rows.splitNoneSpec.post enc Tryz.prog Tryz.f4 false true false false):=by
 refine pi (C:=Tryz.checked) (X:=fun w _=>laidMetH Tryz.prog Rows.splitNoneRow.laid w) (fun _ _ _ hh h=>h.of_heap hh) P7 started (by kernel_rfl) Tryz.func4
  (ChangeSpec.witness_shaped (enc:=enc) (C:=Tryz.checked) (os:=os) (X:=fun w _=>laidMetH Tryz.prog Rows.splitNoneRow.laid w) false (World.laidAll Tryz.prog os Rows.splitNoneRow.laid) #[.agg #[.string ⟨#[]⟩,.string ⟨#[]⟩,.slice none 0 0,.slice none 0 0,.slice none 0 0]] 8 (World.laidAll_os _ _ _) (World.shaped_of_ZipB (by kernel_rfl) (by kernel_rfl)) (by kernel_rfl) (by kernel_rfl) (by kernel_rfl) (Qz os _)) ?_
 intro W base args ds gs before hval0 hW hsz0 hL hsh;have hsz:(DataW.weightsEach Tryz.prog (Tryz.f4.params.toList++Rows.splitNoneSpec.plain.varTypes Tryz.prog) (ds++gs)).all (·<=reachBytes)=true:=hsz0
 clear hsz0;have hval:∀ (j:Nat) t v,Tryz.f4.params[j]? = some t->args[j]? = some v->Value.okWide Tryz.prog W .any base t v:=hval0
 have hW':=hW
 obtain ⟨p,q,hA0,hV,rfl,_,_⟩:=hW;have hA:DataW.TrodAll enc Tryz.prog W 0 (fun _=>true) true Tryz.f4.params.toList args.toList ds p:=hA0
 have hlt:∀ x∈p++q,x.block<W.heap.size:=hW'.lt
 rw [Tryz.params4] at hA hval hsz;obtain ⟨v0,d0,rfl,rfl,h0⟩:=trodAll_one hA;obtain ⟨rfl,rfl⟩:=trodVars_none hV;obtain ⟨cs,hv0,_⟩:=okWide_struct Tryz.underlying25 (hval 0 25 v0 rfl rfl);clear hA0 hval0;simp only [TV] at hW' hlt;obtain ⟨fuel,htr⟩:=h0;obtain ⟨pr,hok,hr,hl⟩:=EQ W H enc fuel _ _ htr (fun n hn=>by
  have:=SQ.1 hsz n (DataW.weights_mem_each (j:=0) (t:=25) (d:=d0) rfl rfl n hn)
  simpa using this)
 have hpre:=QZ hok
 have hcall:=DX (P:=Tryz.prog) (f:=4) (fn:=Tryz.f4) (c:=Tryz.f4.body.getD .skip) Tryz.func4 (by kernel_rfl) [v0] [.one (.agg (pr.enc.map T.d))] W (show 1<=Tryz.f4.ntmps by decide +kernel) rfl
  (fun i v hi=>by
   match i,hi with
   | 0,hi=>simp only [Tu,SJ] at hi; subst hi; exact ⟨_,rfl,JJ hv0 hr hl⟩
   | i+1,hi=>simp at hi)
  ⟨NS,Rd hsh⟩
  (fun r=>r=o1 cB true)
  (fun g hg=>by
   have h1:=uE (K:=fun r=>r=o1 cB true) (zC) mixed (fn:=Tryz.f4) (an:=oL) (ps:=[.st .Func]) (rs:=[.bo]) hg (by kernel_rfl) (x:=pr) (KK:=fun r=>r=true) (fun r h=>by subst h; rfl) (Eq.mp (tR pr _) (wd pr hpre _ rfl))
   rw [PW] at h1;exact h1)
 refine hcall.mono fun e W' ⟨v,r,H',γ',m',he,hr',har,hb⟩=>?_
 subst he; subst hr';obtain rfl:=Ob har;exact ⟨_,rfl,_,_,_,[],p,[],hW',trodAll_mk1 (shut_bool Tryz.underlying4 true),(trodAll_mk1 (Below.trod E0 (by kernel_rfl) (of_decide_eq_true (by kernel_rfl)) ⟨fuel,htr⟩ hb (fun x hx=>hlt x hx))),rfl,hb.frame _,fun h=>by cases h⟩
theorem M2:Rows.SplitNoneSaid:=
 OpenClaim.holds_of_wide 4 Tryz.f4 rfl rfl rfl rfl rfl rfl rfl ⟨rfl,rfl,rfl,rfl,rfl⟩ rfl rfl rfl rfl rfl (by kernel_rfl) Tryz.func4 (by kernel_rfl)
  (of_decide_eq_true (by kernel_rfl)) (by unfold Func.isWrapper; first | (rw [if_pos (by decide +kernel)]; kernel_rfl) | (rw [if_neg (by decide +kernel)]; exact ⟨rfl,rfl⟩))
  (fun os started H enc _=>Ce os started H enc)
theorem none_holds:Rows.SplitNoneCardSaid:=
 Claim7.holds_tied_plain_at .later [] [.data,.pinned] true (true, "3acb03833786e5ea69b5814b6a92f05bfb06a46c88f4b190c15950b711fc1965") true
  M2 (fun _ h=>by cases h) (by kernel_rfl) (fun _ h=>by cases h) splitNone_row_tie rfl ⟨rfl,rfl⟩ (by kernel_rfl) rfl
  (fun f fn hf hfn=>by
   obtain rfl:f=4:=Option.some.inj ((show Tryz.prog.funcNamed "lateen/lateenlaw17.SplitNone" = some 4 by kernel_rfl).symm.trans hf) |>.symm
   obtain rfl:fn=Tryz.f4:=(Option.some.inj (Tryz.func4.symm.trans hfn)).symm;exact ⟨by kernel_rfl,fun j t ht=>by
    rw [Tryz.params4] at ht;have hm:t∈[25]:=by simpa using Array.mem_of_getElem? ht
    have hall:([25].all fun u=>!Tryz.prog.wantsStandIn u)=true:=by kernel_rfl
    exact (show Tryz.prog.wantsStandIn t=false by simpa using SQ.1 hall t hm)⟩)
  (by kernel_rfl)
end Go.Proofs.YtjccmeppajblpaaGreatDoor
#print axioms Go.Proofs.YtjccmeppajblpaaGreatDoor.none_holds
end
