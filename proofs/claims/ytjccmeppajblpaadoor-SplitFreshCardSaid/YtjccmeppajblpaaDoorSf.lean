/-
  SplitFresh: a fresh name is none of the function's, and begins as is asked. The card's listed variables are tied to the program's text.
-/
import Derived.Test.YtjccmeppajblpaaDoorSf19
import Derived.Test.YtjccmeppajblpaaDoorRows
import Derived.Test.YtjccmeppajblpaaDoorCards
import Derived.Test.YtjccmeppajblpaaDoorTie
import Derived.ChangeMaps5
import Derived.Stop.Joined
import Derived.SevenTiedAt
set_option linter.unusedSimpArgs false
set_option linter.unusedVariables false
set_option linter.unusedSectionVars false
set_option linter.unnecessarySimpa false
section
namespace Go.Proofs.YtjccmeppajblpaaDoor
open Go.ChangeShapes Go.ChangeMaps Go.WideShapes Go.ChangeAt Go.WideMaps Go.WideElems Go.RowKit Go.Am
theorem am_own:ownKnob Tryd.prog.godebug=none:=by kernel_rfl
theorem am_max {W:World} (h:W.ShapedOpen Tryd.prog):∀ k,maxK=some k->∃ n m,FRow (snap W) m [.int .i64 n] k 0:=by
 intro k hk
 obtain rfl:0=k:=by simpa [maxK] using hk
 exact FRow_int (t:=3) (zero:=#[.int .i64 0]) h (by decide +kernel) (by kernel_rfl) rfl (by kernel_rfl) (by kernel_rfl) (by kernel_rfl)
theorem am_inR {n:Int} (h:okI .i64 n):Lt.inR n:=by
 unfold okI at h
 simp only [Lit.wf,Bool.and_eq_true,decide_eq_true_eq] at h
 have h1:IntKind.i64.min=-9223372036854775808:=by decide
 have h2:IntKind.i64.max=9223372036854775807:=by decide
 rw [h1,h2] at h
 exact ⟨h.1,by omega⟩
theorem am_arg {a:Lt.Arg} (h:a.okr):a.ok:=am_inR h.2.2
theorem am_instr {i:Lt.Instr} (h:i.okr):i.ok:=
 ⟨fun a ha=>am_arg (h.2.2.2.1.2 a ha),fun f hf=>⟨by have:=(h.2.2.2.2.1.2 f hf).2.2.2.1; omega,fun b hb=>am_arg ((h.2.2.2.2.1.2 f hf).2.2.2.2 b hb).2⟩,fun o ho a ha=>am_arg ((h.2.2.2.2.2.2 o ho).2.2 a ha)⟩
theorem am_phi {x:Lt.Phi} (h:x.okr):x.ok:=⟨by have:=h.2.1; omega,fun i hi=>am_arg (h.2.2 i hi).2⟩
theorem am_term {t:Lt.Term} (h:t.okr):t.ok:=⟨am_arg h.2.1,am_inR h.2.2.2⟩
theorem am_block {b:Lt.Block} (h:b.okr):b.ok:=⟨fun x hx=>am_phi (h.2.1.2 x hx),fun i hi=>am_instr (h.2.2.1.2 i hi),am_term h.2.2.2⟩
theorem am_short {s:List UInt8} (h:okS s):Lt.shortN s:=by unfold okS at h; unfold Lt.shortN; omega
theorem am_pre {f:Lt.Func} (h:f.okr) (begin:List UInt8):Lt.preSF f begin:=
 ⟨fun b hb=>am_block (h.2.2.2.2.2 b hb),am_short h.1,am_short h.2.1,fun v hv=>⟨am_short (h.2.2.1.2 v hv).1,am_short (h.2.2.1.2 v hv).2⟩,fun v hv=>⟨am_short (h.2.2.2.1.2 v hv).1,am_short (h.2.2.2.1.2 v hv).2⟩⟩
theorem am_laidOut:laidOutB Tryd.prog=true:=by kernel_rfl
theorem am_enc (x:Lt.Func) (s:List UInt8):avs0 [.st .Func,.s] (x,s)=[.one (.agg (x.enc.map T.d)),.one (.c (.d (.str s)))]:=by
 obtain ⟨a,b,c,d,e⟩:=x
 rfl
theorem am_glob {W:World}:∀ k row,globT k=some row->∃ m,FRow (snap W) m row k 0:=fun k row hk=>by
 unfold globT at hk
 split at hk <;> cases hk
theorem am_met (os:Os) (args:Array Value):laidMetH Tryd.prog Rows.splitFreshRow.laid ((World.laidAll Tryd.prog os Rows.splitFreshRow.laid).forCall (fun _ _=>0) ⟨#[],args,[]⟩).memory:=by
 rw [MakeChecks.laidMetH_plain _ _ _ (by kernel_rfl)]; exact laidMet_laidAll _ (by kernel_rfl) (by kernel_rfl)
set_option maxRecDepth 100000 in
theorem fresh_lifted (os:Os) (started:os.Started) (H:Type) (enc:TypeId×Value->H) :
  ReturnsInHanded {} Tryd.checked os 3 .any (fun w args=>(Rows.splitFreshSpec.pre enc Tryd.prog Tryd.f3 [] false w args/\laidMetH Tryd.prog Rows.splitFreshRow.laid w)/\sizedMet enc Tryd.prog Tryd.f3 (OpenSpec.ofChange Rows.splitFreshSpec) false w args) (Rows.splitFreshSpec.post enc Tryd.prog Tryd.f3 false true false false):=by
 refine change_and_shaped (C:=Tryd.checked) (X:=fun w _=>laidMetH Tryd.prog Rows.splitFreshRow.laid w) (fun _ _ _ hh h=>h.of_heap hh) am_own started (by kernel_rfl) Tryd.func3
  (ChangeSpec.witness_shaped (enc:=enc) (C:=Tryd.checked) (os:=os) (X:=fun w _=>laidMetH Tryd.prog Rows.splitFreshRow.laid w) false (World.laidAll Tryd.prog os Rows.splitFreshRow.laid) #[.agg #[.string ⟨#[]⟩,.string ⟨#[]⟩,.slice none 0 0,.slice none 0 0,.slice none 0 0],.string ⟨#[]⟩] 8 (World.laidAll_os _ _ _) (World.shaped_of_ZipB (by kernel_rfl) (by kernel_rfl)) (by kernel_rfl) (by kernel_rfl) (by kernel_rfl) (am_met os _)) ?_
 intro W base args ds gs before hval0 hW hsz0 hL hsh
 have hsz:(DataW.weightsEach Tryd.prog (Tryd.f3.params.toList++Rows.splitFreshSpec.plain.varTypes Tryd.prog) (ds++gs)).all (·<=reachBytes)=true:=hsz0
 clear hsz0
 have hval:∀ (j:Nat) t v,Tryd.f3.params[j]? = some t->args[j]? = some v->Value.okWide Tryd.prog W .any base t v:=hval0
 have hW':=hW
 obtain ⟨p,q,hA0,hV,rfl,_,_⟩:=hW
 have hA:DataW.TrodAll enc Tryd.prog W 0 (fun _=>true) true Tryd.f3.params.toList args.toList ds p:=hA0
 have hlt:∀ x∈p++q,x.block<W.heap.size:=hW'.lt
 rw [Tryd.params3] at hA hval hsz
 obtain ⟨v0,v1,d0,d1,p0,p1,rfl,rfl,rfl,h0,h1⟩:=trodAll_two hA
 obtain ⟨rfl,rfl⟩:=trodVars_none hV
 obtain ⟨cs,hv0,_⟩:=okWide_struct Tryd.underlying25 (hval 0 25 v0 rfl rfl)
 obtain ⟨s1,rfl,rfl,rfl,w1⟩:=open_string Tryd.underlying9 (hval 1 9 v1 rfl rfl) h1
 clear hA0 hval0
 simp only [List.append_nil] at hW' hlt
 obtain ⟨fuel,htr⟩:=h0
 obtain ⟨pr,hok,hr,hl⟩:=Reads_Func W H enc fuel _ _ htr (fun n hn=>by
  have:=List.all_eq_true.1 hsz n (DataW.weights_mem_each (j:=0) (t:=25) (d:=d0) rfl rfl n hn)
  simpa using this)
 have hpre:=am_pre hok s1.data.toList
 have hl1:s1.data.toList.length<=140737488351232:=by
  have:=List.all_eq_true.1 hsz _ (DataW.weights_mem_each (P:=Tryd.prog) (j:=1) (t:=9) (d:=.lit (.string s1.data.toList)) rfl rfl s1.data.toList.length (by simp [DataW.weights]))
  have:=of_decide_eq_true this
  unfold reachBytes at this
  exact this
 have hcall:=Calls_walk (P:=Tryd.prog) (f:=3) (fn:=Tryd.f3) (c:=Tryd.f3.body.getD .skip) Tryd.func3 (by kernel_rfl) [v0,.string s1] [.one (.agg (pr.enc.map T.d)),.one (.c (.d (.str s1.data.toList)))] W (show 2<=Tryd.f3.ntmps by decide +kernel) rfl
  (fun i v hi=>by
   match i,hi with
   | 0,hi=>simp only [List.getElem?_cons_zero,Option.some.injEq] at hi; subst hi; exact ⟨_,rfl,AR_struct hv0 hr hl⟩
   | 1,hi=>simp only [List.getElem?_cons_zero,List.getElem?_cons_succ,Option.some.injEq] at hi; subst hi; exact ⟨_,rfl,AR_string hl1⟩
   | i+2,hi=>simp at hi)
  ⟨am_glob,am_max hsh⟩
  (fun r=>r=o1 cB true)
  (fun g hg=>by
   have h1:=AW_bodyT (K:=fun r=>r=o1 cB true) (en_SplitFresh) mixed (fn:=Tryd.f3) (an:=an_SplitFresh) (ps:=[.st .Func,.s]) (rs:=[.bo]) hg (by kernel_rfl) (x:=(pr,s1.data.toList)) (KK:=fun r=>r=true) (fun r h=>by subst h; rfl) (Eq.mp (walk_SplitFresh pr s1.data.toList _) (law_SplitFresh pr s1.data.toList hpre _ rfl))
   rw [am_enc] at h1
   exact h1)
 refine hcall.mono fun e W' ⟨v,r,H',γ',m',he,hr',har,hb⟩=>?_
 subst he; subst hr'
 obtain rfl:=AR_true har
 exact ⟨_,rfl,_,_,_,[],p0,[],hW',trodAll_mk1 (shut_bool Tryd.underlying4 true),(by have:=trodAll_mk2 (Below.trod am_laidOut (by kernel_rfl) (of_decide_eq_true (by kernel_rfl)) ⟨fuel,htr⟩ hb (fun x hx=>hlt x hx)) (shut_string Tryd.underlying9 w1); rw [List.append_nil] at this; exact this),rfl,hb.frame _,fun h=>by cases h⟩
theorem fresh_row:Rows.SplitFreshSaid:=
 OpenClaim.holds_of_wide 3 Tryd.f3 rfl rfl rfl rfl rfl rfl rfl ⟨rfl,rfl,rfl,rfl,rfl⟩ rfl rfl rfl rfl rfl (by kernel_rfl) Tryd.func3 (by kernel_rfl)
  (of_decide_eq_true (by kernel_rfl)) (by unfold Func.isWrapper; first | (rw [if_pos (by decide +kernel)]; kernel_rfl) | (rw [if_neg (by decide +kernel)]; exact ⟨rfl,rfl⟩))
  (fun os started H enc _=>fresh_lifted os started H enc)
theorem fresh_holds:Rows.SplitFreshCardSaid:=
 Claim7.holds_tied_plain_at .later [] [.data,.pinned] true (true, "e57ccc48624048e235b525980388e7c511a62b6ab6a2a2a591855afe565e3766") true
  fresh_row (fun _ h=>by cases h) (by kernel_rfl) (fun _ h=>by cases h) splitFresh_row_tie rfl ⟨rfl,rfl⟩ (by kernel_rfl) rfl
  (fun f fn hf hfn=>by
   obtain rfl:f=3:=Option.some.inj ((show Tryd.prog.funcNamed "lateen/lateenlaw17.SplitFresh" = some 3 by kernel_rfl).symm.trans hf) |>.symm
   obtain rfl:fn=Tryd.f3:=(Option.some.inj (Tryd.func3.symm.trans hfn)).symm
   exact ⟨by kernel_rfl,fun j t ht=>by
    rw [Tryd.params3] at ht
    have hm:t∈[25,9]:=by simpa using Array.mem_of_getElem? ht
    have hall:([25,9].all fun u=>!Tryd.prog.wantsStandIn u)=true:=by kernel_rfl
    exact (show Tryd.prog.wantsStandIn t=false by simpa using List.all_eq_true.1 hall t hm)⟩)
  (by kernel_rfl)
end Go.Proofs.YtjccmeppajblpaaDoor
#print axioms Go.Proofs.YtjccmeppajblpaaDoor.fresh_holds
end
