/-
  SyntaxFront: what stands behind the line of a fault means nothing: cut there, or with other lines behind it, the same is told. The card's listed variables are tied to the program's text.
-/
import Derived.Test.YtlikflolhhlgjaaDoorFr18
import Derived.Test.YtlikflolhhlgjaaDoorRows
import Derived.Test.YtlikflolhhlgjaaDoorCards
import Derived.Test.YtlikflolhhlgjaaDoorTie
import Derived.ChangeMaps5
import Derived.Stop.Joined
import Derived.SevenTiedAt
set_option linter.unusedSimpArgs false
set_option linter.unusedVariables false
set_option linter.unusedSectionVars false
set_option linter.unnecessarySimpa false
section
namespace Go.Proofs.YtlikflolhhlgjaaDoor
open Go.ChangeShapes Go.ChangeMaps Go.WideShapes Go.ChangeAt Go.WideMaps Go.WideElems Go.RowKit Go.Am
theorem am_own:ownKnob Tryd.prog.godebug=none:=by kernel_rfl
theorem am_max {W:World} (h:W.ShapedOpen Tryd.prog):∀ k,maxK=some k->∃ n m,FRow (snap W) m [.int .i64 n] k 0:=by
 intro k hk
 obtain rfl:1=k:=by simpa [maxK] using hk
 exact FRow_int (t:=3) (zero:=#[.int .i64 0]) h (by decide +kernel) (by kernel_rfl) rfl (by kernel_rfl) (by kernel_rfl) (by kernel_rfl)
theorem am_glob {W:World}:∀ k row,globT k=some row->∃ m,FRow (snap W) m row k 0:=fun k row hk=>by
 unfold globT at hk
 split at hk <;> cases hk
theorem am_met (os:Os) (args:Array Value):laidMetH Tryd.prog Rows.syntaxFrontRow.laid ((World.laidAll Tryd.prog os Rows.syntaxFrontRow.laid).forCall (fun _ _=>0) ⟨#[],args,[]⟩).memory:=by
 rw [MakeChecks.laidMetH_plain _ _ _ (by kernel_rfl)]; exact laidMet_laidAll _ (by kernel_rfl) (by kernel_rfl)
set_option maxRecDepth 100000 in
theorem front_lifted (os:Os) (started:os.Started) (H:Type) (enc:TypeId×Value->H) :
  ReturnsInHanded {} Tryd.checked os 7 .any (fun w args=>(Rows.syntaxFrontSpec.pre enc Tryd.prog Tryd.f7 [] false w args/\laidMetH Tryd.prog Rows.syntaxFrontRow.laid w)/\sizedMet enc Tryd.prog Tryd.f7 (OpenSpec.ofChange Rows.syntaxFrontSpec) false w args) (Rows.syntaxFrontSpec.post enc Tryd.prog Tryd.f7 false true false false):=by
 refine change_and_shaped (C:=Tryd.checked) (X:=fun w _=>laidMetH Tryd.prog Rows.syntaxFrontRow.laid w) (fun _ _ _ hh h=>h.of_heap hh) am_own started (by kernel_rfl) Tryd.func7
  (ChangeSpec.witness_shaped (enc:=enc) (C:=Tryd.checked) (os:=os) (X:=fun w _=>laidMetH Tryd.prog Rows.syntaxFrontRow.laid w) false (World.laidAll Tryd.prog os Rows.syntaxFrontRow.laid) #[.string ⟨#[]⟩,.string ⟨#[]⟩] 8 (World.laidAll_os _ _ _) (World.shaped_of_ZipB (by kernel_rfl) (by kernel_rfl)) (by kernel_rfl) (by kernel_rfl) (by kernel_rfl) (am_met os _)) ?_
 intro W base args ds gs before hval0 hW hsz0 hL hsh
 have hsz:(DataW.weightsEach Tryd.prog (Tryd.f7.params.toList++Rows.syntaxFrontSpec.plain.varTypes Tryd.prog) (ds++gs)).all (·<=reachBytes)=true:=hsz0
 clear hsz0
 have hval:∀ (j:Nat) t v,Tryd.f7.params[j]? = some t->args[j]? = some v->Value.okWide Tryd.prog W .any base t v:=hval0
 have hW':=hW
 obtain ⟨p,q,hA0,hV,rfl,_,_⟩:=hW
 have hA:DataW.TrodAll enc Tryd.prog W 0 (fun _=>true) true Tryd.f7.params.toList args.toList ds p:=hA0
 rw [Tryd.params7] at hA hval hsz
 obtain ⟨v0,v1,d0,d1,p0,p1,rfl,rfl,rfl,h0,h1⟩:=trodAll_two hA
 obtain ⟨rfl,rfl⟩:=trodVars_none hV
 obtain ⟨s0,rfl,rfl,rfl,w0⟩:=open_string Tryd.underlying9 (hval 0 9 v0 rfl rfl) h0
 obtain ⟨s1,rfl,rfl,rfl,w1⟩:=open_string Tryd.underlying9 (hval 1 9 v1 rfl rfl) h1
 clear hA0 hval0
 simp only [List.append_nil] at hW'
 have hl0:s0.data.toList.length<=140737488351232:=by
  have:=List.all_eq_true.1 hsz _ (DataW.weights_mem_each (P:=Tryd.prog) (j:=0) (t:=9) (d:=.lit (.string s0.data.toList)) rfl rfl s0.data.toList.length (by simp [DataW.weights]))
  have:=of_decide_eq_true this
  unfold reachBytes at this
  exact this
 have hl1:s1.data.toList.length<=140737488351232:=by
  have:=List.all_eq_true.1 hsz _ (DataW.weights_mem_each (P:=Tryd.prog) (j:=1) (t:=9) (d:=.lit (.string s1.data.toList)) rfl rfl s1.data.toList.length (by simp [DataW.weights]))
  have:=of_decide_eq_true this
  unfold reachBytes at this
  exact this
 have hcall:=Calls_walk (P:=Tryd.prog) (f:=7) (fn:=Tryd.f7) (c:=Tryd.f7.body.getD .skip) Tryd.func7 (by kernel_rfl) [.string s0,.string s1] [.one (.c (.d (.str s0.data.toList))),.one (.c (.d (.str s1.data.toList)))] W (show 2<=Tryd.f7.ntmps by decide +kernel) rfl
  (fun i v hi=>by
   match i,hi with
   | 0,hi=>simp only [List.getElem?_cons_zero,Option.some.injEq] at hi; subst hi; exact ⟨_,rfl,AR_string hl0⟩
   | 1,hi=>simp only [List.getElem?_cons_zero,List.getElem?_cons_succ,Option.some.injEq] at hi; subst hi; exact ⟨_,rfl,AR_string hl1⟩
   | i+2,hi=>simp at hi)
  ⟨am_glob,am_max hsh⟩
  (fun r=>r=o1 cB true)
  (fun g hg=>AW_bodyT (K:=fun r=>r=o1 cB true) (en_SyntaxFront) mixed (fn:=Tryd.f7) (an:=an_SyntaxFront) (ps:=[.s,.s]) (rs:=[.bo]) hg (by kernel_rfl) (x:=(s0.data.toList,s1.data.toList)) (KK:=fun r=>r=true) (fun r h=>by subst h; rfl) (Eq.mp (walk_SyntaxFront s0.data.toList s1.data.toList _) (law_SyntaxFront s0.data.toList s1.data.toList _ rfl)))
 refine hcall.mono fun e W' ⟨v,r,H',γ',m',he,hr',har,hb⟩=>?_
 subst he; subst hr'
 obtain rfl:=AR_true har
 exact ⟨_,rfl,_,_,_,[],[],[],hW',trodAll_mk1 (shut_bool Tryd.underlying4 true),trodAll_mk2 (shut_string Tryd.underlying9 w0) (shut_string Tryd.underlying9 w1),rfl,hb.frame _,fun h=>by cases h⟩
theorem front_row:Rows.SyntaxFrontSaid:=
 OpenClaim.holds_of_wide 7 Tryd.f7 rfl rfl rfl rfl rfl rfl rfl ⟨rfl,rfl,rfl,rfl,rfl⟩ rfl rfl rfl rfl rfl (by kernel_rfl) Tryd.func7 (by kernel_rfl)
  (of_decide_eq_true (by kernel_rfl)) (by unfold Func.isWrapper; first | (rw [if_pos (by decide +kernel)]; kernel_rfl) | (rw [if_neg (by decide +kernel)]; exact ⟨rfl,rfl⟩))
  (fun os started H enc _=>front_lifted os started H enc)
theorem front_holds:Rows.SyntaxFrontCardSaid:=
 Claim7.holds_tied_plain_at .later [] [.data,.pinned] true (true, "d58c1cb81ddb9f1b713c763d24aaebad57feb9507204c461e7bf1ada68bb1bad") true
  front_row (fun _ h=>by cases h) (by kernel_rfl) (fun _ h=>by cases h) syntaxFront_row_tie rfl ⟨rfl,rfl⟩ (by kernel_rfl) rfl
  (fun f fn hf hfn=>by
   obtain rfl:f=7:=Option.some.inj ((show Tryd.prog.funcNamed "lateen/lateenlaw05.SyntaxFront" = some 7 by kernel_rfl).symm.trans hf) |>.symm
   obtain rfl:fn=Tryd.f7:=(Option.some.inj (Tryd.func7.symm.trans hfn)).symm
   exact ⟨by kernel_rfl,fun j t ht=>by
    rw [Tryd.params7] at ht
    have hm:t∈[9,9]:=by simpa using Array.mem_of_getElem? ht
    have hall:([9,9].all fun u=>!Tryd.prog.wantsStandIn u)=true:=by kernel_rfl
    exact (show Tryd.prog.wantsStandIn t=false by simpa using List.all_eq_true.1 hall t hm)⟩)
  (by kernel_rfl)
end Go.Proofs.YtlikflolhhlgjaaDoor
#print axioms Go.Proofs.YtlikflolhhlgjaaDoor.front_holds
end
