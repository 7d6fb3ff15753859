/-
  SyntaxParses: whatever text there is: the program, or the fault and its line, is the document's. The card's listed variables are tied to the program's text.
-/
import Derived.Test.YtlikflolhhlgjaaGreatDoorPa18
import Derived.Test.YtlikflolhhlgjaaGreatDoorRows
import Derived.Test.YtlikflolhhlgjaaGreatDoorCards
import Derived.Test.YtlikflolhhlgjaaGreatDoorTie
import Derived.ChangeMaps5
import Derived.Stop.Joined
import Derived.SevenTiedAt
set_option linter.unusedSimpArgs false
set_option linter.unusedVariables false
set_option linter.unusedSectionVars false
set_option linter.unnecessarySimpa false
section
namespace Go.Proofs.YtlikflolhhlgjaaGreatDoor
open Go.ChangeShapes Go.ChangeMaps Go.WideShapes Go.ChangeAt Go.WideMaps Go.WideElems Go.RowKit Go.Am
theorem am_own:ownKnob Tryz.prog.godebug=none:=by kernel_rfl
theorem am_max {W:World} (h:W.ShapedOpen Tryz.prog):∀ k,maxK=some k->∃ n m,FRow (snap W) m [.int .i64 n] k 0:=by
 intro k hk
 obtain rfl:1=k:=by simpa [maxK] using hk
 exact FRow_int (t:=3) (zero:=#[.int .i64 0]) h (by decide +kernel) (by kernel_rfl) rfl (by kernel_rfl) (by kernel_rfl) (by kernel_rfl)
theorem am_gWords:Tryz.prog.globalNamed "lateen/lateenref05.words" = some 0:=by kernel_rfl
theorem am_tWords:(Tryz.prog.globals[0]?).map (·.type)=some 187:=by kernel_rfl
theorem am_glob {W:World} (h:laidMetH Tryz.prog Rows.syntaxParsesRow.laid W):∀ k row,globT k=some row->∃ m,FRow (snap W) m row k 0:=by
 intro k row hk
 unfold globT at hk
 split at hk
 case isFalse=>cases hk
 rename_i h0
 subst h0
 simp only [Option.some.injEq] at hk
 subst hk
 rw [MakeChecks.laidMetH_plain _ _ _ (by kernel_rfl)] at h
 obtain ⟨ps,⟨_,_,_,_,_,_,_,_,_,_,⟨g0,t0,cs0,f0,p0,q0,hg0,ht0,hv0,hd0,_,_⟩,_⟩,_,_⟩:=h
 obtain rfl:=Option.some.inj (am_gWords.symm.trans hg0)
 obtain rfl:=Option.some.inj (am_tWords.symm.trans ht0)
 obtain ⟨xs,m1,rfl,hx1,hlen,hn3,hel⟩:=DataW.trod_array Tryz.underlying187 hd0
 have c9:Tryz.prog.cellsOf 9=1:=by kernel_rfl
 simp only [Prod.mk.injEq] at hx1
 have hx2:(DataW.agg (gw.map fun l=>DataW.lit (.string l)):DataW Unit)=.agg (xs.map (·.1)):=hx1.1
 simp only [DataW.agg.injEq] at hx2
 refine FRow_of_x (fun j hj=>?_)
 rw [List.length_map] at hj
 have hj35:j < 35:=hj
 have e:=hel j hj35
 have hjx:j<xs.length:=by omega
 rw [c9,Nat.mul_one,List.getElem?_eq_getElem hjx] at e
 obtain ⟨s,hs1,hs2,_⟩:=DataW.trod_string Tryz.underlying9 e
 have hc:cs0.toList[j]? = some (.string s):=by
  have:=congrArg (fun l:List Value=>l[0]?) hs1
  simpa using this
 have hw:s.data.toList=gw.getD j default:=by
  have h3:=congrArg (fun l:List (DataW Unit)=>l[j]?) hx2
  simp only [List.getElem?_map,List.getElem?_eq_getElem hjx,Option.map_some,hs2] at h3
  rw [List.getElem?_eq_getElem hj] at h3
  simp only [Option.map_some,Option.some.injEq,DataW.lit.injEq,Lit.string.injEq] at h3
  rw [List.getD,List.getElem?_eq_getElem hj]
  exact h3.symm
 refine ⟨.string s,?_,0,?_⟩
 ·have:=World.var?_cell hg0 hv0 j
  show W.cell? ⟨0,0+j,none⟩=_
  rw [Nat.zero_add,this]
  simpa using hc
 ·have hg:(gw.map D.str).getD j default=D.str (gw.getD j default):=by
   rw [List.getD,List.getElem?_map,List.getD,List.getElem?_eq_getElem hj]; rfl
  rw [hg,<- hw]
  refine ⟨by simp,?_⟩
  rw [hw]
  have:=gw_len j
  unfold BIG; omega
theorem am_met (os:Os) (args:Array Value):laidMetH Tryz.prog Rows.syntaxParsesRow.laid ((World.laidAll Tryz.prog os Rows.syntaxParsesRow.laid).forCall (fun _ _=>0) ⟨#[],args,[]⟩).memory:=by
 rw [MakeChecks.laidMetH_plain _ _ _ (by kernel_rfl)]; exact laidMet_laidAll _ (by kernel_rfl) (by kernel_rfl)
set_option maxRecDepth 100000 in
theorem parses_lifted (os:Os) (started:os.Started) (H:Type) (enc:TypeId×Value->H) :
  ReturnsInHanded {} Tryz.checked os 3 .any (fun w args=>(Rows.syntaxParsesSpec.pre enc Tryz.prog Tryz.f3 [] false w args/\laidMetH Tryz.prog Rows.syntaxParsesRow.laid w)/\sizedMet enc Tryz.prog Tryz.f3 (OpenSpec.ofChange Rows.syntaxParsesSpec) false w args) (Rows.syntaxParsesSpec.post enc Tryz.prog Tryz.f3 false true false false):=by
 refine change_and_shaped (C:=Tryz.checked) (X:=fun w _=>laidMetH Tryz.prog Rows.syntaxParsesRow.laid w) (fun _ _ _ hh h=>h.of_heap hh) am_own started (by kernel_rfl) Tryz.func3
  (ChangeSpec.witness_shaped (enc:=enc) (C:=Tryz.checked) (os:=os) (X:=fun w _=>laidMetH Tryz.prog Rows.syntaxParsesRow.laid w) false (World.laidAll Tryz.prog os Rows.syntaxParsesRow.laid) #[.string ⟨#[]⟩] 8 (World.laidAll_os _ _ _) (World.shaped_of_ZipB (by kernel_rfl) (by kernel_rfl)) (by kernel_rfl) (by kernel_rfl) (by kernel_rfl) (am_met os _)) ?_
 intro W base args ds gs before hval0 hW hsz0 hL hsh
 have hsz:(DataW.weightsEach Tryz.prog (Tryz.f3.params.toList++Rows.syntaxParsesSpec.plain.varTypes Tryz.prog) (ds++gs)).all (·<=reachBytes)=true:=hsz0
 clear hsz0
 have hval:∀ (j:Nat) t v,Tryz.f3.params[j]? = some t->args[j]? = some v->Value.okWide Tryz.prog W .any base t v:=hval0
 have hW':=hW
 obtain ⟨p,q,hA0,hV,rfl,_,_⟩:=hW
 have hA:DataW.TrodAll enc Tryz.prog W 0 (fun _=>true) true Tryz.f3.params.toList args.toList ds p:=hA0
 rw [Tryz.params3] at hA hval hsz
 obtain ⟨v0,d0,rfl,rfl,h0⟩:=trodAll_one hA
 obtain ⟨rfl,rfl⟩:=trodVars_none hV
 obtain ⟨s0,rfl,rfl,rfl,w0⟩:=open_string Tryz.underlying9 (hval 0 9 v0 rfl rfl) h0
 clear hA0 hval0
 simp only [List.append_nil] at hW'
 have hl0:s0.data.toList.length<=140737488351232:=by
  have:=List.all_eq_true.1 hsz _ (DataW.weights_mem_each (P:=Tryz.prog) (j:=0) (t:=9) (d:=.lit (.string s0.data.toList)) rfl rfl s0.data.toList.length (by simp [DataW.weights]))
  have:=of_decide_eq_true this
  unfold reachBytes at this
  exact this
 have hcall:=Calls_walk (P:=Tryz.prog) (f:=3) (fn:=Tryz.f3) (c:=Tryz.f3.body.getD .skip) Tryz.func3 (by kernel_rfl) [.string s0] [.one (.c (.d (.str s0.data.toList)))] W (show 1<=Tryz.f3.ntmps by decide +kernel) rfl
  (fun i v hi=>by
   match i,hi with
   | 0,hi=>simp only [List.getElem?_cons_zero,Option.some.injEq] at hi; subst hi; exact ⟨_,rfl,AR_string hl0⟩
   | i+1,hi=>simp at hi)
  ⟨am_glob hL,am_max hsh⟩
  (fun r=>r=o1 cB true)
  (fun g hg=>AW_bodyT (K:=fun r=>r=o1 cB true) (en_SyntaxParses) mixed (fn:=Tryz.f3) (an:=an_SyntaxParses) (ps:=[.s]) (rs:=[.bo]) hg (by kernel_rfl) (x:=s0.data.toList) (KK:=fun r=>r=true) (fun r h=>by subst h; rfl) (Eq.mp (walk_SyntaxParses s0.data.toList _) (law_SyntaxParses s0.data.toList _ rfl)))
 refine hcall.mono fun e W' ⟨v,r,H',γ',m',he,hr',har,hb⟩=>?_
 subst he; subst hr'
 obtain rfl:=AR_true har
 exact ⟨_,rfl,_,_,_,[],[],[],hW',trodAll_mk1 (shut_bool Tryz.underlying4 true),trodAll_mk1 (shut_string Tryz.underlying9 w0),rfl,hb.frame _,fun h=>by cases h⟩
theorem parses_row:Rows.SyntaxParsesSaid:=
 OpenClaim.holds_of_wide 3 Tryz.f3 rfl rfl rfl rfl rfl rfl rfl ⟨rfl,rfl,rfl,rfl,rfl⟩ rfl rfl rfl rfl rfl (by kernel_rfl) Tryz.func3 (by kernel_rfl)
  (of_decide_eq_true (by kernel_rfl)) (by unfold Func.isWrapper; first | (rw [if_pos (by decide +kernel)]; kernel_rfl) | (rw [if_neg (by decide +kernel)]; exact ⟨rfl,rfl⟩))
  (fun os started H enc _=>parses_lifted os started H enc)
theorem parses_holds:Rows.SyntaxParsesCardSaid:=
 Claim7.holds_tied_plain_at .later [] [.data,.data,.pinned] true (true, "9da83e1c6d76c49cf458950506eca06a17840cb35261018a01ae1822ddcfbe6f") true
  parses_row (fun _ h=>by cases h) (by kernel_rfl) (fun _ h=>by cases h) syntaxParses_row_tie rfl ⟨rfl,rfl⟩ (by kernel_rfl) rfl
  (fun f fn hf hfn=>by
   obtain rfl:f=3:=Option.some.inj ((show Tryz.prog.funcNamed "lateen/lateenlaw05.SyntaxParses" = some 3 by kernel_rfl).symm.trans hf) |>.symm
   obtain rfl:fn=Tryz.f3:=(Option.some.inj (Tryz.func3.symm.trans hfn)).symm
   exact ⟨by kernel_rfl,fun j t ht=>by
    rw [Tryz.params3] at ht
    have hm:t∈[9]:=by simpa using Array.mem_of_getElem? ht
    have hall:([9].all fun u=>!Tryz.prog.wantsStandIn u)=true:=by kernel_rfl
    exact (show Tryz.prog.wantsStandIn t=false by simpa using List.all_eq_true.1 hall t hm)⟩)
  (by kernel_rfl)
end Go.Proofs.YtlikflolhhlgjaaGreatDoor
#print axioms Go.Proofs.YtlikflolhhlgjaaGreatDoor.parses_holds
end
