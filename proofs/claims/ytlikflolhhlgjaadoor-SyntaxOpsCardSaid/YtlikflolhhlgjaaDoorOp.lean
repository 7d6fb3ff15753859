/-
  SyntaxOps: whatever number and word: the program's forms and numbers of instructions are the document's. The card's listed variables are tied to the program's text.
-/
import Derived.Test.YtlikflolhhlgjaaDoorOp18
import Derived.Test.YtlikflolhhlgjaaDoorRows
import Derived.Test.YtlikflolhhlgjaaDoorCards
import Derived.Test.YtlikflolhhlgjaaDoorTie
import Derived.ChangeMaps5
import Derived.Stop.Joined
import Derived.SevenTiedAt
set_option linter.unusedSimpArgs false
set_option linter.unusedVariables false
set_option linter.unusedSectionVars false
set_option linter.unnecessarySimpa false
section
namespace Go.Proofs.YtlikflolhhlgjaaDoor
open Go.ChangeShapes Go.ChangeMaps Go.WideShapes Go.ChangeAt Go.WideMaps Go.WideElems Go.RowKit Go.Am
theorem am_own:ownKnob Tryd.prog.godebug=none:=by kernel_rfl
theorem am_gWords:Tryd.prog.globalNamed "lateen/lateenref05.words" = some 0:=by kernel_rfl
theorem am_tWords:(Tryd.prog.globals[0]?).map (·.type)=some 101:=by kernel_rfl
theorem am_max {W:World} (h:W.ShapedOpen Tryd.prog):∀ k,maxK=some k->∃ n m,FRow (snap W) m [.int .i64 n] k 0:=by
 intro k hk
 obtain rfl:1=k:=by simpa [maxK] using hk
 exact FRow_int (t:=3) (zero:=#[.int .i64 0]) h (by decide +kernel) (by kernel_rfl) rfl (by kernel_rfl) (by kernel_rfl) (by kernel_rfl)
theorem am_glob {W:World} (h:laidMetH Tryd.prog Rows.syntaxOpsRow.laid W):∀ k row,globT k=some row->∃ m,FRow (snap W) m row k 0:=by
 intro k row hk
 unfold globT at hk
 split at hk
 case isFalse=>cases hk
 rename_i h0
 subst h0
 simp only [Option.some.injEq] at hk
 subst hk
 rw [MakeChecks.laidMetH_plain _ _ _ (by kernel_rfl)] at h
 obtain ⟨ps,⟨_,_,_,_,_,_,_,_,_,_,⟨g0,t0,cs0,f0,p0,q0,hg0,ht0,hv0,hd0,_,_⟩,_⟩,_,_⟩:=h
 obtain rfl:=Option.some.inj (am_gWords.symm.trans hg0)
 obtain rfl:=Option.some.inj (am_tWords.symm.trans ht0)
 obtain ⟨xs,m1,rfl,hx1,hlen,hn3,hel⟩:=DataW.trod_array Tryd.underlying101 hd0
 have c9:Tryd.prog.cellsOf 9=1:=by kernel_rfl
 simp only [Prod.mk.injEq] at hx1
 have hx2:(DataW.agg (gw.map fun l=>DataW.lit (.string l)):DataW Unit)=.agg (xs.map (·.1)):=hx1.1
 simp only [DataW.agg.injEq] at hx2
 refine FRow_of_x (fun j hj=>?_)
 rw [List.length_map] at hj
 have hj35:j < 35:=hj
 have e:=hel j hj35
 have hjx:j<xs.length:=by omega
 rw [c9,Nat.mul_one,List.getElem?_eq_getElem hjx] at e
 obtain ⟨s,hs1,hs2,_⟩:=DataW.trod_string Tryd.underlying9 e
 have hc:cs0.toList[j]? = some (.string s):=by
  have:=congrArg (fun l:List Value=>l[0]?) hs1
  simpa using this
 have hw:s.data.toList=gw.getD j default:=by
  have h3:=congrArg (fun l:List (DataW Unit)=>l[j]?) hx2
  simp only [List.getElem?_map,List.getElem?_eq_getElem hjx,Option.map_some,hs2] at h3
  rw [List.getElem?_eq_getElem hj] at h3
  simp only [Option.map_some,Option.some.injEq,DataW.lit.injEq,Lit.string.injEq] at h3
  rw [List.getD,List.getElem?_eq_getElem hj]
  exact h3.symm
 refine ⟨.string s,?_,0,?_⟩
 ·have:=World.var?_cell hg0 hv0 j
  show W.cell? ⟨0,0+j,none⟩=_
  rw [Nat.zero_add,this]
  simpa using hc
 ·have hg:(gw.map D.str).getD j default=D.str (gw.getD j default):=by
   rw [List.getD,List.getElem?_map,List.getD,List.getElem?_eq_getElem hj]; rfl
  rw [hg,<- hw]
  refine ⟨by simp,?_⟩
  rw [hw]
  have:=gw_len j
  unfold BIG; omega
theorem am_met (os:Os) (args:Array Value):laidMetH Tryd.prog Rows.syntaxOpsRow.laid ((World.laidAll Tryd.prog os Rows.syntaxOpsRow.laid).forCall (fun _ _=>0) ⟨#[],args,[]⟩).memory:=by
 rw [MakeChecks.laidMetH_plain _ _ _ (by kernel_rfl)]; exact laidMet_laidAll _ (by kernel_rfl) (by kernel_rfl)
set_option maxRecDepth 100000 in
theorem ops_lifted (os:Os) (started:os.Started) (H:Type) (enc:TypeId×Value->H) :
  ReturnsInHanded {} Tryd.checked os 4 .any (fun w args=>(Rows.syntaxOpsSpec.pre enc Tryd.prog Tryd.f4 [] false w args/\laidMetH Tryd.prog Rows.syntaxOpsRow.laid w)/\sizedMet enc Tryd.prog Tryd.f4 (OpenSpec.ofChange Rows.syntaxOpsSpec) false w args) (Rows.syntaxOpsSpec.post enc Tryd.prog Tryd.f4 false true false false):=by
 refine change_and_shaped (C:=Tryd.checked) (X:=fun w _=>laidMetH Tryd.prog Rows.syntaxOpsRow.laid w) (fun _ _ _ hh h=>h.of_heap hh) am_own started (by kernel_rfl) Tryd.func4
  (ChangeSpec.witness_shaped (enc:=enc) (C:=Tryd.checked) (os:=os) (X:=fun w _=>laidMetH Tryd.prog Rows.syntaxOpsRow.laid w) false (World.laidAll Tryd.prog os Rows.syntaxOpsRow.laid) #[.int .i64 0,.string ⟨#[]⟩] 8 (World.laidAll_os _ _ _) (World.shaped_of_ZipB (by kernel_rfl) (by kernel_rfl)) (by kernel_rfl) (by kernel_rfl) (by kernel_rfl) (am_met os _)) ?_
 intro W base args ds gs before hval0 hW hsz0 hL hsh
 have hsz:(DataW.weightsEach Tryd.prog (Tryd.f4.params.toList++Rows.syntaxOpsSpec.plain.varTypes Tryd.prog) (ds++gs)).all (·<=reachBytes)=true:=hsz0
 clear hsz0
 have hval:∀ (j:Nat) t v,Tryd.f4.params[j]? = some t->args[j]? = some v->Value.okWide Tryd.prog W .any base t v:=hval0
 have hW':=hW
 obtain ⟨p,q,hA0,hV,rfl,_,_⟩:=hW
 have hA:DataW.TrodAll enc Tryd.prog W 0 (fun _=>true) true Tryd.f4.params.toList args.toList ds p:=hA0
 rw [Tryd.params4] at hA hval hsz
 obtain ⟨v0,v1,d0,d1,p0,p1,rfl,rfl,rfl,h0,h1⟩:=trodAll_two hA
 obtain ⟨rfl,rfl⟩:=trodVars_none hV
 obtain ⟨n,rfl,rfl,rfl,wn⟩:=open_int Tryd.underlying3 (hval 0 3 v0 rfl rfl) h0
 obtain ⟨s,rfl,rfl,rfl,ws⟩:=open_string Tryd.underlying9 (hval 1 9 v1 rfl rfl) h1
 clear hA0 hval0
 simp only [List.append_nil] at hW'
 have hlen:s.data.toList.length<=140737488351232:=by
  have:=List.all_eq_true.1 hsz _ (DataW.weights_mem_each (P:=Tryd.prog) (j:=1) (t:=9) (d:=.lit (.string s.data.toList)) rfl rfl s.data.toList.length (by simp [DataW.weights]))
  have:=of_decide_eq_true this
  unfold reachBytes at this
  exact this
 have hcall:=Calls_walk (P:=Tryd.prog) (f:=4) (fn:=Tryd.f4) (c:=Tryd.f4.body.getD .skip) Tryd.func4 (by kernel_rfl) [.int .i64 n,.string s] [.one (.c (.d (.int .i64 n))),.one (.c (.d (.str s.data.toList)))] W (show 2<=Tryd.f4.ntmps by decide +kernel) rfl
  (fun i v hi=>by
   match i,hi with
   | 0,hi=>simp only [List.getElem?_cons_zero,Option.some.injEq] at hi; subst hi; exact ⟨_,rfl,AR_num0 wn⟩
   | 1,hi=>simp only [List.getElem?_cons_zero,List.getElem?_cons_succ,Option.some.injEq] at hi; subst hi; exact ⟨_,rfl,AR_string hlen⟩
   | i+2,hi=>simp at hi)
  ⟨am_glob hL,am_max hsh⟩
  (fun r=>r=o1 cB true)
  (fun g hg=>AW_bodyT (K:=fun r=>r=o1 cB true) (en_SyntaxOps) mixed (fn:=Tryd.f4) (an:=an_SyntaxOps) (ps:=[.i .i64,.s]) (rs:=[.bo]) hg (by kernel_rfl) (x:=(n,s.data.toList)) (KK:=fun r=>r=true) (fun r h=>by subst h; rfl) (Eq.mp (walk_SyntaxOps n s.data.toList _) (law_SyntaxOps n s.data.toList _ rfl)))
 refine hcall.mono fun e W' ⟨v,r,H',γ',m',he,hr',har,hb⟩=>?_
 subst he; subst hr'
 obtain rfl:=AR_true har
 exact ⟨_,rfl,_,_,_,[],[],[],hW',trodAll_mk1 (shut_bool Tryd.underlying4 true),trodAll_mk2 (shut_int Tryd.underlying3 wn) (shut_string Tryd.underlying9 ws),rfl,hb.frame _,fun h=>by cases h⟩
theorem ops_row:Rows.SyntaxOpsSaid:=
 OpenClaim.holds_of_wide 4 Tryd.f4 rfl rfl rfl rfl rfl rfl rfl ⟨rfl,rfl,rfl,rfl,rfl⟩ rfl rfl rfl rfl rfl (by kernel_rfl) Tryd.func4 (by kernel_rfl)
  (of_decide_eq_true (by kernel_rfl)) (by unfold Func.isWrapper; first | (rw [if_pos (by decide +kernel)]; kernel_rfl) | (rw [if_neg (by decide +kernel)]; exact ⟨rfl,rfl⟩))
  (fun os started H enc _=>ops_lifted os started H enc)
theorem ops_holds:Rows.SyntaxOpsCardSaid:=
 Claim7.holds_tied_plain_at .later [] [.data,.data,.pinned] true (true, "d58c1cb81ddb9f1b713c763d24aaebad57feb9507204c461e7bf1ada68bb1bad") true
  ops_row (fun _ h=>by cases h) (by kernel_rfl) (fun _ h=>by cases h) syntaxOps_row_tie rfl ⟨rfl,rfl⟩ (by kernel_rfl) rfl
  (fun f fn hf hfn=>by
   obtain rfl:f=4:=Option.some.inj ((show Tryd.prog.funcNamed "lateen/lateenlaw05.SyntaxOps" = some 4 by kernel_rfl).symm.trans hf) |>.symm
   obtain rfl:fn=Tryd.f4:=(Option.some.inj (Tryd.func4.symm.trans hfn)).symm
   exact ⟨by kernel_rfl,fun j t ht=>by
    rw [Tryd.params4] at ht
    have hm:t∈[3,9]:=by simpa using Array.mem_of_getElem? ht
    have hall:([3,9].all fun u=>!Tryd.prog.wantsStandIn u)=true:=by kernel_rfl
    exact (show Tryd.prog.wantsStandIn t=false by simpa using List.all_eq_true.1 hall t hm)⟩)
  (by kernel_rfl)
end Go.Proofs.YtlikflolhhlgjaaDoor
#print axioms Go.Proofs.YtlikflolhhlgjaaDoor.ops_holds
end
