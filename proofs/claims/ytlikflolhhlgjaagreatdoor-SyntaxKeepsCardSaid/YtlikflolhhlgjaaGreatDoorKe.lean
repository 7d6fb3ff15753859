/-
  SyntaxKeeps: what is answered is new memory. The card's listed variables are tied to the program's text.
-/
import Derived.Test.YtlikflolhhlgjaaGreatDoorKe19
import Derived.Test.YtlikflolhhlgjaaGreatDoorRows
import Derived.Test.YtlikflolhhlgjaaGreatDoorCards
import Derived.Test.YtlikflolhhlgjaaGreatDoorTie
import Derived.ChangeMaps5
import Derived.Stop.Joined
import Derived.SevenTiedAt
set_option linter.unusedSimpArgs false
set_option linter.unusedVariables false
set_option linter.unusedSectionVars false
set_option linter.unnecessarySimpa false
section
namespace Go.Proofs.YtlikflolhhlgjaaGreatDoor
open Go.ChangeShapes Go.ChangeMaps Go.WideShapes Go.ChangeAt Go.WideMaps Go.WideElems Go.RowKit Go.Am
theorem T6:ownKnob Tryz.prog.godebug=none:=by kernel_rfl
theorem US {W:World} (h:W.ShapedOpen Tryz.prog):∀ k,O2=some k->∃ n m,lI (snap W) m [.int .i64 n] k 0:=by
 intro k hk;obtain rfl:1=k:=by simpa [O2] using hk
 exact NA (t:=3) (zero:=#[.int .i64 0]) h (by decide +kernel) (by kernel_rfl) rfl (by kernel_rfl) (by kernel_rfl) (by kernel_rfl)
theorem LF:Tryz.prog.globalNamed "lateen/lateenref05.words" = some 0:=by kernel_rfl
theorem L9:(Tryz.prog.globals[0]?).map (·.type)=some 187:=by kernel_rfl
theorem Sd {W:World} (h:laidMetH Tryz.prog Rows.syntaxKeepsRow.laid W):∀ k row,gP k=some row->∃ m,lI (snap W) m row k 0:=by
 intro k row hk;unfold gP at hk;split at hk
 case isFalse=>cases hk
 rename_i h0;subst h0;simp only [V6] at hk;subst hk;rw [MakeChecks.laidMetH_plain _ _ _ (by kernel_rfl)] at h;obtain ⟨ps,⟨_,_,_,_,_,_,_,_,_,_,⟨g0,t0,cs0,f0,p0,q0,hg0,ht0,hv0,hd0,_,_⟩,_⟩,_,_⟩:=h;obtain rfl:=Option.some.inj (LF.symm.trans hg0);obtain rfl:=Option.some.inj (L9.symm.trans ht0);obtain ⟨xs,m1,rfl,hx1,hlen,hn3,hel⟩:=DataW.trod_array Tryz.underlying187 hd0;have c9:Tryz.prog.cellsOf 9=1:=by kernel_rfl
 simp only [Prod.mk.injEq] at hx1;have hx2:(DataW.agg (gw.map fun l=>DataW.lit (.string l)):DataW Unit)=.agg (xs.map (·.1)):=hx1.1
 simp only [DataW.agg.injEq] at hx2;refine Az (fun j hj=>?_);rw [Wc] at hj;have hj35:j < 35:=hj
 have e:=hel j hj35
 have hjx:j<xs.length:=by omega
 rw [c9,Nat.mul_one,V8 hjx] at e;obtain ⟨s,hs1,hs2,_⟩:=DataW.trod_string Tryz.underlying9 e;have hc:cs0.toList[j]? = some (.string s):=by
  have:=congrArg (fun l:List Value=>l[0]?) hs1
  simpa using this
 have hw:s.data.toList=gw.getD j default:=by
  have h3:=congrArg (fun l:List (DataW Unit)=>l[j]?) hx2
  simp only [Wa,V8 hjx,Option.map_some,hs2] at h3;rw [V8 hj] at h3;simp only [Option.map_some,V6,DataW.lit.injEq,Lit.string.injEq] at h3;rw [List.getD,V8 hj];exact h3.symm
 refine ⟨.string s,?_,0,?_⟩
 ·have:=World.var?_cell hg0 hv0 j
  show W.cell? ⟨0,0+j,none⟩=_
  rw [Xu,this];simpa using hc
 ·have hg:(gw.map D.str).getD j default=D.str (gw.getD j default):=by
   rw [List.getD,Wa,List.getD,V8 hj]; rfl
  rw [hg,<- hw];refine ⟨by simp,?_⟩;rw [hw];have:=U3 j
  unfold BIG; omega
theorem Tr (os:Os) (args:Array Value):laidMetH Tryz.prog Rows.syntaxKeepsRow.laid ((World.laidAll Tryz.prog os Rows.syntaxKeepsRow.laid).forCall (fun _ _=>0) ⟨#[],args,[]⟩).memory:=by
 rw [MakeChecks.laidMetH_plain _ _ _ (by kernel_rfl)]; exact laidMet_laidAll _ (by kernel_rfl) (by kernel_rfl)
set_option maxRecDepth 100000 in
theorem A0 (os:Os) (started:os.Started) (H:Type) (enc:TypeId×Value->H) :
  ReturnsInHanded {} Tryz.checked os 4 .any (fun w args=>(Rows.syntaxKeepsSpec.pre enc Tryz.prog Tryz.f4 [] false w args/\laidMetH Tryz.prog Rows.syntaxKeepsRow.laid w)/\sizedMet enc Tryz.prog Tryz.f4 (OpenSpec.ofChange Rows.syntaxKeepsSpec) false w args) (Rows.syntaxKeepsSpec.post enc Tryz.prog Tryz.f4 false true false false):=by
 refine rj (C:=Tryz.checked) (X:=fun w _=>laidMetH Tryz.prog Rows.syntaxKeepsRow.laid w) (fun _ _ _ hh h=>h.of_heap hh) T6 started (by kernel_rfl) Tryz.func4
  (ChangeSpec.witness_shaped (enc:=enc) (C:=Tryz.checked) (os:=os) (X:=fun w _=>laidMetH Tryz.prog Rows.syntaxKeepsRow.laid w) false (World.laidAll Tryz.prog os Rows.syntaxKeepsRow.laid) #[.string ⟨#[]⟩] 8 (World.laidAll_os _ _ _) (World.shaped_of_ZipB (by kernel_rfl) (by kernel_rfl)) (by kernel_rfl) (by kernel_rfl) (by kernel_rfl) (Tr os _)) ?_
 intro W base args ds gs before hval0 hW hsz0 hL hsh;have hsz:(DataW.weightsEach Tryz.prog (Tryz.f4.params.toList++Rows.syntaxKeepsSpec.plain.varTypes Tryz.prog) (ds++gs)).all (·<=reachBytes)=true:=hsz0
 clear hsz0;have hval:∀ (j:Nat) t v,Tryz.f4.params[j]? = some t->args[j]? = some v->Value.okWide Tryz.prog W .any base t v:=hval0
 have hW':=hW
 obtain ⟨p,q,hA0,hV,rfl,_,_⟩:=hW;have hA:DataW.TrodAll enc Tryz.prog W 0 (fun _=>true) true Tryz.f4.params.toList args.toList ds p:=hA0
 rw [Tryz.params4] at hA hval hsz;obtain ⟨v0,d0,rfl,rfl,h0⟩:=trodAll_one hA;obtain ⟨rfl,rfl⟩:=trodVars_none hV;obtain ⟨s0,rfl,rfl,rfl,w0⟩:=open_string Tryz.underlying9 (hval 0 9 v0 rfl rfl) h0;clear hA0 hval0;simp only [XC] at hW';have hl0:s0.data.toList.length<=140737488351232:=by
  have:=Wj.1 hsz _ (DataW.weights_mem_each (P:=Tryz.prog) (j:=0) (t:=9) (d:=.lit (.string s0.data.toList)) rfl rfl s0.data.toList.length (by simp [DataW.weights]))
  have:=of_decide_eq_true this
  unfold reachBytes at this;exact this
 have hcall:=CA W s0.data.toList (by unfold BIG; omega) ⟨Sd hL,US hsh⟩
 rw [show (⟨s0.data.toList.toArray⟩:ByteArray)=s0 from by simp] at hcall;refine hcall.mono fun e W' ⟨v,he,hv,hb⟩=>?_
 subst he; subst hv;exact ⟨_,rfl,_,_,_,[],[],[],hW',trodAll_mk1 (shut_bool Tryz.underlying4 true),trodAll_mk1 (shut_string Tryz.underlying9 w0),rfl,hb.frame _,fun h=>by cases h⟩
theorem MT:Rows.SyntaxKeepsSaid:=
 OpenClaim.holds_of_wide 4 Tryz.f4 rfl rfl rfl rfl rfl rfl rfl ⟨rfl,rfl,rfl,rfl,rfl⟩ rfl rfl rfl rfl rfl (by kernel_rfl) Tryz.func4 (by kernel_rfl)
  (of_decide_eq_true (by kernel_rfl)) (by unfold Func.isWrapper; first | (rw [if_pos (by decide +kernel)]; kernel_rfl) | (rw [if_neg (by decide +kernel)]; exact ⟨rfl,rfl⟩))
  (fun os started H enc _=>A0 os started H enc)
theorem keeps_holds:Rows.SyntaxKeepsCardSaid:=
 Claim7.holds_tied_plain_at .later [] [.data,.data,.pinned] true (true, "9da83e1c6d76c49cf458950506eca06a17840cb35261018a01ae1822ddcfbe6f") true
  MT (fun _ h=>by cases h) (by kernel_rfl) (fun _ h=>by cases h) syntaxKeeps_row_tie rfl ⟨rfl,rfl⟩ (by kernel_rfl) rfl
  (fun f fn hf hfn=>by
   obtain rfl:f=4:=Option.some.inj ((show Tryz.prog.funcNamed "lateen/lateenlaw05.SyntaxKeeps" = some 4 by kernel_rfl).symm.trans hf) |>.symm
   obtain rfl:fn=Tryz.f4:=(Option.some.inj (Tryz.func4.symm.trans hfn)).symm;exact ⟨by kernel_rfl,fun j t ht=>by
    rw [Tryz.params4] at ht;have hm:t∈[9]:=by simpa using Array.mem_of_getElem? ht
    have hall:([9].all fun u=>!Tryz.prog.wantsStandIn u)=true:=by kernel_rfl
    exact (show Tryz.prog.wantsStandIn t=false by simpa using Wj.1 hall t hm)⟩)
  (by kernel_rfl)
end Go.Proofs.YtlikflolhhlgjaaGreatDoor
#print axioms Go.Proofs.YtlikflolhhlgjaaGreatDoor.keeps_holds
end
