/-
  SplitKeeps: what is handed in stays; what is answered shares no list of blocks, phis or ends with it. The card's listed variables are tied to the program's text.
-/
import Derived.Test.YtjccmeppajblpaaGreatDoorSk20
import Derived.Test.YtjccmeppajblpaaGreatDoorRows
import Derived.Test.YtjccmeppajblpaaGreatDoorCards
import Derived.Test.YtjccmeppajblpaaGreatDoorTie
import Derived.ChangeMaps5
import Derived.Stop.Joined
import Derived.SevenTiedAt
set_option linter.unusedSimpArgs false
set_option linter.unusedVariables false
set_option linter.unusedSectionVars false
set_option linter.unnecessarySimpa false
section
namespace Go.Proofs.YtjccmeppajblpaaGreatDoor
open Go.ChangeShapes Go.ChangeMaps Go.WideShapes Go.ChangeAt Go.WideMaps Go.WideElems Go.RowKit Go.Am
theorem am_own:ownKnob Tryz.prog.godebug=none:=by kernel_rfl
theorem am_max {W:World} (h:W.ShapedOpen Tryz.prog):∀ k,maxK=some k->∃ n m,FRow (snap W) m [.int .i64 n] k 0:=by
 intro k hk
 obtain rfl:1=k:=by simpa [maxK] using hk
 exact FRow_int (t:=3) (zero:=#[.int .i64 0]) h (by decide +kernel) (by kernel_rfl) rfl (by kernel_rfl) (by kernel_rfl) (by kernel_rfl)
theorem am_inR {n:Int} (h:okI .i64 n):Lt.inR n:=by
 unfold okI at h
 simp only [Lit.wf,Bool.and_eq_true,decide_eq_true_eq] at h
 have h1:IntKind.i64.min=-9223372036854775808:=by decide
 have h2:IntKind.i64.max=9223372036854775807:=by decide
 rw [h1,h2] at h
 exact ⟨h.1,by omega⟩
theorem am_arg {a:Lt.Arg} (h:a.okr):a.ok:=am_inR h.2.2
theorem am_instr {i:Lt.Instr} (h:i.okr):i.ok:=
 ⟨fun a ha=>am_arg (h.2.2.2.1.2 a ha),fun f hf=>⟨by have:=(h.2.2.2.2.1.2 f hf).2.2.2.1; omega,fun b hb=>am_arg ((h.2.2.2.2.1.2 f hf).2.2.2.2 b hb).2⟩,fun o ho a ha=>am_arg ((h.2.2.2.2.2.2 o ho).2.2 a ha)⟩
theorem am_phi {x:Lt.Phi} (h:x.okr):x.ok:=⟨by have:=h.2.1; omega,fun i hi=>am_arg (h.2.2 i hi).2⟩
theorem am_term {t:Lt.Term} (h:t.okr):t.ok:=⟨am_arg h.2.1,am_inR h.2.2.2⟩
theorem am_block {b:Lt.Block} (h:b.okr):b.ok:=⟨fun x hx=>am_phi (h.2.1.2 x hx),fun i hi=>am_instr (h.2.2.1.2 i hi),am_term h.2.2.2⟩
theorem am_short {s:List UInt8} (h:okS s):short s:=by unfold okS at h; unfold short; omega
theorem am_sVar {v:Lt.Var} (h:v.okr):sVar v:=⟨am_short h.1,am_short h.2⟩
theorem am_sArg {a:Lt.Arg} (h:a.okr):sArg a:=am_short h.2.1
theorem am_sInstr {i:Lt.Instr} (h:i.okr):sInstr i:=
 ⟨am_short h.2.1,am_short h.2.2.1,fun a ha=>am_sArg (h.2.2.2.1.2 a ha),fun f hf=>(fun (k:f.okr)=>⟨am_short k.1,am_short k.2.1,fun b hb=>⟨am_short (k.2.2.2.2 b hb).1,am_sArg (k.2.2.2.2 b hb).2⟩⟩) (h.2.2.2.2.1.2 f hf),fun o ho=>⟨am_short (h.2.2.2.2.2.2 o ho).1,fun a ha=>am_sArg ((h.2.2.2.2.2.2 o ho).2.2 a ha)⟩⟩
theorem am_sPhi {x:Lt.Phi} (h:x.okr):sPhi x:=⟨am_short h.1,fun i hi=>⟨am_short (h.2.2 i hi).1,am_sArg (h.2.2 i hi).2⟩⟩
theorem am_sBlock {b:Lt.Block} (h:b.okr):sBlock b:=⟨am_short h.1,am_sArg h.2.2.2.2.1,fun t ht=>am_short (h.2.2.2.2.2.1.2 t ht),fun x hx=>am_sPhi (h.2.1.2 x hx),fun i hi=>am_sInstr (h.2.2.1.2 i hi)⟩
theorem am_pre {f:Lt.Func} (h:f.okr):Lt.preSK f:=by
 have hs:sFunc f:=⟨am_short h.1,am_short h.2.1,fun v hv=>am_sVar (h.2.2.1.2 v hv),fun v hv=>am_sVar (h.2.2.2.1.2 v hv),fun b hb=>am_sBlock (h.2.2.2.2.2 b hb)⟩
 have ho:f.ok:=fun b hb=>am_block (h.2.2.2.2.2 b hb)
 have hi:∀ b∈f.Blocks,∀ i∈b.Code,∀ r∈i.Frames,Lt.inR r.At:=fun b hb i hi r hr=>am_inR (((h.2.2.2.2.2 b hb).2.2.1.2 i hi).2.2.2.2.1.2 r hr).2.2.1
 have hw:Lt.FewFunc f 3000<=3000->wFunc f<=3000:=fun hf=>by
  have:=FewFunc_P f hs
  unfold Pc at this
  omega
 refine ⟨ho,hi,fun hf=>?_,fun hf=>?_⟩
 ·have h1:=hw hf
  have h2:=func_len ho hi
  have e:Lt.rLines ⟨false,[],[],[],[f]⟩=Lt.rFuncT f:=by simp [Lt.rLines,Lt.rVarsT]
  rw [e]; unfold Lt.room; omega
 ·have h1:=hw hf
  unfold wFunc wVars at h1
  omega
theorem am_laidOut:laidOutB Tryz.prog=true:=by kernel_rfl
theorem am_enc (x:Lt.Func):avs0 [.st .Func] x=[.one (.agg (x.enc.map T.d))]:=by
 obtain ⟨a,b,c,d,e⟩:=x
 rfl
theorem am_gWords:Tryz.prog.globalNamed "lateen/lateenref05.words" = some 0:=by kernel_rfl
theorem am_tWords:(Tryz.prog.globals[0]?).map (·.type)=some 151:=by kernel_rfl
theorem am_glob {W:World} (h:laidMetH Tryz.prog Rows.splitKeepsRow.laid W):∀ k row,globT k=some row->∃ m,FRow (snap W) m row k 0:=by
 intro k row hk
 unfold globT at hk
 split at hk
 case isFalse=>cases hk
 rename_i h0
 subst h0
 simp only [Option.some.injEq] at hk
 subst hk
 rw [MakeChecks.laidMetH_plain _ _ _ (by kernel_rfl)] at h
 obtain ⟨ps,⟨_,_,_,_,_,_,_,_,_,_,⟨g0,t0,cs0,f0,p0,q0,hg0,ht0,hv0,hd0,_,_⟩,_⟩,_,_⟩:=h
 obtain rfl:=Option.some.inj (am_gWords.symm.trans hg0)
 obtain rfl:=Option.some.inj (am_tWords.symm.trans ht0)
 obtain ⟨xs,m1,rfl,hx1,hlen,hn3,hel⟩:=DataW.trod_array Tryz.underlying151 hd0
 have c9:Tryz.prog.cellsOf 9=1:=by kernel_rfl
 simp only [Prod.mk.injEq] at hx1
 have hx2:(DataW.agg (gw.map fun l=>DataW.lit (.string l)):DataW Unit)=.agg (xs.map (·.1)):=hx1.1
 simp only [DataW.agg.injEq] at hx2
 refine FRow_of_x (fun j hj=>?_)
 rw [List.length_map] at hj
 have hj35:j < 35:=hj
 have e:=hel j hj35
 have hjx:j<xs.length:=by omega
 rw [c9,Nat.mul_one,List.getElem?_eq_getElem hjx] at e
 obtain ⟨s,hs1,hs2,_⟩:=DataW.trod_string Tryz.underlying9 e
 have hc:cs0.toList[j]? = some (.string s):=by
  have:=congrArg (fun l:List Value=>l[0]?) hs1
  simpa using this
 have hw:s.data.toList=gw.getD j default:=by
  have h3:=congrArg (fun l:List (DataW Unit)=>l[j]?) hx2
  simp only [List.getElem?_map,List.getElem?_eq_getElem hjx,Option.map_some,hs2] at h3
  rw [List.getElem?_eq_getElem hj] at h3
  simp only [Option.map_some,Option.some.injEq,DataW.lit.injEq,Lit.string.injEq] at h3
  rw [List.getD,List.getElem?_eq_getElem hj]
  exact h3.symm
 refine ⟨.string s,?_,0,?_⟩
 ·have:=World.var?_cell hg0 hv0 j
  show W.cell? ⟨0,0+j,none⟩=_
  rw [Nat.zero_add,this]
  simpa using hc
 ·have hg:(gw.map D.str).getD j default=D.str (gw.getD j default):=by
   rw [List.getD,List.getElem?_map,List.getD,List.getElem?_eq_getElem hj]; rfl
  rw [hg,<- hw]
  refine ⟨by simp,?_⟩
  rw [hw]
  have:=gw_len j
  unfold BIG; omega
theorem am_met (os:Os) (args:Array Value):laidMetH Tryz.prog Rows.splitKeepsRow.laid ((World.laidAll Tryz.prog os Rows.splitKeepsRow.laid).forCall (fun _ _=>0) ⟨#[],args,[]⟩).memory:=by
 rw [MakeChecks.laidMetH_plain _ _ _ (by kernel_rfl)]; exact laidMet_laidAll _ (by kernel_rfl) (by kernel_rfl)
set_option maxRecDepth 100000 in
theorem keeps_lifted (os:Os) (started:os.Started) (H:Type) (enc:TypeId×Value->H) :
  ReturnsInHanded {} Tryz.checked os 3 .any (fun w args=>(Rows.splitKeepsSpec.pre enc Tryz.prog Tryz.f3 [] false w args/\laidMetH Tryz.prog Rows.splitKeepsRow.laid w)/\sizedMet enc Tryz.prog Tryz.f3 (OpenSpec.ofChange Rows.splitKeepsSpec) false w args) (Rows.splitKeepsSpec.post enc Tryz.prog Tryz.f3 false true false false):=by
 refine change_and_shaped (C:=Tryz.checked) (X:=fun w _=>laidMetH Tryz.prog Rows.splitKeepsRow.laid w) (fun _ _ _ hh h=>h.of_heap hh) am_own started (by kernel_rfl) Tryz.func3
  (ChangeSpec.witness_shaped (enc:=enc) (C:=Tryz.checked) (os:=os) (X:=fun w _=>laidMetH Tryz.prog Rows.splitKeepsRow.laid w) false (World.laidAll Tryz.prog os Rows.splitKeepsRow.laid) #[.agg #[.string ⟨#[]⟩,.string ⟨#[]⟩,.slice none 0 0,.slice none 0 0,.slice none 0 0]] 8 (World.laidAll_os _ _ _) (World.shaped_of_ZipB (by kernel_rfl) (by kernel_rfl)) (by kernel_rfl) (by kernel_rfl) (by kernel_rfl) (am_met os _)) ?_
 intro W base args ds gs before hval0 hW hsz0 hL hsh
 have hsz:(DataW.weightsEach Tryz.prog (Tryz.f3.params.toList++Rows.splitKeepsSpec.plain.varTypes Tryz.prog) (ds++gs)).all (·<=reachBytes)=true:=hsz0
 clear hsz0
 have hval:∀ (j:Nat) t v,Tryz.f3.params[j]? = some t->args[j]? = some v->Value.okWide Tryz.prog W .any base t v:=hval0
 have hW':=hW
 obtain ⟨p,q,hA0,hV,rfl,_,_⟩:=hW
 have hA:DataW.TrodAll enc Tryz.prog W 0 (fun _=>true) true Tryz.f3.params.toList args.toList ds p:=hA0
 have hlt:∀ x∈p++q,x.block<W.heap.size:=hW'.lt
 rw [Tryz.params3] at hA hval hsz
 obtain ⟨v0,d0,rfl,rfl,h0⟩:=trodAll_one hA
 obtain ⟨rfl,rfl⟩:=trodVars_none hV
 obtain ⟨cs,hv0,_⟩:=okWide_struct Tryz.underlying25 (hval 0 25 v0 rfl rfl)
 clear hA0 hval0
 simp only [List.append_nil] at hW' hlt
 obtain ⟨fuel,htr⟩:=h0
 obtain ⟨pr,hok,hr,hl⟩:=Reads_Func W H enc fuel _ _ htr (fun n hn=>by
  have:=List.all_eq_true.1 hsz n (DataW.weights_mem_each (j:=0) (t:=25) (d:=d0) rfl rfl n hn)
  simpa using this)
 have hpre:=am_pre hok
 have hcall:=Calls_walk (P:=Tryz.prog) (f:=3) (fn:=Tryz.f3) (c:=Tryz.f3.body.getD .skip) Tryz.func3 (by kernel_rfl) [v0] [.one (.agg (pr.enc.map T.d))] W (show 1<=Tryz.f3.ntmps by decide +kernel) rfl
  (fun i v hi=>by
   match i,hi with
   | 0,hi=>simp only [List.getElem?_cons_zero,Option.some.injEq] at hi; subst hi; exact ⟨_,rfl,AR_struct hv0 hr hl⟩
   | i+1,hi=>simp at hi)
  ⟨am_glob hL,am_max hsh⟩
  (fun r=>r=o1 cB true)
  (fun g hg=>by
   have h1:=AW_bodyT (K:=fun r=>r=o1 cB true) (en_SplitKeeps) mixed (fn:=Tryz.f3) (an:=an_SplitKeeps) (ps:=[.st .Func]) (rs:=[.bo]) hg (by kernel_rfl) (x:=pr) (KK:=fun r=>r=true) (fun r h=>by subst h; rfl) (Eq.mp (walk_SplitKeeps pr _) (law_SplitKeeps pr hpre _ rfl))
   rw [am_enc] at h1
   exact h1)
 refine hcall.mono fun e W' ⟨v,r,H',γ',m',he,hr',har,hb⟩=>?_
 subst he; subst hr'
 obtain rfl:=AR_true har
 exact ⟨_,rfl,_,_,_,[],p,[],hW',trodAll_mk1 (shut_bool Tryz.underlying4 true),(trodAll_mk1 (Below.trod am_laidOut (by kernel_rfl) (of_decide_eq_true (by kernel_rfl)) ⟨fuel,htr⟩ hb (fun x hx=>hlt x hx))),rfl,hb.frame _,fun h=>by cases h⟩
theorem keeps_row:Rows.SplitKeepsSaid:=
 OpenClaim.holds_of_wide 3 Tryz.f3 rfl rfl rfl rfl rfl rfl rfl ⟨rfl,rfl,rfl,rfl,rfl⟩ rfl rfl rfl rfl rfl (by kernel_rfl) Tryz.func3 (by kernel_rfl)
  (of_decide_eq_true (by kernel_rfl)) (by unfold Func.isWrapper; first | (rw [if_pos (by decide +kernel)]; kernel_rfl) | (rw [if_neg (by decide +kernel)]; exact ⟨rfl,rfl⟩))
  (fun os started H enc _=>keeps_lifted os started H enc)
theorem keeps_holds:Rows.SplitKeepsCardSaid:=
 Claim7.holds_tied_plain_at .later [] [.data,.data,.pinned] true (true, "3acb03833786e5ea69b5814b6a92f05bfb06a46c88f4b190c15950b711fc1965") true
  keeps_row (fun _ h=>by cases h) (by kernel_rfl) (fun _ h=>by cases h) splitKeeps_row_tie rfl ⟨rfl,rfl⟩ (by kernel_rfl) rfl
  (fun f fn hf hfn=>by
   obtain rfl:f=3:=Option.some.inj ((show Tryz.prog.funcNamed "lateen/lateenlaw17.SplitKeeps" = some 3 by kernel_rfl).symm.trans hf) |>.symm
   obtain rfl:fn=Tryz.f3:=(Option.some.inj (Tryz.func3.symm.trans hfn)).symm
   exact ⟨by kernel_rfl,fun j t ht=>by
    rw [Tryz.params3] at ht
    have hm:t∈[25]:=by simpa using Array.mem_of_getElem? ht
    have hall:([25].all fun u=>!Tryz.prog.wantsStandIn u)=true:=by kernel_rfl
    exact (show Tryz.prog.wantsStandIn t=false by simpa using List.all_eq_true.1 hall t hm)⟩)
  (by kernel_rfl)
end Go.Proofs.YtjccmeppajblpaaGreatDoor
#print axioms Go.Proofs.YtjccmeppajblpaaGreatDoor.keeps_holds
end
