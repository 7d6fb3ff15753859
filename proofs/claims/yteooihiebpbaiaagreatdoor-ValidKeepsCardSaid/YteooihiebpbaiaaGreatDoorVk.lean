/-
  ValidKeeps: whether a program is valid is asked without changing it. The card's listed variables are tied to the program's text.
-/
import Derived.Test.YteooihiebpbaiaaGreatDoorVk23
import Derived.Test.YteooihiebpbaiaaGreatDoorCards
import Derived.Test.YteooihiebpbaiaaGreatDoorTie
import Derived.ChangeMaps5
import Derived.Stop.Joined
import Derived.SevenTiedAt
set_option linter.unusedSimpArgs false
set_option linter.unusedVariables false
set_option linter.unusedSectionVars false
set_option linter.unnecessarySimpa false
open Lt
open Go.Proofs.Tryz
section
namespace Go.Proofs.YteooihiebpbaiaaGreatDoor
open Go.ChangeShapes Go.ChangeMaps Go.WideShapes Go.ChangeAt Go.WideMaps Go.WideElems Go.RowKit Go.Am
theorem T2:ownKnob prog.godebug=none:=Z0
theorem T0{W:World}(h:W.ShapedOpen prog):∀k,RY=some k->∃n m,wz (snap W) m [.int .i64 n] k 0:=by
 intro k hk;obtain rfl:1=k:=by simpa[RY]using hk
 exact ML (t:=3) (zero:=#[.int .i64 0]) h (by decide +kernel) Z0 rfl Z0 Z0 Z0
theorem yT{n:Int}(h:okI .i64 n):Lt.inR n:=by
 unfold okI at h;simp only[Lit.wf,WI,decide_eq_true_eq]at h;have h1:IntKind.i64.min=-9223372036854775808:=by decide
 have h2:IntKind.i64.max=9223372036854775807:=by decide
 rw[h1,h2]at h;exact⟨h.1,by omega⟩
theorem uk{a:Lt.Arg}(h:a.okr):a.ok:=yT h.2.2
theorem Nu{i:Lt.Instr}(h:i.okr):i.ok:=
 ⟨fun a ha=>uk (h.2.2.2.1.2 a ha),fun f hf=>⟨by have:=(h.2.2.2.2.1.2 f hf).2.2.2.1;omega,fun b hb=>uk ((h.2.2.2.2.1.2 f hf).2.2.2.2 b hb).2⟩,fun o ho a ha=>uk ((h.2.2.2.2.2.2 o ho).2.2 a ha)⟩
theorem T3{x:Lt.Phi}(h:x.okr):x.ok:=⟨by have:=h.2.1;omega,fun i hi=>uk (h.2.2 i hi).2⟩
theorem Qz{t:Lt.Term}(h:t.okr):t.ok:=⟨uk h.2.1,yT h.2.2.2⟩
theorem Nt{b:Lt.Block}(h:b.okr):b.ok:=⟨fun x hx=>T3 (h.2.1.2 x hx),fun i hi=>Nu (h.2.2.1.2 i hi),Qz h.2.2.2⟩
theorem IJ{p:Lt.Program}(h:p.okr):p.ok:=fun f hf b hb=>Nt (((h.2.2.2.2.2 f hf).2.2.2.2.2) b hb)
theorem bR{s:List UInt8}(h:okS s):short s:=by unfold okS at h;unfold short;omega
theorem tj{v:Lt.Var}(h:v.okr):DC v:=⟨bR h.1,bR h.2⟩
theorem pK{a:Lt.Arg}(h:a.okr):wd a:=bR h.2.1
theorem Ki{i:Lt.Instr}(h:i.okr):wg i:=
 ⟨bR h.2.1,bR h.2.2.1,fun a ha=>pK (h.2.2.2.1.2 a ha),fun f hf=>(fun(k:f.okr)=>⟨bR k.1,bR k.2.1,fun b hb=>⟨bR (k.2.2.2.2 b hb).1,pK (k.2.2.2.2 b hb).2⟩⟩) (h.2.2.2.2.1.2 f hf),fun o ho=>⟨bR (h.2.2.2.2.2.2 o ho).1,fun a ha=>pK ((h.2.2.2.2.2.2 o ho).2.2 a ha)⟩⟩
theorem Qy{x:Lt.Phi}(h:x.okr):SB x:=⟨bR h.1,fun i hi=>⟨bR (h.2.2 i hi).1,pK (h.2.2 i hi).2⟩⟩
theorem Kh{b:Lt.Block}(h:b.okr):we b:=⟨bR h.1,pK h.2.2.2.2.1,fun t ht=>bR (h.2.2.2.2.2.1.2 t ht),fun x hx=>Qy (h.2.1.2 x hx),fun i hi=>Ki (h.2.2.1.2 i hi)⟩
theorem Bp{p:Lt.Program}(h:p.okr):PM p:=
 ⟨fun c hc=>⟨bR (h.2.1.2 c hc).1,fun v hv=>tj ((h.2.1.2 c hc).2.2 v hv)⟩,fun v hv=>tj (h.2.2.1.2 v hv),fun e he=>bR (h.2.2.2.1.2 e he).1,
  fun f hf=>(fun(k:f.okr)=>⟨bR k.1,bR k.2.1,fun v hv=>tj (k.2.2.1.2 v hv),fun v hv=>tj (k.2.2.2.1.2 v hv),fun b hb=>Kh (k.2.2.2.2.2 b hb)⟩) (h.2.2.2.2.2 f hf)⟩
theorem T4{p:Lt.Program}(h:p.okr):vM p:=by
 have he:∀e∈p.Externs,Lt.inR e.N:=fun e he=>yT (h.2.2.2.1.2 e he).2
 have hn:∀f∈p.Funcs,∀b∈f.Blocks,∀i∈b.Code,∀r∈i.Frames,Lt.inR r.At:=fun f hf b hb i hi r hr=>
  yT ((((h.2.2.2.2.2 f hf).2.2.2.2.2 b hb).2.2.1.2 i hi).2.2.2.2.1.2 r hr).2.2.1
 exact⟨IJ h,he,hn,fun hf=>⟨SW (Td (Bp h) hf).1,Qj (Bp h) (IJ h) he hn hf⟩⟩
theorem EE:laidOutB prog=true:=Z0
theorem TZ(x:Lt.Program):eL [.st .Program] x=[.one (.agg (x.enc.map T.d))]:=by
 obtain⟨a,b,c,d,e⟩:=x;rfl
theorem Kg:prog.globalNamed "lateen/lateenref05.words" = some 0:=Z0
theorem Kj:(prog.globals[0]?).map (·.type)=some 193:=Z0
theorem Qx{W:World}(h:laidMetH prog Rows.validKeepsRow.laid W):∀k row,og k=some row->∃m,wz (snap W) m row k 0:=by
 intro k row hk;unfold og at hk;split at hk
 case isFalse=>cases hk
 rename_i h0;subst h0;simp only[WG]at hk;subst hk;rw[MakeChecks.laidMetH_plain _ _ _ Z0]at h;obtain⟨ps,⟨_,_,_,_,_,_,_,_,_,_,⟨g0,t0,cs0,f0,p0,q0,hg0,ht0,hv0,hd0,_,_⟩,_⟩,_,_⟩:=h;obtain rfl:=Option.some.inj (Kg.symm.trans hg0);obtain rfl:=Option.some.inj (Kj.symm.trans ht0);obtain⟨xs,m1,rfl,hx1,hlen,hn3,hel⟩:=DataW.trod_array underlying193 hd0;have c9:prog.cellsOf 9=1:=by kernel_rfl
 simp only[Prod.mk.injEq]at hx1;have hx2:(DataW.agg (gw.map fun l=>DataW.lit (.string l)):DataW Unit)=.agg (xs.map (·.1)):=hx1.1
 simp only[DataW.agg.injEq]at hx2;refine xl (fun j hj=>?_);rw[WJ]at hj;have hj35:j < 35:=hj
 have e:=hel j hj35
 have hjx:j<xs.length:=by omega
 rw[c9,Nat.mul_one,WH hjx]at e;obtain⟨s,hs1,hs2,_⟩:=DataW.trod_string underlying9 e;have hc:cs0.toList[j]? = some (.string s):=by
  have:=congrArg (fun l:List Value=>l[0]?) hs1
  simpa using this
 have hw:s.data.toList=gw.getD j default:=by
  have h3:=congrArg (fun l:List (DataW Unit)=>l[j]?) hx2
  simp only[WK,WH hjx,Option.map_some,hs2]at h3;rw[WH hj]at h3;simp only[Option.map_some,WG,DataW.lit.injEq,Lit.string.injEq]at h3;rw[List.getD,WH hj];exact h3.symm
 refine⟨.string s,?_,0,?_⟩
 ·have:=World.var?_cell hg0 hv0 j
  refine Ah ?_;rw[Xy,this];simpa using hc
 ·have hg:(gw.map D.str).getD j default=D.str (gw.getD j default):=by
   rw[List.getD,WK,List.getD,WH hj];rfl
  rw[hg,<- hw];refine⟨by simp,?_⟩;rw[hw];have:=Ox j
  unfold BIG;omega
theorem T1(os:Os)(args:Array Value):laidMetH prog Rows.validKeepsRow.laid ((World.laidAll prog os Rows.validKeepsRow.laid).forCall (fun _ _=>0) ⟨#[],args,[]⟩).memory:=by
 rw[MakeChecks.laidMetH_plain _ _ _ Z0];exact laidMet_laidAll _ Z0 Z0
set_option maxRecDepth 100000 in
theorem zw(os:Os)(started:os.Started)(H:Type)(enc:TypeId×Value->H) :
  ReturnsInHanded {} Tryz.checked os 4 .any (fun w args=>(Rows.validKeepsSpec.pre enc prog f4 [] false w args/\laidMetH prog Rows.validKeepsRow.laid w)/\sizedMet enc prog f4 (OpenSpec.ofChange Rows.validKeepsSpec) false w args) (Rows.validKeepsSpec.post enc prog f4 false true false false):=by
 refine pR (C:=Tryz.checked) (X:=fun w _=>laidMetH prog Rows.validKeepsRow.laid w) (fun _ _ _ hh h=>h.of_heap hh) T2 started Z0 func4
  (ChangeSpec.witness_shaped (enc:=enc) (C:=Tryz.checked) (os:=os) (X:=fun w _=>laidMetH prog Rows.validKeepsRow.laid w) false (World.laidAll prog os Rows.validKeepsRow.laid) #[.agg #[.bool false,.slice none 0 0,.slice none 0 0,.slice none 0 0,.slice none 0 0]] 8 (World.laidAll_os _ _ _) (World.shaped_of_ZipB Z0 Z0) Z0 Z0 Z0 (T1 os _)) ?_
 intro W base args ds gs before hval0 hW hsz0 hL hsh;have hsz:(DataW.weightsEach prog (f4.params.toList++Rows.validKeepsSpec.plain.varTypes prog) (ds++gs)).all (·<=reachBytes)=true:=hsz0
 clear hsz0;have hval:∀(j:Nat)t v,f4.params[j]? = some t->args[j]? = some v->Value.okWide prog W .any base t v:=hval0
 have hW':=hW
 obtain⟨p,q,hA0,hV,rfl,_,_⟩:=hW;have hA:DataW.TrodAll enc prog W 0 (fun _=>true) true f4.params.toList args.toList ds p:=hA0
 have hlt:∀x∈p++q,x.block<W.heap.size:=hW'.lt
 rw[Tryz.params4]at hA hval hsz;obtain⟨v0,d0,rfl,rfl,h0⟩:=trodAll_one hA;obtain⟨rfl,rfl⟩:=trodVars_none hV;obtain⟨cs,hv0,_⟩:=okWide_struct underlying27 (hval 0 27 v0 rfl rfl);clear hA0 hval0;simp only[X4]at hW' hlt;obtain⟨fuel,htr⟩:=h0;obtain⟨pr,hok,hr,hl⟩:=wA W H enc fuel _ _ htr (fun n hn=>by
  have:=WY.1 hsz n (DataW.weights_mem_each (j:=0) (t:=27) (d:=d0) rfl rfl n hn)
  simpa using this)
 have hpre:=T4 hok
 have hcall:=D8 (P:=prog) (f:=4) (fn:=f4) (c:=f4.body.getD .skip) func4 Z0 [v0] [.one (.agg (pr.enc.map T.d))] W (show 1<=f4.ntmps by decide +kernel) rfl
  (fun i v hi=>by
   match i,hi with
   |0,hi=>simp only[Xi,WG]at hi;subst hi;exact⟨_,rfl,JC hv0 hr hl⟩
   |i+1,hi=>simp at hi)
  ⟨Qx hL,T0 hsh⟩
  (fun r=>r=o1 cB true)
  (fun g hg=>by
   have h1:=tN (K:=fun r=>r=o1 cB true) (wD) mixed (fn:=f4) (an:=n3) (ps:=[.st .Program]) (rs:=[.bo]) hg Z0 (x:=pr) (KK:=fun r=>r=true) (fun r h=>by subst h;rfl) (Eq.mp (ta pr _) (vb pr hpre _ rfl))
   rw[TZ]at h1;exact h1)
 refine hcall.mono fun e W'⟨v,r,H',γ',m',he,hr',har,hb⟩=>?_
 subst he;subst hr';obtain rfl:=Qd har;exact⟨_,rfl,_,_,_,[],p,[],hW',trodAll_mk1 (shut_bool underlying4 true),(trodAll_mk1 (Below.trod EE Z0 (of_decide_eq_true Z0) ⟨fuel,htr⟩ hb (fun x hx=>hlt x hx))),rfl,hb.frame _,fun h=>by cases h⟩
theorem Ld:Rows.ValidKeepsSaid:=
 OpenClaim.holds_of_wide 4 f4 rfl rfl rfl rfl rfl rfl rfl ⟨rfl,rfl,rfl,rfl,rfl⟩ rfl rfl rfl rfl rfl Z0 func4 Kf
  (of_decide_eq_true Z0) (by unfold Func.isWrapper;first|(rw[if_pos (by decide +kernel)];kernel_rfl)|(rw[if_neg (by decide +kernel)];exact⟨rfl,rfl⟩))
  (fun os started H enc _=>zw os started H enc)
theorem keeps_holds:Rows.ValidKeepsCardSaid:=
 Claim7.holds_tied_plain_at .later [] [.data,.data,.pinned] true (true, "05b52be5db45b1cb7ca94e5ec1f7d86bd0ff0915feba5aac95279bac9837ece0") true
  Ld (fun _ h=>by cases h) Z0 (fun _ h=>by cases h) validKeeps_row_tie rfl ⟨rfl,rfl⟩ Z0 rfl
  (fun f fn hf hfn=>by
   obtain rfl:f=4:=Option.some.inj ((show prog.funcNamed "lateen/lateenlaw18.ValidKeeps" = some 4 by kernel_rfl).symm.trans hf) |>.symm
   obtain rfl:fn=f4:=(Option.some.inj (func4.symm.trans hfn)).symm;exact⟨by kernel_rfl,fun j t ht=>by
    rw[Tryz.params4]at ht;have hm:t∈[27]:=by simpa using Array.mem_of_getElem? ht
    have hall:([27].all fun u=>!prog.wantsStandIn u)=true:=by kernel_rfl
    exact(show prog.wantsStandIn t=false by simpa using WY.1 hall t hm)⟩)
  Z0
end Go.Proofs.YteooihiebpbaiaaGreatDoor
#print axioms Go.Proofs.YteooihiebpbaiaaGreatDoor.keeps_holds
end
