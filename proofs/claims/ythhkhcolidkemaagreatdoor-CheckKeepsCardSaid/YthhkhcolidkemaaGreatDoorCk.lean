/-
  CheckKeeps: whether a program is a source is asked without changing it. The card's listed variables are tied to the program's text.
-/
import Derived.Test.YthhkhcolidkemaaGreatDoorCk23
import Derived.Test.YthhkhcolidkemaaGreatDoorCards
import Derived.Test.YthhkhcolidkemaaGreatDoorTie
import Derived.ChangeMaps5
import Derived.Stop.Joined
import Derived.SevenTiedAt
set_option linter.unusedSimpArgs false
set_option linter.unusedVariables false
set_option linter.unusedSectionVars false
set_option linter.unnecessarySimpa false
open Lt
open Go.Proofs.Tryz
section
namespace Go.Proofs.YthhkhcolidkemaaGreatDoor
open Go.ChangeShapes Go.ChangeMaps Go.WideShapes Go.ChangeAt Go.WideMaps Go.WideElems Go.RowKit Go.Am
theorem Y4:ownKnob prog.godebug=none:=kQ0
theorem Y2{W:World}(h:W.ShapedOpen prog):∀k,Xu=some k->∃n m,Aj (snap W) m [.int .i64 n] k 0:=by
 intro k hk;obtain rfl:1=k:=by simpa[Xu]using hk
 exact SA (t:=3) (zero:=#[.int .i64 0]) h (by decide +kernel) kQ0 rfl kQ0 kQ0 kQ0
theorem Dj{n:Int}(h:okI .i64 n):Lt.inR n:=by
 unfold okI at h;simp only[Lit.wf,acX,decide_eq_true_eq]at h;have h1:IntKind.i64.min=-9223372036854775808:=by decide
 have h2:IntKind.i64.max=9223372036854775807:=by decide
 rw[h1,h2]at h;exact⟨h.1,by omega⟩
theorem xR{a:Lt.Arg}(h:a.okr):a.ok:=Dj h.2.2
theorem S8{i:Lt.Instr}(h:i.okr):i.ok:=
 ⟨fun a ha=>xR (h.2.2.2.1.2 a ha),fun f hf=>⟨by have:=(h.2.2.2.2.1.2 f hf).2.2.2.1;omega,fun b hb=>xR ((h.2.2.2.2.1.2 f hf).2.2.2.2 b hb).2⟩,fun o ho a ha=>xR ((h.2.2.2.2.2.2 o ho).2.2 a ha)⟩
theorem Y5{x:Lt.Phi}(h:x.okr):x.ok:=⟨by have:=h.2.1;omega,fun i hi=>xR (h.2.2 i hi).2⟩
theorem Wh{t:Lt.Term}(h:t.okr):t.ok:=⟨xR h.2.1,Dj h.2.2.2⟩
theorem S7{b:Lt.Block}(h:b.okr):b.ok:=⟨fun x hx=>Y5 (h.2.1.2 x hx),fun i hi=>S8 (h.2.2.1.2 i hi),Wh h.2.2.2⟩
theorem N2{p:Lt.Program}(h:p.okr):p.ok:=fun f hf b hb=>S7 (((h.2.2.2.2.2 f hf).2.2.2.2.2) b hb)
theorem bN{s:List UInt8}(h:okS s):short s:=by unfold okS at h;unfold short;omega
theorem wB{v:Lt.Var}(h:v.okr):Jn v:=⟨bN h.1,bN h.2⟩
theorem se{a:Lt.Arg}(h:a.okr):zN a:=bN h.2.1
theorem PH{i:Lt.Instr}(h:i.okr):zP i:=
 ⟨bN h.2.1,bN h.2.2.1,fun a ha=>se (h.2.2.2.1.2 a ha),fun f hf=>(fun(k:f.okr)=>⟨bN k.1,bN k.2.1,fun b hb=>⟨bN (k.2.2.2.2 b hb).1,se (k.2.2.2.2 b hb).2⟩⟩) (h.2.2.2.2.1.2 f hf),fun o ho=>⟨bN (h.2.2.2.2.2.2 o ho).1,fun a ha=>se ((h.2.2.2.2.2.2 o ho).2.2 a ha)⟩⟩
theorem Wg{x:Lt.Phi}(h:x.okr):XS x:=⟨bN h.1,fun i hi=>⟨bN (h.2.2 i hi).1,se (h.2.2 i hi).2⟩⟩
theorem PG{b:Lt.Block}(h:b.okr):zO b:=⟨bN h.1,se h.2.2.2.2.1,fun t ht=>bN (h.2.2.2.2.2.1.2 t ht),fun x hx=>Wg (h.2.1.2 x hx),fun i hi=>PH (h.2.2.1.2 i hi)⟩
theorem FU{p:Lt.Program}(h:p.okr):Vp p:=
 ⟨fun c hc=>⟨bN (h.2.1.2 c hc).1,fun v hv=>wB ((h.2.1.2 c hc).2.2 v hv)⟩,fun v hv=>wB (h.2.2.1.2 v hv),fun e he=>bN (h.2.2.2.1.2 e he).1,
  fun f hf=>(fun(k:f.okr)=>⟨bN k.1,bN k.2.1,fun v hv=>wB (k.2.2.1.2 v hv),fun v hv=>wB (k.2.2.2.1.2 v hv),fun b hb=>PG (k.2.2.2.2.2 b hb)⟩) (h.2.2.2.2.2 f hf)⟩
theorem Y6{p:Lt.Program}(h:p.okr):zw p:=by
 have he:∀e∈p.Externs,Lt.inR e.N:=fun e he=>Dj (h.2.2.2.1.2 e he).2
 have hn:∀f∈p.Funcs,∀b∈f.Blocks,∀i∈b.Code,∀r∈i.Frames,Lt.inR r.At:=fun f hf b hb i hi r hr=>
  Dj ((((h.2.2.2.2.2 f hf).2.2.2.2.2 b hb).2.2.1.2 i hi).2.2.2.2.1.2 r hr).2.2.1
 exact⟨N2 h,he,hn,fun hf=>⟨(ZX (Yp (FU h) hf).1).1,V2 (FU h) (N2 h) he hn hf⟩⟩
theorem K0:laidOutB prog=true:=kQ0
theorem Y1(x:Lt.Program):dT [.st .Program] x=[.one (.agg (x.enc.map T.d))]:=by
 obtain⟨a,b,c,d,e⟩:=x;rfl
theorem PF:prog.globalNamed "lateen/lateenref05.words" = some 0:=kQ0
theorem PI:(prog.globals[0]?).map (·.type)=some 210:=kQ0
theorem Wf{W:World}(h:laidMetH prog Rows.checkKeepsRow.laid W):∀k row,qi k=some row->∃m,Aj (snap W) m row k 0:=by
 intro k row hk;unfold qi at hk;split at hk
 case isFalse=>cases hk
 rename_i h0;subst h0;simp only[acV]at hk;subst hk;rw[MakeChecks.laidMetH_plain _ _ _ kQ0]at h;obtain⟨ps,⟨_,_,_,_,_,_,_,_,_,_,⟨g0,t0,cs0,f0,p0,q0,hg0,ht0,hv0,hd0,_,_⟩,_⟩,_,_⟩:=h;obtain rfl:=Option.some.inj (PF.symm.trans hg0);obtain rfl:=Option.some.inj (PI.symm.trans ht0);obtain⟨xs,m1,rfl,hx1,hlen,hn3,hel⟩:=DataW.trod_array underlying210 hd0;have c9:prog.cellsOf 9=1:=by kernel_rfl
 simp only[Prod.mk.injEq]at hx1;have hx2:(DataW.agg (gw.map fun l=>DataW.lit (.string l)):DataW Unit)=.agg (xs.map (·.1)):=hx1.1
 simp only[DataW.agg.injEq]at hx2;refine Bv (fun j hj=>?_);rw[acY]at hj;have hj35:j < 35:=hj
 have e:=hel j hj35
 have hjx:j<xs.length:=by omega
 rw[c9,Nat.mul_one,acW hjx]at e;obtain⟨s,hs1,hs2,_⟩:=DataW.trod_string underlying9 e;have hc:cs0.toList[j]? = some (.string s):=by
  have:=congrArg (fun l:List Value=>l[0]?) hs1
  simpa using this
 have hw:s.data.toList=gw.getD j default:=by
  have h3:=congrArg (fun l:List (DataW Unit)=>l[j]?) hx2
  simp only[acZ,acW hjx,Option.map_some,hs2]at h3;rw[acW hj]at h3;simp only[Option.map_some,acV,DataW.lit.injEq,Lit.string.injEq]at h3;rw[List.getD,acW hj];exact h3.symm
 refine⟨.string s,?_,0,?_⟩
 ·have:=World.var?_cell hg0 hv0 j
  refine ED ?_;rw[aeA,this];simpa using hc
 ·have hg:(gw.map D.str).getD j default=D.str (gw.getD j default):=by
   rw[List.getD,acZ,List.getD,acW hj];rfl
  rw[hg,<- hw];refine⟨by simp,?_⟩;rw[hw];have:=Uf j
  unfold BIG;omega
theorem Y3(os:Os)(args:Array Value):laidMetH prog Rows.checkKeepsRow.laid ((World.laidAll prog os Rows.checkKeepsRow.laid).forCall (fun _ _=>0) ⟨#[],args,[]⟩).memory:=by
 rw[MakeChecks.laidMetH_plain _ _ _ kQ0];exact laidMet_laidAll _ kQ0 kQ0
set_option maxRecDepth 100000 in
theorem DO(os:Os)(started:os.Started)(H:Type)(enc:TypeId×Value->H) :
  ReturnsInHanded {} Tryz.checked os 6 .any (fun w args=>(Rows.checkKeepsSpec.pre enc prog f6 [] false w args/\laidMetH prog Rows.checkKeepsRow.laid w)/\sizedMet enc prog f6 (OpenSpec.ofChange Rows.checkKeepsSpec) false w args) (Rows.checkKeepsSpec.post enc prog f6 false true false false):=by
 refine sE (C:=Tryz.checked) (X:=fun w _=>laidMetH prog Rows.checkKeepsRow.laid w) (fun _ _ _ hh h=>h.of_heap hh) Y4 started kQ0 func6
  (ChangeSpec.witness_shaped (enc:=enc) (C:=Tryz.checked) (os:=os) (X:=fun w _=>laidMetH prog Rows.checkKeepsRow.laid w) false (World.laidAll prog os Rows.checkKeepsRow.laid) #[.agg #[.bool false,.slice none 0 0,.slice none 0 0,.slice none 0 0,.slice none 0 0]] 8 (World.laidAll_os _ _ _) (World.shaped_of_ZipB kQ0 kQ0) kQ0 kQ0 kQ0 (Y3 os _)) ?_
 intro W base args ds gs before hval0 hW hsz0 hL hsh;have hsz:(DataW.weightsEach prog (f6.params.toList++Rows.checkKeepsSpec.plain.varTypes prog) (ds++gs)).all (·<=reachBytes)=true:=hsz0
 clear hsz0;have hval:∀(j:Nat)t v,f6.params[j]? = some t->args[j]? = some v->Value.okWide prog W .any base t v:=hval0
 have hW':=hW
 obtain⟨p,q,hA0,hV,rfl,_,_⟩:=hW;have hA:DataW.TrodAll enc prog W 0 (fun _=>true) true f6.params.toList args.toList ds p:=hA0
 have hlt:∀x∈p++q,x.block<W.heap.size:=hW'.lt
 rw[Tryz.params6]at hA hval hsz;obtain⟨v0,d0,rfl,rfl,h0⟩:=trodAll_one hA;obtain⟨rfl,rfl⟩:=trodVars_none hV;obtain⟨cs,hv0,_⟩:=okWide_struct underlying27 (hval 0 27 v0 rfl rfl);clear hA0 hval0;simp only[afF]at hW' hlt;obtain⟨fuel,htr⟩:=h0;obtain⟨pr,hok,hr,hl⟩:=Ak W H enc fuel _ _ htr (fun n hn=>by
  have:=adC.1 hsz n (DataW.weights_mem_each (j:=0) (t:=27) (d:=d0) rfl rfl n hn)
  simpa using this)
 have hpre:=Y6 hok
 have hcall:=Kk (P:=prog) (f:=6) (fn:=f6) (c:=f6.body.getD .skip) func6 kQ0 [v0] [.one (.agg (pr.enc.map T.d))] W (show 1<=f6.ntmps by decide +kernel) rfl
  (fun i v hi=>by
   match i,hi with
   |0,hi=>simp only[adX,acV]at hi;subst hi;exact⟨_,rfl,O7 hv0 hr hl⟩
   |i+1,hi=>simp at hi)
  ⟨Wf hL,Y2 hsh⟩
  (fun r=>r=o1 cB true)
  (fun g hg=>by
   have h1:=wU (K:=fun r=>r=o1 cB true) (Ap) mixed (fn:=f6) (an:=p9) (ps:=[.st .Program]) (rs:=[.bo]) hg kQ0 (x:=pr) (KK:=fun r=>r=true) (fun r h=>by subst h;rfl) (Eq.mp (wu pr _) (yQ pr hpre _ rfl))
   rw[Y1]at h1;exact h1)
 refine hcall.mono fun e W'⟨v,r,H',γ',m',he,hr',har,hb⟩=>?_
 subst he;subst hr';obtain rfl:=VV har;exact⟨_,rfl,_,_,_,[],p,[],hW',trodAll_mk1 (shut_bool underlying4 true),(trodAll_mk1 (Below.trod K0 kQ0 (of_decide_eq_true kQ0) ⟨fuel,htr⟩ hb (fun x hx=>hlt x hx))),rfl,hb.frame _,fun h=>by cases h⟩
theorem QA:Rows.CheckKeepsSaid:=
 OpenClaim.holds_of_wide 6 f6 rfl rfl rfl rfl rfl rfl rfl ⟨rfl,rfl,rfl,rfl,rfl⟩ rfl rfl rfl rfl rfl kQ0 func6 PE
  (of_decide_eq_true kQ0) (by unfold Func.isWrapper;first|(rw[if_pos (by decide +kernel)];kernel_rfl)|(rw[if_neg (by decide +kernel)];exact⟨rfl,rfl⟩))
  (fun os started H enc _=>DO os started H enc)
theorem keeps_holds:Rows.CheckKeepsCardSaid:=
 Claim7.holds_tied_plain_at .later [] [.data,.data,.pinned] true (true, "49708c2375af96dae238f86cc59608cfcf90c4649586e84e779c099bc4358686") true
  QA (fun _ h=>by cases h) kQ0 (fun _ h=>by cases h) checkKeeps_row_tie rfl ⟨rfl,rfl⟩ kQ0 rfl
  (fun f fn hf hfn=>by
   obtain rfl:f=6:=Option.some.inj ((show prog.funcNamed "lateen/lateenlaw14.CheckKeeps" = some 6 by kernel_rfl).symm.trans hf) |>.symm
   obtain rfl:fn=f6:=(Option.some.inj (func6.symm.trans hfn)).symm;exact⟨by kernel_rfl,fun j t ht=>by
    rw[Tryz.params6]at ht;have hm:t∈[27]:=by simpa using Array.mem_of_getElem? ht
    have hall:([27].all fun u=>!prog.wantsStandIn u)=true:=by kernel_rfl
    exact(show prog.wantsStandIn t=false by simpa using adC.1 hall t hm)⟩)
  kQ0
end Go.Proofs.YthhkhcolidkemaaGreatDoor
#print axioms Go.Proofs.YthhkhcolidkemaaGreatDoor.keeps_holds
end
