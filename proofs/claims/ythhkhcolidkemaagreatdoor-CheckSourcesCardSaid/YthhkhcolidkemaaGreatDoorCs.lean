/-
  CheckSources: whatever program there is, check.Source answers as the document's Source does, and sizes are the same. The card's listed variables are tied to the program's text.
-/
import Derived.Test.YthhkhcolidkemaaGreatDoorCs24
import Derived.Test.YthhkhcolidkemaaGreatDoorCards
import Derived.Test.YthhkhcolidkemaaGreatDoorTie
import Derived.ChangeMaps5
import Derived.Stop.Joined
import Derived.SevenTiedAt
set_option linter.unusedSimpArgs false
set_option linter.unusedVariables false
set_option linter.unusedSectionVars false
set_option linter.unnecessarySimpa false
open Lt
open Go.Proofs.Tryz
section
namespace Go.Proofs.YthhkhcolidkemaaGreatDoor
open Go.ChangeShapes Go.ChangeMaps Go.WideShapes Go.ChangeAt Go.WideMaps Go.WideElems Go.RowKit Go.Am
theorem aeN:ownKnob prog.godebug=none:=kQ0
theorem aeL{W:World}(h:W.ShapedOpen prog):∀k,abK=some k->∃n m,BB (snap W) m [.int .i64 n] k 0:=by
 intro k hk;obtain rfl:1=k:=by simpa[abK]using hk
 exact UI (t:=3) (zero:=#[.int .i64 0]) h (by decide +kernel) kQ0 rfl kQ0 kQ0 kQ0
theorem Eh{n:Int}(h:okI .i64 n):Lt.inR n:=by
 unfold okI at h;simp only[Lit.wf,ai9,decide_eq_true_eq]at h;have h1:IntKind.i64.min=-9223372036854775808:=by decide
 have h2:IntKind.i64.max=9223372036854775807:=by decide
 rw[h1,h2]at h;exact⟨h.1,by omega⟩
variable{a:Lt.Arg}
theorem zd(h:a.okr):a.ok:=Eh h.2.2
variable{i:Lt.Instr}
theorem VB(h:i.okr):i.ok:=
 ⟨fun a c=>zd (h.2.2.2.1.2 a c),fun f hf=>⟨by have:=(h.2.2.2.2.1.2 f hf).2.2.2.1;omega,fun b hb=>zd ((h.2.2.2.2.1.2 f hf).2.2.2.2 b hb).2⟩,fun o d a c=>zd ((h.2.2.2.2.2.2 o d).2.2 a c)⟩
variable{x:Lt.Phi}
theorem aeO(h:x.okr):x.ok:=⟨by have:=h.2.1;omega,fun i hi=>zd (h.2.2 i hi).2⟩
theorem Zp{t:Lt.Term}(h:t.okr):t.ok:=⟨zd h.2.1,Eh h.2.2.2⟩
variable{b:Lt.Block}
theorem VA(h:b.okr):b.ok:=⟨fun x hx=>aeO (h.2.1.2 x hx),fun i hi=>VB (h.2.2.1.2 i hi),Zp h.2.2.2⟩
variable{p:Lt.Program}
theorem Zn(h:p.okr):p.ok:=fun f hf b hb=>VA (((h.2.2.2.2.2 f hf).2.2.2.2.2) b hb)
theorem cH{s:a8}(h:okS s):short s:=by unfold okS at h;unfold short;omega
theorem xU{v:Lt.Var}(h:v.okr):mI v:=⟨cH h.1,cH h.2⟩
theorem tV(h:a.okr):dC a:=cH h.2.1
theorem Rg(h:i.okr):gE i:=
 ⟨cH h.2.1,cH h.2.2.1,fun a c=>tV (h.2.2.2.1.2 a c),fun f hf=>(fun(k:f.okr)=>⟨cH k.1,cH k.2.1,fun b hb=>⟨cH (k.2.2.2.2 b hb).1,tV (k.2.2.2.2 b hb).2⟩⟩) (h.2.2.2.2.1.2 f hf),fun o d=>⟨cH (h.2.2.2.2.2.2 o d).1,fun a c=>tV ((h.2.2.2.2.2.2 o d).2.2 a c)⟩⟩
theorem Zo(h:x.okr):o6 x:=⟨cH h.1,fun i hi=>⟨cH (h.2.2 i hi).1,tV (h.2.2 i hi).2⟩⟩
theorem Rf(h:b.okr):fu b:=⟨cH h.1,tV h.2.2.2.2.1,fun t a=>cH (h.2.2.2.2.2.1.2 t a),fun x hx=>Zo (h.2.1.2 x hx),fun i hi=>Rg (h.2.2.1.2 i hi)⟩
theorem VC(h:p.okr):Qu p:=
 ⟨fun c hc=>⟨cH (h.2.1.2 c hc).1,fun v hv=>xU ((h.2.1.2 c hc).2.2 v hv)⟩,fun v hv=>xU (h.2.2.1.2 v hv),fun e a=>cH (h.2.2.2.1.2 e a).1,
  fun f hf=>(fun(k:f.okr)=>⟨cH k.1,cH k.2.1,fun v hv=>xU (k.2.2.1.2 v hv),fun v hv=>xU (k.2.2.2.1.2 v hv),fun b hb=>Rf (k.2.2.2.2.2 b hb)⟩) (h.2.2.2.2.2 f hf)⟩
theorem aeP(h:p.okr):XZ p:=by
 have a:∀e∈p.Externs,Lt.inR e.N:=fun e a=>Eh (h.2.2.2.1.2 e a).2
 have hn:∀f∈p.Funcs,∀b∈f.Blocks,∀i∈b.Code,∀r∈i.Frames,Lt.inR r.At:=fun f hf b hb i hi r hr=>
  Eh ((((h.2.2.2.2.2 f hf).2.2.2.2.2 b hb).2.2.1.2 i hi).2.2.2.2.1.2 r hr).2.2.1
 exact af6 (VC h) (Zn h) a hn
theorem LY:laidOutB prog=true:=kQ0
theorem aeK(x:Lt.Program):jU [.st .Program] x=[.one (.agg (x.enc.map T.d))]:=by
 obtain⟨a,b,c,d,e⟩:=x;rfl
theorem Re:prog.globalNamed "lateen/lateenref05.words" = some 0:=kQ0
theorem Rh:(prog.globals[0]?).map (·.type)=some 210:=kQ0
theorem Zm{W:World}(h:laidMetH prog Rows.checkSourcesRow.laid W):∀k row,rX k=some row->∃m,BB (snap W) m row k 0:=by
 intro k row hk;unfold rX at hk;split at hk
 case isFalse=>cases hk
 rename_i h0;subst h0;simp only[ai8]at hk;subst hk;rw[MakeChecks.laidMetH_plain _ _ _ kQ0]at h;obtain⟨ps,⟨_,_,_,_,_,_,_,_,_,_,⟨u,t0,g,v,x,w,b,n,i,f,_,_⟩,_⟩,_,_⟩:=h;obtain rfl:=Option.some.inj (Re.symm.trans b);obtain rfl:=Option.some.inj (Rh.symm.trans n);obtain⟨xs,t,rfl,hx1,o,p,hel⟩:=DataW.trod_array underlying210 f;have q:prog.cellsOf 9=1:=by kernel_rfl
 simp only[Prod.mk.injEq]at hx1;have c:(DataW.agg (gw.map fun l=>DataW.lit (.string l)):DataW Unit)=.agg (xs.map (·.1)):=hx1.1
 simp only[DataW.agg.injEq]at c;refine Cn (fun j hj=>?_);rw[ajH]at hj;have d:j < 35:=hj
 have e:=hel j d
 have a:j<xs.length:=by omega
 rw[q,Nat.mul_one,ajA a]at e;obtain⟨s,hs1,hs2,_⟩:=DataW.trod_string underlying9 e;have hc:g.toList[j]? = some (.string s):=by
  have:=congrArg (fun l:List Value=>l[0]?) hs1
  simpa using this
 have hw:s.data.toList=gw.getD j default:=by
  have h3:=congrArg (fun l:List (DataW Unit)=>l[j]?) c
  simp only[ajD,ajA a,Option.map_some,hs2]at h3;rw[ajA hj]at h3;simp only[Option.map_some,ai8,DataW.lit.injEq,Lit.string.injEq]at h3;rw[List.getD,ajA hj];exact h3.symm
 refine⟨.string s,?_,0,?_⟩
 ·have:=World.var?_cell b i j
  refine FM ?_;rw[akX,this];simpa using hc
 have r:(gw.map D.str).getD j default=D.str (gw.getD j default):=by
  rw[List.getD,ajD,List.getD,ajA hj];rfl
 rw[r,<- hw];refine⟨by simp,?_⟩;rw[hw];have:=WP j
 unfold BIG;omega
theorem aeM(os:Os)(args:Array Value):laidMetH prog Rows.checkSourcesRow.laid ((World.laidAll prog os Rows.checkSourcesRow.laid).forCall (fun _ _=>0) ⟨#[],args,[]⟩).memory:=by
 rw[MakeChecks.laidMetH_plain _ _ _ kQ0];exact laidMet_laidAll _ kQ0 kQ0
set_option maxRecDepth 100000 in
theorem Bn(os:Os)(a:os.Started)(H:Type)(enc:TypeId×Value->H) :
  ReturnsInHanded {} Tryz.checked os 3 .any (fun w args=>(Rows.checkSourcesSpec.pre enc prog f3 [] false w args/\laidMetH prog Rows.checkSourcesRow.laid w)/\sizedMet enc prog f3 (OpenSpec.ofChange Rows.checkSourcesSpec) false w args) (Rows.checkSourcesSpec.post enc prog f3 false true false false):=by
 refine ua (C:=Tryz.checked) (X:=fun w _=>laidMetH prog Rows.checkSourcesRow.laid w) (fun _ _ _ U h=>h.of_heap U) aeN a kQ0 func3
  (ChangeSpec.witness_shaped (enc:=enc) (C:=Tryz.checked) (os:=os) (X:=fun w _=>laidMetH prog Rows.checkSourcesRow.laid w) false (World.laidAll prog os Rows.checkSourcesRow.laid) #[.agg #[.bool false,.slice none 0 0,.slice none 0 0,.slice none 0 0,.slice none 0 0]] 8 (World.laidAll_os _ _ _) (World.shaped_of_ZipB kQ0 kQ0) kQ0 kQ0 kQ0 (aeM os _)) ?_
 intro W z args ds gs E b M l O G;have D:(DataW.weightsEach prog (f3.params.toList++Rows.checkSourcesSpec.plain.varTypes prog) (ds++gs)).all (·<=reachBytes)=true:=l
 clear l;have k:∀(j:Nat)t v,f3.params[j]? = some t->args[j]? = some v->Value.okWide prog W .any z t v:=b
 have s:=M
 obtain⟨p,q,A,N,rfl,_,_⟩:=M;have L:DataW.TrodAll enc prog W 0 (fun _=>true) true f3.params.toList args.toList ds p:=A
 have y:∀x∈p++q,x.block<W.heap.size:=s.lt
 rw[Tryz.params3]at L k D;obtain⟨v0,Q,rfl,rfl,h0⟩:=trodAll_one L;obtain⟨rfl,rfl⟩:=trodVars_none N;obtain⟨cs,J,_⟩:=okWide_struct underlying27 (k 0 27 v0 rfl rfl);clear A b;simp only[List.append_nil]at s y;obtain⟨fuel,B⟩:=h0;obtain⟨pr,F,hr,hl⟩:=BC W H enc fuel _ _ B (fun n hn=>by
  have:=ajM.1 D n (DataW.weights_mem_each (j:=0) (t:=27) (d:=Q) rfl rfl n hn)
  simpa using this)
 have u:=aeP F
 have o:=Lu (P:=prog) (f:=3) (fn:=f3) (c:=f3.body.getD .skip) func3 kQ0 [v0] [.one (.agg (pr.enc.map T.d))] W (show 1<=f3.ntmps by decide +kernel) rfl
  (fun i v hi=>by
   match i,hi with
   |0,hi=>simp only[akO,ai8]at hi;subst hi;exact⟨_,rfl,QF J hr hl⟩
   |i+1,hi=>simp at hi)
  ⟨Zm O,aeL G⟩
  (fun r=>r=o1 cB true)
  (fun g S=>by
   have h1:=FZ (K:=fun r=>r=o1 cB true) (xL) mixed (fn:=f3) (an:=oS) (ps:=[.st .Program]) (rs:=[.bo]) S kQ0 (x:=pr) (KK:=fun r=>r=true) (fun r h=>by subst h;rfl) (Eq.mp (vn pr _) (vZ pr u _ rfl))
   rw[aeK]at h1;exact h1)
 refine o.mono fun e V⟨v,r,H',γ',m',R,I,har,hb⟩=>?_
 subst R;subst I;obtain rfl:=YZ har;exact⟨_,rfl,_,_,_,[],p,[],s,trodAll_mk1 (shut_bool underlying4 true),(trodAll_mk1 (Below.trod LY kQ0 (of_decide_eq_true kQ0) ⟨fuel,B⟩ hb (fun x hx=>y x hx))),rfl,hb.frame _,fun h=>by cases h⟩
theorem K3:Rows.CheckSourcesSaid:=
 OpenClaim.holds_of_wide 3 f3 rfl rfl rfl rfl rfl rfl rfl ⟨rfl,rfl,rfl,rfl,rfl⟩ rfl rfl rfl rfl rfl kQ0 func3 Rd
  (of_decide_eq_true kQ0) (by unfold Func.isWrapper;first|(rw[if_pos (by decide +kernel)];kernel_rfl)|(rw[if_neg (by decide +kernel)];exact⟨rfl,rfl⟩))
  (fun os a H enc _=>Bn os a H enc)
theorem sources_holds:Rows.CheckSourcesCardSaid:=
 Claim7.holds_tied_plain_at .later [] [.data,.data,.pinned] true (true, "49708c2375af96dae238f86cc59608cfcf90c4649586e84e779c099bc4358686") true
  K3 (fun _ h=>by cases h) kQ0 (fun _ h=>by cases h) checkSources_row_tie rfl ⟨rfl,rfl⟩ kQ0 rfl
  (fun f fn hf b=>by
   obtain rfl:f=3:=Option.some.inj ((show prog.funcNamed "lateen/lateenlaw14.CheckSources" = some 3 by kernel_rfl).symm.trans hf) |>.symm
   obtain rfl:fn=f3:=(Option.some.inj (func3.symm.trans b)).symm;exact⟨by kernel_rfl,fun j t c=>by
    rw[Tryz.params3]at c;have hm:t∈[27]:=by simpa using Array.mem_of_getElem? c
    have a:([27].all fun u=>!prog.wantsStandIn u)=true:=by kernel_rfl
    exact(show prog.wantsStandIn t=false by simpa using ajM.1 a t hm)⟩)
  kQ0
end Go.Proofs.YthhkhcolidkemaaGreatDoor
#print axioms Go.Proofs.YthhkhcolidkemaaGreatDoor.sources_holds
end
