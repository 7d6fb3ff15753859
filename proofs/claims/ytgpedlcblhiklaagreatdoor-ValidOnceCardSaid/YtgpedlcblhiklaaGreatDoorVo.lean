/-
  ValidOnce: in a valid program each variable is set in just one place, which stands on each way to each of its uses; and it is shown and read as it is. The card's listed variables are tied to the program's text.
-/
import Derived.Test.YtgpedlcblhiklaaGreatDoorVo25
import Derived.Test.YtgpedlcblhiklaaGreatDoorCards
import Derived.Test.YtgpedlcblhiklaaGreatDoorTie
import Derived.ChangeMaps5
import Derived.Stop.Joined
import Derived.SevenTiedAt
set_option linter.unusedSimpArgs false
set_option linter.unusedVariables false
set_option linter.unusedSectionVars false
set_option linter.unnecessarySimpa false
open Lt
open Go.Proofs.Tryz
section
namespace Go.Proofs.YtgpedlcblhiklaaGreatDoor
open Go.ChangeShapes Go.ChangeMaps Go.WideShapes Go.ChangeAt Go.WideMaps Go.WideElems Go.RowKit Go.Am
theorem aeP:ownKnob prog.godebug=none:=kQ0
theorem aeN{W:World}(h:W.ShapedOpen prog):∀k,abM=some k->∃n m,BN (snap W) m [.int .i64 n] k 0:=by
 intro k hk;obtain rfl:0=k:=by simpa[abM]using hk
 exact UY (t:=3) (zero:=#[.int .i64 0]) h (by decide +kernel) kQ0 rfl kQ0 kQ0 kQ0
theorem EI{n:Int}(h:okI .i64 n):Lt.inR n:=by
 unfold okI at h;simp only[Lit.wf,aiW,decide_eq_true_eq]at h;have h1:IntKind.i64.min=-9223372036854775808:=by decide
 have h2:IntKind.i64.max=9223372036854775807:=by decide
 rw[h1,h2]at h;exact⟨h.1,by omega⟩
variable{a:Lt.Arg}
theorem zt(h:a.okr):a.ok:=EI h.2.2
variable{i:Lt.Instr}
theorem VN(h:i.okr):i.ok:=
 ⟨fun a c=>zt (h.2.2.2.1.2 a c),fun f hf=>⟨by have:=(h.2.2.2.2.1.2 f hf).2.2.2.1;omega,fun b hb=>zt ((h.2.2.2.2.1.2 f hf).2.2.2.2 b hb).2⟩,fun o ho a c=>zt ((h.2.2.2.2.2.2 o ho).2.2 a c)⟩
variable{x:Lt.Phi}
theorem aeQ(h:x.okr):x.ok:=⟨by have:=h.2.1;omega,fun i hi=>zt (h.2.2 i hi).2⟩
theorem ZA{t:Lt.Term}(h:t.okr):t.ok:=⟨zt h.2.1,EI h.2.2.2⟩
variable{b:Lt.Block}
theorem VL(h:b.okr):b.ok:=⟨fun x hx=>aeQ (h.2.1.2 x hx),fun i hi=>VN (h.2.2.1.2 i hi),ZA h.2.2.2⟩
variable{p:Lt.Program}
theorem Zy(h:p.okr):p.ok:=fun f hf b hb=>VL (((h.2.2.2.2.2 f hf).2.2.2.2.2) b hb)
theorem cQ{s:List UInt8}(h:okS s):short s:=by unfold okS at h;unfold short;omega
theorem yn{v:Lt.Var}(h:v.okr):jN v:=⟨cQ h.1,cQ h.2⟩
theorem tV(h:a.okr):cZ a:=cQ h.2.1
theorem Rr(h:i.okr):gl i:=
 ⟨cQ h.2.1,cQ h.2.2.1,fun a c=>tV (h.2.2.2.1.2 a c),fun f hf=>(fun(k:f.okr)=>⟨cQ k.1,cQ k.2.1,fun b hb=>⟨cQ (k.2.2.2.2 b hb).1,tV (k.2.2.2.2 b hb).2⟩⟩) (h.2.2.2.2.1.2 f hf),fun o ho=>⟨cQ (h.2.2.2.2.2.2 o ho).1,fun a c=>tV ((h.2.2.2.2.2.2 o ho).2.2 a c)⟩⟩
theorem Zz(h:x.okr):ma x:=⟨cQ h.1,fun i hi=>⟨cQ (h.2.2 i hi).1,tV (h.2.2 i hi).2⟩⟩
theorem Rq(h:b.okr):dL b:=⟨cQ h.1,tV h.2.2.2.2.1,fun t a=>cQ (h.2.2.2.2.2.1.2 t a),fun x hx=>Zz (h.2.1.2 x hx),fun i hi=>Rr (h.2.2.1.2 i hi)⟩
theorem VO(h:p.okr):QJ p:=
 ⟨fun c hc=>⟨cQ (h.2.1.2 c hc).1,fun v hv=>yn ((h.2.1.2 c hc).2.2 v hv)⟩,fun v hv=>yn (h.2.2.1.2 v hv),fun e he=>cQ (h.2.2.2.1.2 e he).1,
  fun f hf=>(fun(k:f.okr)=>⟨cQ k.1,cQ k.2.1,fun v hv=>yn (k.2.2.1.2 v hv),fun v hv=>yn (k.2.2.2.1.2 v hv),fun b hb=>Rq (k.2.2.2.2.2 b hb)⟩) (h.2.2.2.2.2 f hf)⟩
theorem aeR(h:p.okr):Yi p:=by
 have he:∀e∈p.Externs,Lt.inR e.N:=fun e he=>EI (h.2.2.2.1.2 e he).2
 have hn:∀f∈p.Funcs,∀b∈f.Blocks,∀i∈b.Code,∀r∈i.Frames,Lt.inR r.At:=fun f hf b hb i hi r hr=>
  EI ((((h.2.2.2.2.2 f hf).2.2.2.2.2 b hb).2.2.1.2 i hi).2.2.2.2.1.2 r hr).2.2.1
 exact agE (VO h) (Zy h) he hn
theorem Mk:laidOutB prog=true:=kQ0
theorem aeM(x:Lt.Program):lc [.st .Program] x=[.one (.agg (x.enc.map T.d))]:=by
 obtain⟨a,b,c,d,e⟩:=x;rfl
theorem Zw{W:World}:∀k row,rO k=some row->∃m,BN (snap W) m row k 0:=fun k row hk=>by
 unfold rO at hk;split at hk<;>cases hk
theorem aeO(os:Os)(args:Array Value):laidMetH prog Rows.validOnceRow.laid ((World.laidAll prog os Rows.validOnceRow.laid).forCall (fun _ _=>0) ⟨#[],args,[]⟩).memory:=by
 rw[MakeChecks.laidMetH_plain _ _ _ kQ0];exact laidMet_laidAll _ kQ0 kQ0
set_option maxRecDepth 100000 in
theorem KF(os:Os)(a:os.Started)(H:Type)(enc:TypeId×Value->H) :
  ReturnsInHanded {} Tryz.checked os 4 .any (fun w args=>(Rows.validOnceSpec.pre enc prog f4 [] false w args/\laidMetH prog Rows.validOnceRow.laid w)/\sizedMet enc prog f4 (OpenSpec.ofChange Rows.validOnceSpec) false w args) (Rows.validOnceSpec.post enc prog f4 false true false false):=by
 refine uf (C:=Tryz.checked) (X:=fun w _=>laidMetH prog Rows.validOnceRow.laid w) (fun _ _ _ O h=>h.of_heap O) aeP a kQ0 func4
  (ChangeSpec.witness_shaped (enc:=enc) (C:=Tryz.checked) (os:=os) (X:=fun w _=>laidMetH prog Rows.validOnceRow.laid w) false (World.laidAll prog os Rows.validOnceRow.laid) #[.agg #[.bool false,.slice none 0 0,.slice none 0 0,.slice none 0 0,.slice none 0 0]] 8 (World.laidAll_os _ _ _) (World.shaped_of_ZipB kQ0 kQ0) kQ0 kQ0 kQ0 (aeO os _)) ?_
 intro W z args ds gs E b M k S J;have A:(DataW.weightsEach prog (f4.params.toList++Rows.validOnceSpec.plain.varTypes prog) (ds++gs)).all (·<=reachBytes)=true:=k
 clear k;have l:∀(j:Nat)t v,f4.params[j]? = some t->args[j]? = some v->Value.okWide prog W .any z t v:=b
 have s:=M
 obtain⟨p,q,y,Q,rfl,_,_⟩:=M;have L:DataW.TrodAll enc prog W 0 (fun _=>true) true f4.params.toList args.toList ds p:=y
 have D:∀x∈p++q,x.block<W.heap.size:=s.lt
 rw[Tryz.params4]at L l A;obtain⟨v0,N,rfl,rfl,h0⟩:=trodAll_one L;obtain⟨rfl,rfl⟩:=trodVars_none Q;obtain⟨cs,I,_⟩:=okWide_struct underlying27 (l 0 27 v0 rfl rfl);clear y b;simp only[alB]at s D;obtain⟨fuel,u⟩:=h0;obtain⟨pr,F,hr,hl⟩:=BO W H enc fuel _ _ u (fun n hn=>by
  have:=ajB.1 A n (DataW.weights_mem_each (j:=0) (t:=27) (d:=N) rfl rfl n hn)
  simpa using this)
 have B:=aeR F
 have o:=LV (P:=prog) (f:=4) (fn:=f4) (c:=f4.body.getD .skip) func4 kQ0 [v0] [.one (.agg (pr.enc.map T.d))] W (show 1<=f4.ntmps by decide +kernel) rfl
  (fun i v hi=>by
   match i,hi with
   |0,hi=>simp only[akP,aiX]at hi;subst hi;exact⟨_,rfl,QS I hr hl⟩
   |i+1,hi=>simp at hi)
  ⟨Zw,aeN J⟩
  (fun r=>r=o1 cB true)
  (fun g R=>by
   have h1:=GC (K:=fun r=>r=o1 cB true) (E1) mixed (fn:=f4) (an:=tW) (ps:=[.st .Program]) (rs:=[.bo]) R kQ0 (x:=pr) (KK:=fun r=>r=true) (fun r h=>by subst h;rfl) (Eq.mp (BJ pr _) (BZ pr B _ rfl))
   rw[aeM]at h1;exact h1)
 refine o.mono fun e U⟨v,r,H',γ',m',he,G,har,hb⟩=>?_
 subst he;subst G;obtain rfl:=Y9 har;exact⟨_,rfl,_,_,_,[],p,[],s,trodAll_mk1 (shut_bool underlying4 true),(trodAll_mk1 (Below.trod Mk kQ0 (of_decide_eq_true kQ0) ⟨fuel,u⟩ hb (fun x hx=>D x hx))),rfl,hb.frame _,fun h=>by cases h⟩
theorem X1:Rows.ValidOnceSaid:=
 OpenClaim.holds_of_wide 4 f4 rfl rfl rfl rfl rfl rfl rfl ⟨rfl,rfl,rfl,rfl,rfl⟩ rfl rfl rfl rfl rfl kQ0 func4 Rp
  (of_decide_eq_true kQ0) (by unfold Func.isWrapper;first|(rw[if_pos (by decide +kernel)];kernel_rfl)|(rw[if_neg (by decide +kernel)];exact⟨rfl,rfl⟩))
  (fun os a H enc _=>KF os a H enc)
theorem once_holds:Rows.ValidOnceCardSaid:=
 Claim7.holds_tied_plain_at .later [] [.data,.pinned] true (true, "591410c0238fddb1fc1d8ac49dba963e22862e7b02c20bbeecd890ade12bf5bb") true
  X1 (fun _ h=>by cases h) kQ0 (fun _ h=>by cases h) validOnce_row_tie rfl ⟨rfl,rfl⟩ kQ0 rfl
  (fun f fn hf b=>by
   obtain rfl:f=4:=Option.some.inj ((show prog.funcNamed "lateen/lateenlaw18.ValidOnce" = some 4 by kernel_rfl).symm.trans hf) |>.symm
   obtain rfl:fn=f4:=(Option.some.inj (func4.symm.trans b)).symm;exact⟨by kernel_rfl,fun j t c=>by
    rw[Tryz.params4]at c;have d:t∈[27]:=by simpa using Array.mem_of_getElem? c
    have a:([27].all fun u=>!prog.wantsStandIn u)=true:=by kernel_rfl
    exact(show prog.wantsStandIn t=false by simpa using ajB.1 a t d)⟩)
  kQ0
end Go.Proofs.YtgpedlcblhiklaaGreatDoor
#print axioms Go.Proofs.YtgpedlcblhiklaaGreatDoor.once_holds
end
