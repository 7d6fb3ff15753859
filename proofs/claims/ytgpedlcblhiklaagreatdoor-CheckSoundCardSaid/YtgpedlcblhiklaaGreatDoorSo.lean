/-
  CheckSound: a source that is taken has its types, its shape, and nothing unset in it, and is shown and read as it is. The card's listed variables are tied to the program's text.
-/
import Derived.Test.YtgpedlcblhiklaaGreatDoorSo26
import Derived.Test.YtgpedlcblhiklaaGreatDoorCards
import Derived.Test.YtgpedlcblhiklaaGreatDoorTie
import Derived.ChangeMaps5
import Derived.Stop.Joined
import Derived.SevenTiedAt
set_option linter.unusedSimpArgs false
set_option linter.unusedVariables false
set_option linter.unusedSectionVars false
set_option linter.unnecessarySimpa false
open Lt
open Go.Proofs.Tryz
section
namespace Go.Proofs.YtgpedlcblhiklaaGreatDoor
open Go.ChangeShapes Go.ChangeMaps Go.WideShapes Go.ChangeAt Go.WideMaps Go.WideElems Go.RowKit Go.Am
theorem abM:ownKnob prog.godebug=none:=kQ0
theorem abK{W:World}(h:W.ShapedOpen prog):∀k,Zh=some k->∃n m,Bx (snap W) m [.int .i64 n] k 0:=by
 intro k hk;obtain rfl:0=k:=by simpa[Zh]using hk
 exact Tw (t:=3) (zero:=#[.int .i64 0]) h (by decide +kernel) kQ0 rfl kQ0 kQ0 kQ0
theorem Ea{n:Int}(h:okI .i64 n):Lt.inR n:=by
 unfold okI at h;simp only[Lit.wf,afZ,decide_eq_true_eq]at h;have h1:IntKind.i64.min=-9223372036854775808:=by decide
 have h2:IntKind.i64.max=9223372036854775807:=by decide
 rw[h1,h2]at h;exact⟨h.1,by omega⟩
variable{a:Lt.Arg}
theorem zc(h:a.okr):a.ok:=Ea h.2.2
variable{i:Lt.Instr}
theorem Uo(h:i.okr):i.ok:=
 ⟨fun a c=>zc (h.2.2.2.1.2 a c),fun f hf=>⟨by have:=(h.2.2.2.2.1.2 f hf).2.2.2.1;omega,fun b hb=>zc ((h.2.2.2.2.1.2 f hf).2.2.2.2 b hb).2⟩,fun o ho a c=>zc ((h.2.2.2.2.2.2 o ho).2.2 a c)⟩
variable{x:Lt.Phi}
theorem abN(h:x.okr):x.ok:=⟨by have:=h.2.1;omega,fun i hi=>zc (h.2.2 i hi).2⟩
theorem X0{t:Lt.Term}(h:t.okr):t.ok:=⟨zc h.2.1,Ea h.2.2.2⟩
variable{b:Lt.Block}
theorem Un(h:b.okr):b.ok:=⟨fun x hx=>abN (h.2.1.2 x hx),fun i hi=>Uo (h.2.2.1.2 i hi),X0 h.2.2.2⟩
variable{p:Lt.Program}
theorem OM(h:p.okr):p.ok:=fun f hf b hb=>Un (((h.2.2.2.2.2 f hf).2.2.2.2.2) b hb)
theorem cK{s:List UInt8}(h:okS s):short s:=by unfold okS at h;unfold short;omega
theorem xV{v:Lt.Var}(h:v.okr):jA v:=⟨cK h.1,cK h.2⟩
theorem tx(h:a.okr):cX a:=cK h.2.1
theorem Qm(h:i.okr):fP i:=
 ⟨cK h.2.1,cK h.2.2.1,fun a c=>tx (h.2.2.2.1.2 a c),fun f hf=>(fun(k:f.okr)=>⟨cK k.1,cK k.2.1,fun b hb=>⟨cK (k.2.2.2.2 b hb).1,tx (k.2.2.2.2 b hb).2⟩⟩) (h.2.2.2.2.1.2 f hf),fun o ho=>⟨cK (h.2.2.2.2.2.2 o ho).1,fun a c=>tx ((h.2.2.2.2.2.2 o ho).2.2 a c)⟩⟩
theorem XZ(h:x.okr):lQ x:=⟨cK h.1,fun i hi=>⟨cK (h.2.2 i hi).1,tx (h.2.2 i hi).2⟩⟩
theorem Ql(h:b.okr):dG b:=⟨cK h.1,tx h.2.2.2.2.1,fun t a=>cK (h.2.2.2.2.2.1.2 t a),fun x hx=>XZ (h.2.1.2 x hx),fun i hi=>Qm (h.2.2.1.2 i hi)⟩
theorem GN(h:p.okr):W7 p:=
 ⟨fun c hc=>⟨cK (h.2.1.2 c hc).1,fun v hv=>xV ((h.2.1.2 c hc).2.2 v hv)⟩,fun v hv=>xV (h.2.2.1.2 v hv),fun e he=>cK (h.2.2.2.1.2 e he).1,
  fun f hf=>(fun(k:f.okr)=>⟨cK k.1,cK k.2.1,fun v hv=>xV (k.2.2.1.2 v hv),fun v hv=>xV (k.2.2.2.1.2 v hv),fun b hb=>Ql (k.2.2.2.2.2 b hb)⟩) (h.2.2.2.2.2 f hf)⟩
theorem abO(h:p.okr):aa3 p:=by
 have he:∀e∈p.Externs,Lt.inR e.N:=fun e he=>Ea (h.2.2.2.1.2 e he).2
 have hn:∀f∈p.Funcs,∀b∈f.Blocks,∀i∈b.Code,∀r∈i.Frames,Lt.inR r.At:=fun f hf b hb i hi r hr=>
  Ea ((((h.2.2.2.2.2 f hf).2.2.2.2.2 b hb).2.2.1.2 i hi).2.2.2.2.1.2 r hr).2.2.1
 exact⟨OM h,fun hf=>⟨(adM (aaD (GN h) hf).1).1,TU (GN h) (OM h) he hn hf⟩⟩
theorem Lu:laidOutB prog=true:=kQ0
theorem abJ(x:Lt.Program):kS [.st .Program] x=[.one (.agg (x.enc.map T.d))]:=by
 obtain⟨a,b,c,d,e⟩:=x;rfl
theorem XY{W:World}:∀k row,ru k=some row->∃m,Bx (snap W) m row k 0:=fun k row hk=>by
 unfold ru at hk;split at hk<;>cases hk
theorem abL(os:Os)(args:Array Value):laidMetH prog Rows.checkSoundRow.laid ((World.laidAll prog os Rows.checkSoundRow.laid).forCall (fun _ _=>0) ⟨#[],args,[]⟩).memory:=by
 rw[MakeChecks.laidMetH_plain _ _ _ kQ0];exact laidMet_laidAll _ kQ0 kQ0
set_option maxRecDepth 100000 in
theorem Fv(os:Os)(a:os.Started)(H:Type)(enc:TypeId×Value->H) :
  ReturnsInHanded {} Tryz.checked os 3 .any (fun w args=>(Rows.checkSoundSpec.pre enc prog f3 [] false w args/\laidMetH prog Rows.checkSoundRow.laid w)/\sizedMet enc prog f3 (OpenSpec.ofChange Rows.checkSoundSpec) false w args) (Rows.checkSoundSpec.post enc prog f3 false true false false):=by
 refine tK (C:=Tryz.checked) (X:=fun w _=>laidMetH prog Rows.checkSoundRow.laid w) (fun _ _ _ N h=>h.of_heap N) abM a kQ0 func3
  (ChangeSpec.witness_shaped (enc:=enc) (C:=Tryz.checked) (os:=os) (X:=fun w _=>laidMetH prog Rows.checkSoundRow.laid w) false (World.laidAll prog os Rows.checkSoundRow.laid) #[.agg #[.bool false,.slice none 0 0,.slice none 0 0,.slice none 0 0,.slice none 0 0]] 8 (World.laidAll_os _ _ _) (World.shaped_of_ZipB kQ0 kQ0) kQ0 kQ0 kQ0 (abL os _)) ?_
 intro W u args ds gs E b M k U G;have D:(DataW.weightsEach prog (f3.params.toList++Rows.checkSoundSpec.plain.varTypes prog) (ds++gs)).all (·<=reachBytes)=true:=k
 clear k;have l:∀(j:Nat)t v,f3.params[j]? = some t->args[j]? = some v->Value.okWide prog W .any u t v:=b
 have o:=M
 obtain⟨p,q,y,R,rfl,_,_⟩:=M;have L:DataW.TrodAll enc prog W 0 (fun _=>true) true f3.params.toList args.toList ds p:=y
 have B:∀x∈p++q,x.block<W.heap.size:=o.lt
 rw[Tryz.params3]at L l D;obtain⟨v0,O,rfl,rfl,h0⟩:=trodAll_one L;obtain⟨rfl,rfl⟩:=trodVars_none R;obtain⟨cs,J,_⟩:=okWide_struct underlying27 (l 0 27 v0 rfl rfl);clear y b;simp only[aiE]at o B;obtain⟨fuel,z⟩:=h0;obtain⟨pr,F,hr,hl⟩:=By W H enc fuel _ _ z (fun n hn=>by
  have:=agH.1 D n (DataW.weights_mem_each (j:=0) (t:=27) (d:=O) rfl rfl n hn)
  simpa using this)
 have A:=abO F
 have s:=K3 (P:=prog) (f:=3) (fn:=f3) (c:=f3.body.getD .skip) func3 kQ0 [v0] [.one (.agg (pr.enc.map T.d))] W (show 1<=f3.ntmps by decide +kernel) rfl
  (fun i v hi=>by
   match i,hi with
   |0,hi=>simp only[ahL,af0]at hi;subst hi;exact⟨_,rfl,PO J hr hl⟩
   |i+1,hi=>simp at hi)
  ⟨XY,abK G⟩
  (fun r=>r=o1 cB true)
  (fun g Q=>by
   have h1:=FR (K:=fun r=>r=o1 cB true) (BC) mixed (fn:=f3) (an:=rj) (ps:=[.st .Program]) (rs:=[.bo]) Q kQ0 (x:=pr) (KK:=fun r=>r=true) (fun r h=>by subst h;rfl) (Eq.mp (xQ pr _) (Ai pr A _ rfl))
   rw[abJ]at h1;exact h1)
 refine s.mono fun e S⟨v,r,H',γ',m',he,I,har,hb⟩=>?_
 subst he;subst I;obtain rfl:=XC har;exact⟨_,rfl,_,_,_,[],p,[],o,trodAll_mk1 (shut_bool underlying4 true),(trodAll_mk1 (Below.trod Lu kQ0 (of_decide_eq_true kQ0) ⟨fuel,z⟩ hb (fun x hx=>B x hx))),rfl,hb.frame _,fun h=>by cases h⟩
theorem SN:Rows.CheckSoundSaid:=
 OpenClaim.holds_of_wide 3 f3 rfl rfl rfl rfl rfl rfl rfl ⟨rfl,rfl,rfl,rfl,rfl⟩ rfl rfl rfl rfl rfl kQ0 func3 Qk
  (of_decide_eq_true kQ0) (by unfold Func.isWrapper;first|(rw[if_pos (by decide +kernel)];kernel_rfl)|(rw[if_neg (by decide +kernel)];exact⟨rfl,rfl⟩))
  (fun os a H enc _=>Fv os a H enc)
theorem sound_holds:Rows.CheckSoundCardSaid:=
 Claim7.holds_tied_plain_at .later [] [.data,.pinned] true (true, "591410c0238fddb1fc1d8ac49dba963e22862e7b02c20bbeecd890ade12bf5bb") true
  SN (fun _ h=>by cases h) kQ0 (fun _ h=>by cases h) checkSound_row_tie rfl ⟨rfl,rfl⟩ kQ0 rfl
  (fun f fn hf b=>by
   obtain rfl:f=3:=Option.some.inj ((show prog.funcNamed "lateen/lateenlaw14.CheckSound" = some 3 by kernel_rfl).symm.trans hf) |>.symm
   obtain rfl:fn=f3:=(Option.some.inj (func3.symm.trans b)).symm;exact⟨by kernel_rfl,fun j t c=>by
    rw[Tryz.params3]at c;have d:t∈[27]:=by simpa using Array.mem_of_getElem? c
    have a:([27].all fun u=>!prog.wantsStandIn u)=true:=by kernel_rfl
    exact(show prog.wantsStandIn t=false by simpa using agH.1 a t d)⟩)
  kQ0
end Go.Proofs.YtgpedlcblhiklaaGreatDoor
#print axioms Go.Proofs.YtgpedlcblhiklaaGreatDoor.sound_holds
end
