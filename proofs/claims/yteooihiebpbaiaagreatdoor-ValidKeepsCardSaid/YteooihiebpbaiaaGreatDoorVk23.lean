/-
  Part 23: AmWrap · AmTy · AmReadT.
-/
import Derived.Test.YteooihiebpbaiaaGreatDoorVk22
import Derived.Handed
import Derived.HandedShaped
import Derived.Shelf.Vars
import Derived.Lay
import Derived.LaidMore
import Derived.MakeChecks
set_option linter.unusedSimpArgs false
set_option linter.unusedVariables false
set_option linter.unusedSectionVars false
set_option linter.unnecessarySimpa false
open Go.Proofs.Tryz
section
namespace Go.Am
open Go Go.RowKit
variable {H:Type} {enc:TypeId×Value->H}
theorem pR{a:Assume}{C:Checked}{os:Os}{f:FuncId}{fn:Func}{s:ChangeSpec}{X:World->Array Value->Prop}
  (hX:∀(w w':World)(args:Array Value),w.heap=w'.heap->X w args->X w' args)
  (own:ownKnob C.prog.godebug=none) (started:os.Started) (noInit:C.prog.inits.idxOf? f=none) (hfn:C.prog.funcs[f]? = some fn)
  (witness:∃(w:World)(tape:Tape)(i:Input),w.os=os/\(w.forCall tape i).Shaped C.prog/\i.vars=[]/\Input.okWide C.prog (w.forCall tape i) .any w.heap.size f i /\
   ((s.pre enc C.prog fn [] false (w.forCall tape i).memory i.args/\X (w.forCall tape i).memory i.args)/\sizedMet enc C.prog fn (OpenSpec.ofChange s) false (w.forCall tape i).memory i.args)/\a.holds C.prog (lone (Frame.enter C.prog f i.args .normal) [] (w.forCall tape i)))
  (contract:∀(W:World)(base:Nat)(args:Array Value)(ds gs:List (DataW H))(before:List MemPlace),
   (∀(j:Nat)t v,fn.params[j]? = some t->args[j]? = some v->Value.okWide C.prog W .any base t v) ->
   DataW.Whole enc C.prog fn.params.toList s.vars false W args.toList ds gs before ->
   (DataW.weightsEach C.prog (fn.params.toList++s.plain.varTypes C.prog) (ds++gs)).all (·<=reachBytes)=true->X W args->W.ShapedOpen C.prog ->
   Calls C.prog f args W fun e W'=>∃v,e=.returned v/\s.post enc C.prog fn false true false false W args v W') :
  ReturnsInHanded a C os f .any (fun w args=>(s.pre enc C.prog fn [] false w args/\X w args)/\sizedMet enc C.prog fn (OpenSpec.ofChange s) false w args) (s.post enc C.prog fn false true false false):=by
 refine returnsInHanded_of_calls own started noInit witness (fun w tape i _ hsh _ hok hpre _=>?_);obtain⟨_,_,_,g,hg,_,_,_,_,hval⟩:=hok;obtain rfl:g=fn:=Option.some.inj (hg.symm.trans hfn);obtain⟨⟨⟨ds,gs,before,hw,_⟩,hx⟩,hz⟩:=hpre;refine(contract _ _ i.args ds gs before hval (DataW.Whole.of_heap (w':=w.forCall tape i) (by rfl) hw) (hz.weights hw) (hX _ _ _ (by rfl) hx) hsh).mono ?_;rintro e W' ⟨v,rfl,hp⟩
 exact ChangeSpec.post_blind hp
theorem ML{P:Program}{w:World}{g:Nat}{t:TypeId}{zero:Array Value}{k:IntKind}(h:w.ShapedOpen P)(hg:g<P.globals.size)
  (h0:((begin P (fun _ _=>0) default).world.heap[g]?).bind Obj.row? = some (zero,t)) (hz:zero.size=1)
  (hb:P.buildable t=true) (hc:P.cellTypes P.depth t=some [t]) (hu:P.underlying t=some (.int k)):∃n m,wz (snap w) m [.int k n] g 0:=by
 obtain⟨cs,hh,hs,hr⟩:=h.1 g zero t hg h0;obtain⟨ts,hts,_,hall⟩:=hr hb;rw[hc]at hts;cases hts;have h1:0<cs.size:=by omega
 obtain⟨u,hu',hok⟩:=hall 0 cs[0] (by simp[h1]);obtain rfl:u=t:=by simpa using hu'.symm
 have hcell:w.cell? ⟨g,0,none⟩=some cs[0]:=by simp[World.cell?,hh,h1]
 unfold Cell.ok at hok;rw[hu]at hok;cases hv:cs[0]<;>rw[hv]at hok<;>simp at hok
 rename_i k' n;refine⟨n,0,fun j hj=>?_⟩;obtain rfl:j=0:=by simpa using hj
 rw[hv,hok.1]at hcell;exact⟨_,Ah hcell,rfl,by have h2:=hok.2;unfold IntKind.has at h2;simp only[Lit.wf,WI,decide_eq_true_eq];exact h2⟩
end Go.Am
end

section
namespace Go.Am
open Go.Proofs
end Go.Am
end

section
namespace Lt
open Go.Am
def Var.okr(x:Var):Prop:=okS x.Name/\okS x.Type_
def Class.okr(x:Class):Prop:=okS x.Name/\(okL Lt.Var.okr) x.Fields
def Extern.okr(x:Extern):Prop:=okS x.Name/\(okI .i64) x.N
def Arg.okr(x:Arg):Prop:=(okI .i64) x.Kind/\okS x.S/\(okI .i64) x.N
def In.okr(x:In):Prop:=okS x.Block/\Lt.Arg.okr x.A
def Phi.okr(x:Phi):Prop:=okS x.Dst/\(okL Lt.In.okr) x.Ins
def Bind.okr(x:Bind):Prop:=okS x.Name/\Lt.Arg.okr x.A
def Frame.okr(x:Frame):Prop:=okS x.Func/\okS x.Block/\(okI .i64) x.At/\(okL Lt.Bind.okr) x.Vars
def Virt.okr(x:Virt):Prop:=okS x.Class/\(okL Lt.Arg.okr) x.Vals
def Instr.okr(x:Instr):Prop:=(okI .i64) x.Op/\okS x.Dst/\okS x.Name/\(okL Lt.Arg.okr) x.Args/\(okL Lt.Frame.okr) x.Frames/\(okL Lt.Virt.okr) x.Objs
def Term.okr(x:Term):Prop:=(okI .i64) x.Kind/\Lt.Arg.okr x.A/\(okL okS) x.To/\(okI .i64) x.N
def Block.okr(x:Block):Prop:=okS x.Name/\(okL Lt.Phi.okr) x.Phis/\(okL Lt.Instr.okr) x.Code/\Lt.Term.okr x.End
def Func.okr(x:Func):Prop:=okS x.Name/\okS x.Result/\(okL Lt.Var.okr) x.Params/\(okL Lt.Var.okr) x.Vars/\(okL Lt.Block.okr) x.Blocks
def Program.okr(x:Program):Prop:=okB x.SSA/\(okL Lt.Class.okr) x.Classes/\(okL Lt.Var.okr) x.Globals/\(okL Lt.Extern.okr) x.Externs/\(okL Lt.Func.okr) x.Funcs
end Lt
namespace Go.Am
open Go.Proofs
theorem nl(W:World):Reads prog W 89 Lt.Var.enc Lt.Var.okr:=by
 intro Hh enc fuel cs x h hw;obtain⟨xs,n,_,rfl,hl,hlen,hf⟩:=DataW.trod_struct underlying89 h
 ·obtain⟨y0,y1,rfl⟩:=fV hlen;have hw2:∀n∈DataW.weightsEach prog [9,9] [y0.1,y1.1],n<=reachBytes:=by
   intro n hn;refine hw n ?_;simp only[DataW.weights,underlying89];exact hn
  obtain⟨a0,k0,r0,_⟩:=(aM underlying9) Hh enc n _ y0 (hf 0 _ rfl) (fun m hm=>hw2 m (DataW.weights_mem_each (j:=0) rfl rfl m hm));obtain⟨c0_0,_⟩:=ak r0;obtain⟨a1,k1,r1,_⟩:=(aM underlying9) Hh enc n _ y1 (hf 1 _ rfl) (fun m hm=>hw2 m (DataW.weights_mem_each (j:=1) rfl rfl m hm));obtain⟨c1_0,_⟩:=ak r1;exact⟨⟨a0,a1⟩,⟨k0,k1⟩,⟨c0_0,c1_0,trivial⟩,by rw[hl];kernel_rfl⟩
theorem Bj(W:World):Reads prog W 39 Lt.Class.enc Lt.Class.okr:=by
 intro Hh enc fuel cs x h hw;obtain⟨xs,n,_,rfl,hl,hlen,hf⟩:=DataW.trod_struct underlying39 h
 ·obtain⟨y0,y1,rfl⟩:=fV hlen;have hw2:∀n∈DataW.weightsEach prog [9,23] [y0.1,y1.1],n<=reachBytes:=by
   intro n hn;refine hw n ?_;simp only[DataW.weights,underlying39];exact hn
  obtain⟨a0,k0,r0,_⟩:=(aM underlying9) Hh enc n _ y0 (hf 0 _ rfl) (fun m hm=>hw2 m (DataW.weights_mem_each (j:=0) rfl rfl m hm));obtain⟨c0_0,_⟩:=ak r0;obtain⟨a1,k1,r1,_⟩:=(aU (R:=Lt.Var.enc) (es:=2) underlying23 Z0 (of_decide_eq_true Z0) (fun _=>rfl) (by decide) (nl W)) Hh enc n _ y1 (hf 1 _ rfl) (fun m hm=>hw2 m (DataW.weights_mem_each (j:=1) rfl rfl m hm));obtain⟨c1_0,_⟩:=ak r1;exact⟨⟨a0,a1⟩,⟨k0,k1⟩,⟨c0_0,c1_0,trivial⟩,by rw[hl];kernel_rfl⟩
theorem yO(W:World):Reads prog W 41 Lt.Extern.enc Lt.Extern.okr:=by
 intro Hh enc fuel cs x h hw;obtain⟨xs,n,_,rfl,hl,hlen,hf⟩:=DataW.trod_struct underlying41 h
 ·obtain⟨y0,y1,rfl⟩:=fV hlen;have hw2:∀n∈DataW.weightsEach prog [9,3] [y0.1,y1.1],n<=reachBytes:=by
   intro n hn;refine hw n ?_;simp only[DataW.weights,underlying41];exact hn
  obtain⟨a0,k0,r0,_⟩:=(aM underlying9) Hh enc n _ y0 (hf 0 _ rfl) (fun m hm=>hw2 m (DataW.weights_mem_each (j:=0) rfl rfl m hm));obtain⟨c0_0,_⟩:=ak r0;obtain⟨a1,k1,r1,_⟩:=(fN underlying3) Hh enc n _ y1 (hf 1 _ rfl) (fun m hm=>hw2 m (DataW.weights_mem_each (j:=1) rfl rfl m hm));obtain⟨c1_0,_⟩:=ak r1;exact⟨⟨a0,a1⟩,⟨k0,k1⟩,⟨c0_0,c1_0,trivial⟩,by rw[hl];kernel_rfl⟩
theorem kn(W:World):Reads prog W 56 Lt.Arg.enc Lt.Arg.okr:=by
 intro Hh enc fuel cs x h hw;obtain⟨xs,n,_,rfl,hl,hlen,hf⟩:=DataW.trod_struct underlying56 h
 ·obtain⟨y0,y1,y2,rfl⟩:=LF hlen;have hw2:∀n∈DataW.weightsEach prog [3,9,2] [y0.1,y1.1,y2.1],n<=reachBytes:=by
   intro n hn;refine hw n ?_;simp only[DataW.weights,underlying56];exact hn
  obtain⟨a0,k0,r0,_⟩:=(fN underlying3) Hh enc n _ y0 (hf 0 _ rfl) (fun m hm=>hw2 m (DataW.weights_mem_each (j:=0) rfl rfl m hm));obtain⟨c0_0,_⟩:=ak r0;obtain⟨a1,k1,r1,_⟩:=(aM underlying9) Hh enc n _ y1 (hf 1 _ rfl) (fun m hm=>hw2 m (DataW.weights_mem_each (j:=1) rfl rfl m hm));obtain⟨c1_0,_⟩:=ak r1;obtain⟨a2,k2,r2,_⟩:=(fN underlying2) Hh enc n _ y2 (hf 2 _ rfl) (fun m hm=>hw2 m (DataW.weights_mem_each (j:=2) rfl rfl m hm));obtain⟨c2_0,_⟩:=ak r2;exact⟨⟨a0,a1,a2⟩,⟨k0,k1,k2⟩,⟨c0_0,c1_0,c2_0,trivial⟩,by rw[hl];kernel_rfl⟩
theorem Nj(W:World):Reads prog W 66 Lt.In.enc Lt.In.okr:=by
 intro Hh enc fuel cs x h hw;obtain⟨xs,n,_,rfl,hl,hlen,hf⟩:=DataW.trod_struct underlying66 h
 ·obtain⟨y0,y1,rfl⟩:=fV hlen;have hw2:∀n∈DataW.weightsEach prog [9,56] [y0.1,y1.1],n<=reachBytes:=by
   intro n hn;refine hw n ?_;simp only[DataW.weights,underlying66];exact hn
  obtain⟨a0,k0,r0,_⟩:=(aM underlying9) Hh enc n _ y0 (hf 0 _ rfl) (fun m hm=>hw2 m (DataW.weights_mem_each (j:=0) rfl rfl m hm));obtain⟨c0_0,_⟩:=ak r0;obtain⟨a1,k1,r1,_⟩:=(kn W) Hh enc n _ y1 (hf 1 _ rfl) (fun m hm=>hw2 m (DataW.weights_mem_each (j:=1) rfl rfl m hm));obtain⟨c1_0,c1_1,c1_2,_⟩:=ak r1;exact⟨⟨a0,a1⟩,⟨k0,k1⟩,⟨c0_0,c1_0,c1_1,c1_2,trivial⟩,by rw[hl];kernel_rfl⟩
theorem JW(W:World):Reads prog W 64 Lt.Phi.enc Lt.Phi.okr:=by
 intro Hh enc fuel cs x h hw;obtain⟨xs,n,_,rfl,hl,hlen,hf⟩:=DataW.trod_struct underlying64 h
 ·obtain⟨y0,y1,rfl⟩:=fV hlen;have hw2:∀n∈DataW.weightsEach prog [9,62] [y0.1,y1.1],n<=reachBytes:=by
   intro n hn;refine hw n ?_;simp only[DataW.weights,underlying64];exact hn
  obtain⟨a0,k0,r0,_⟩:=(aM underlying9) Hh enc n _ y0 (hf 0 _ rfl) (fun m hm=>hw2 m (DataW.weights_mem_each (j:=0) rfl rfl m hm));obtain⟨c0_0,_⟩:=ak r0;obtain⟨a1,k1,r1,_⟩:=(aU (R:=Lt.In.enc) (es:=4) underlying62 Z0 (of_decide_eq_true Z0) (fun _=>rfl) (by decide) (Nj W)) Hh enc n _ y1 (hf 1 _ rfl) (fun m hm=>hw2 m (DataW.weights_mem_each (j:=1) rfl rfl m hm));obtain⟨c1_0,_⟩:=ak r1;exact⟨⟨a0,a1⟩,⟨k0,k1⟩,⟨c0_0,c1_0,trivial⟩,by rw[hl];kernel_rfl⟩
theorem Er(W:World):Reads prog W 139 Lt.Bind.enc Lt.Bind.okr:=by
 intro Hh enc fuel cs x h hw;obtain⟨xs,n,_,rfl,hl,hlen,hf⟩:=DataW.trod_struct underlying139 h
 ·obtain⟨y0,y1,rfl⟩:=fV hlen;have hw2:∀n∈DataW.weightsEach prog [9,56] [y0.1,y1.1],n<=reachBytes:=by
   intro n hn;refine hw n ?_;simp only[DataW.weights,underlying139];exact hn
  obtain⟨a0,k0,r0,_⟩:=(aM underlying9) Hh enc n _ y0 (hf 0 _ rfl) (fun m hm=>hw2 m (DataW.weights_mem_each (j:=0) rfl rfl m hm));obtain⟨c0_0,_⟩:=ak r0;obtain⟨a1,k1,r1,_⟩:=(kn W) Hh enc n _ y1 (hf 1 _ rfl) (fun m hm=>hw2 m (DataW.weights_mem_each (j:=1) rfl rfl m hm));obtain⟨c1_0,c1_1,c1_2,_⟩:=ak r1;exact⟨⟨a0,a1⟩,⟨k0,k1⟩,⟨c0_0,c1_0,c1_1,c1_2,trivial⟩,by rw[hl];kernel_rfl⟩
theorem Bk(W:World):Reads prog W 137 Lt.Frame.enc Lt.Frame.okr:=by
 intro Hh enc fuel cs x h hw;obtain⟨xs,n,_,rfl,hl,hlen,hf⟩:=DataW.trod_struct underlying137 h
 ·obtain⟨y0,y1,y2,y3,rfl⟩:=rH hlen;have hw2:∀n∈DataW.weightsEach prog [9,9,3,135] [y0.1,y1.1,y2.1,y3.1],n<=reachBytes:=by
   intro n hn;refine hw n ?_;simp only[DataW.weights,underlying137];exact hn
  obtain⟨a0,k0,r0,_⟩:=(aM underlying9) Hh enc n _ y0 (hf 0 _ rfl) (fun m hm=>hw2 m (DataW.weights_mem_each (j:=0) rfl rfl m hm));obtain⟨c0_0,_⟩:=ak r0;obtain⟨a1,k1,r1,_⟩:=(aM underlying9) Hh enc n _ y1 (hf 1 _ rfl) (fun m hm=>hw2 m (DataW.weights_mem_each (j:=1) rfl rfl m hm));obtain⟨c1_0,_⟩:=ak r1;obtain⟨a2,k2,r2,_⟩:=(fN underlying3) Hh enc n _ y2 (hf 2 _ rfl) (fun m hm=>hw2 m (DataW.weights_mem_each (j:=2) rfl rfl m hm));obtain⟨c2_0,_⟩:=ak r2;obtain⟨a3,k3,r3,_⟩:=(aU (R:=Lt.Bind.enc) (es:=4) underlying135 Z0 (of_decide_eq_true Z0) (fun _=>rfl) (by decide) (Er W)) Hh enc n _ y3 (hf 3 _ rfl) (fun m hm=>hw2 m (DataW.weights_mem_each (j:=3) rfl rfl m hm));obtain⟨c3_0,_⟩:=ak r3;exact⟨⟨a0,a1,a2,a3⟩,⟨k0,k1,k2,k3⟩,⟨c0_0,c1_0,c2_0,c3_0,trivial⟩,by rw[hl];kernel_rfl⟩
theorem Eu(W:World):Reads prog W 141 Lt.Virt.enc Lt.Virt.okr:=by
 intro Hh enc fuel cs x h hw;obtain⟨xs,n,_,rfl,hl,hlen,hf⟩:=DataW.trod_struct underlying141 h
 ·obtain⟨y0,y1,rfl⟩:=fV hlen;have hw2:∀n∈DataW.weightsEach prog [9,69] [y0.1,y1.1],n<=reachBytes:=by
   intro n hn;refine hw n ?_;simp only[DataW.weights,underlying141];exact hn
  obtain⟨a0,k0,r0,_⟩:=(aM underlying9) Hh enc n _ y0 (hf 0 _ rfl) (fun m hm=>hw2 m (DataW.weights_mem_each (j:=0) rfl rfl m hm));obtain⟨c0_0,_⟩:=ak r0;obtain⟨a1,k1,r1,_⟩:=(aU (R:=Lt.Arg.enc) (es:=3) underlying69 Z0 (of_decide_eq_true Z0) (fun _=>rfl) (by decide) (kn W)) Hh enc n _ y1 (hf 1 _ rfl) (fun m hm=>hw2 m (DataW.weights_mem_each (j:=1) rfl rfl m hm));obtain⟨c1_0,_⟩:=ak r1;exact⟨⟨a0,a1⟩,⟨k0,k1⟩,⟨c0_0,c1_0,trivial⟩,by rw[hl];kernel_rfl⟩
theorem Bl(W:World):Reads prog W 73 Lt.Instr.enc Lt.Instr.okr:=by
 intro Hh enc fuel cs x h hw;obtain⟨xs,n,_,rfl,hl,hlen,hf⟩:=DataW.trod_struct underlying73 h
 ·obtain⟨y0,y1,y2,y3,y4,y5,rfl⟩:=LG hlen;have hw2:∀n∈DataW.weightsEach prog [3,9,9,69,70,71] [y0.1,y1.1,y2.1,y3.1,y4.1,y5.1],n<=reachBytes:=by
   intro n hn;refine hw n ?_;simp only[DataW.weights,underlying73];exact hn
  obtain⟨a0,k0,r0,_⟩:=(fN underlying3) Hh enc n _ y0 (hf 0 _ rfl) (fun m hm=>hw2 m (DataW.weights_mem_each (j:=0) rfl rfl m hm));obtain⟨c0_0,_⟩:=ak r0;obtain⟨a1,k1,r1,_⟩:=(aM underlying9) Hh enc n _ y1 (hf 1 _ rfl) (fun m hm=>hw2 m (DataW.weights_mem_each (j:=1) rfl rfl m hm));obtain⟨c1_0,_⟩:=ak r1;obtain⟨a2,k2,r2,_⟩:=(aM underlying9) Hh enc n _ y2 (hf 2 _ rfl) (fun m hm=>hw2 m (DataW.weights_mem_each (j:=2) rfl rfl m hm));obtain⟨c2_0,_⟩:=ak r2;obtain⟨a3,k3,r3,_⟩:=(aU (R:=Lt.Arg.enc) (es:=3) underlying69 Z0 (of_decide_eq_true Z0) (fun _=>rfl) (by decide) (kn W)) Hh enc n _ y3 (hf 3 _ rfl) (fun m hm=>hw2 m (DataW.weights_mem_each (j:=3) rfl rfl m hm));obtain⟨c3_0,_⟩:=ak r3;obtain⟨a4,k4,r4,_⟩:=(aU (R:=Lt.Frame.enc) (es:=4) underlying70 Z0 (of_decide_eq_true Z0) (fun _=>rfl) (by decide) (Bk W)) Hh enc n _ y4 (hf 4 _ rfl) (fun m hm=>hw2 m (DataW.weights_mem_each (j:=4) rfl rfl m hm));obtain⟨c4_0,_⟩:=ak r4;obtain⟨a5,k5,r5,_⟩:=(aU (R:=Lt.Virt.enc) (es:=2) underlying71 Z0 (of_decide_eq_true Z0) (fun _=>rfl) (by decide) (Eu W)) Hh enc n _ y5 (hf 5 _ rfl) (fun m hm=>hw2 m (DataW.weights_mem_each (j:=5) rfl rfl m hm));obtain⟨c5_0,_⟩:=ak r5;exact⟨⟨a0,a1,a2,a3,a4,a5⟩,⟨k0,k1,k2,k3,k4,k5⟩,⟨c0_0,c1_0,c2_0,c3_0,c4_0,c5_0,trivial⟩,by rw[hl];kernel_rfl⟩
theorem Et(W:World):Reads prog W 59 Lt.Term.enc Lt.Term.okr:=by
 intro Hh enc fuel cs x h hw;obtain⟨xs,n,_,rfl,hl,hlen,hf⟩:=DataW.trod_struct underlying59 h
 ·obtain⟨y0,y1,y2,y3,rfl⟩:=rH hlen;have hw2:∀n∈DataW.weightsEach prog [3,56,57,2] [y0.1,y1.1,y2.1,y3.1],n<=reachBytes:=by
   intro n hn;refine hw n ?_;simp only[DataW.weights,underlying59];exact hn
  obtain⟨a0,k0,r0,_⟩:=(fN underlying3) Hh enc n _ y0 (hf 0 _ rfl) (fun m hm=>hw2 m (DataW.weights_mem_each (j:=0) rfl rfl m hm));obtain⟨c0_0,_⟩:=ak r0;obtain⟨a1,k1,r1,_⟩:=(kn W) Hh enc n _ y1 (hf 1 _ rfl) (fun m hm=>hw2 m (DataW.weights_mem_each (j:=1) rfl rfl m hm));obtain⟨c1_0,c1_1,c1_2,_⟩:=ak r1;obtain⟨a2,k2,r2,_⟩:=(aU (R:=rS.enc) (es:=1) underlying57 Z0 (of_decide_eq_true Z0) (fun _=>rfl) (by decide) (aM underlying9)) Hh enc n _ y2 (hf 2 _ rfl) (fun m hm=>hw2 m (DataW.weights_mem_each (j:=2) rfl rfl m hm));obtain⟨c2_0,_⟩:=ak r2;obtain⟨a3,k3,r3,_⟩:=(fN underlying2) Hh enc n _ y3 (hf 3 _ rfl) (fun m hm=>hw2 m (DataW.weights_mem_each (j:=3) rfl rfl m hm));obtain⟨c3_0,_⟩:=ak r3;exact⟨⟨a0,a1,a2,a3⟩,⟨k0,k1,k2,k3⟩,⟨c0_0,c1_0,c1_1,c1_2,c2_0,c3_0,trivial⟩,by rw[hl];kernel_rfl⟩
theorem Bi(W:World):Reads prog W 61 Lt.Block.enc Lt.Block.okr:=by
 intro Hh enc fuel cs x h hw;obtain⟨xs,n,_,rfl,hl,hlen,hf⟩:=DataW.trod_struct underlying61 h
 ·obtain⟨y0,y1,y2,y3,rfl⟩:=rH hlen;have hw2:∀n∈DataW.weightsEach prog [9,53,54,59] [y0.1,y1.1,y2.1,y3.1],n<=reachBytes:=by
   intro n hn;refine hw n ?_;simp only[DataW.weights,underlying61];exact hn
  obtain⟨a0,k0,r0,_⟩:=(aM underlying9) Hh enc n _ y0 (hf 0 _ rfl) (fun m hm=>hw2 m (DataW.weights_mem_each (j:=0) rfl rfl m hm));obtain⟨c0_0,_⟩:=ak r0;obtain⟨a1,k1,r1,_⟩:=(aU (R:=Lt.Phi.enc) (es:=2) underlying53 Z0 (of_decide_eq_true Z0) (fun _=>rfl) (by decide) (JW W)) Hh enc n _ y1 (hf 1 _ rfl) (fun m hm=>hw2 m (DataW.weights_mem_each (j:=1) rfl rfl m hm));obtain⟨c1_0,_⟩:=ak r1;obtain⟨a2,k2,r2,_⟩:=(aU (R:=Lt.Instr.enc) (es:=6) underlying54 Z0 (of_decide_eq_true Z0) (fun _=>rfl) (by decide) (Bl W)) Hh enc n _ y2 (hf 2 _ rfl) (fun m hm=>hw2 m (DataW.weights_mem_each (j:=2) rfl rfl m hm));obtain⟨c2_0,_⟩:=ak r2;obtain⟨a3,k3,r3,_⟩:=(Et W) Hh enc n _ y3 (hf 3 _ rfl) (fun m hm=>hw2 m (DataW.weights_mem_each (j:=3) rfl rfl m hm));obtain⟨c3_0,c3_1,c3_2,c3_3,c3_4,c3_5,_⟩:=ak r3;exact⟨⟨a0,a1,a2,a3⟩,⟨k0,k1,k2,k3⟩,⟨c0_0,c1_0,c2_0,c3_0,c3_1,c3_2,c3_3,c3_4,c3_5,trivial⟩,by rw[hl];kernel_rfl⟩
theorem Es(W:World):Reads prog W 45 Lt.Func.enc Lt.Func.okr:=by
 intro Hh enc fuel cs x h hw;obtain⟨xs,n,_,rfl,hl,hlen,hf⟩:=DataW.trod_struct underlying45 h
 ·obtain⟨y0,y1,y2,y3,y4,rfl⟩:=yd hlen;have hw2:∀n∈DataW.weightsEach prog [9,9,23,23,43] [y0.1,y1.1,y2.1,y3.1,y4.1],n<=reachBytes:=by
   intro n hn;refine hw n ?_;simp only[DataW.weights,underlying45];exact hn
  obtain⟨a0,k0,r0,_⟩:=(aM underlying9) Hh enc n _ y0 (hf 0 _ rfl) (fun m hm=>hw2 m (DataW.weights_mem_each (j:=0) rfl rfl m hm));obtain⟨c0_0,_⟩:=ak r0;obtain⟨a1,k1,r1,_⟩:=(aM underlying9) Hh enc n _ y1 (hf 1 _ rfl) (fun m hm=>hw2 m (DataW.weights_mem_each (j:=1) rfl rfl m hm));obtain⟨c1_0,_⟩:=ak r1;obtain⟨a2,k2,r2,_⟩:=(aU (R:=Lt.Var.enc) (es:=2) underlying23 Z0 (of_decide_eq_true Z0) (fun _=>rfl) (by decide) (nl W)) Hh enc n _ y2 (hf 2 _ rfl) (fun m hm=>hw2 m (DataW.weights_mem_each (j:=2) rfl rfl m hm));obtain⟨c2_0,_⟩:=ak r2;obtain⟨a3,k3,r3,_⟩:=(aU (R:=Lt.Var.enc) (es:=2) underlying23 Z0 (of_decide_eq_true Z0) (fun _=>rfl) (by decide) (nl W)) Hh enc n _ y3 (hf 3 _ rfl) (fun m hm=>hw2 m (DataW.weights_mem_each (j:=3) rfl rfl m hm));obtain⟨c3_0,_⟩:=ak r3;obtain⟨a4,k4,r4,_⟩:=(aU (R:=Lt.Block.enc) (es:=9) underlying43 Z0 (of_decide_eq_true Z0) (fun _=>rfl) (by decide) (Bi W)) Hh enc n _ y4 (hf 4 _ rfl) (fun m hm=>hw2 m (DataW.weights_mem_each (j:=4) rfl rfl m hm));obtain⟨c4_0,_⟩:=ak r4;exact⟨⟨a0,a1,a2,a3,a4⟩,⟨k0,k1,k2,k3,k4⟩,⟨c0_0,c1_0,c2_0,c3_0,c4_0,trivial⟩,by rw[hl];kernel_rfl⟩
theorem wA(W:World):Reads prog W 27 Lt.Program.enc Lt.Program.okr:=by
 intro Hh enc fuel cs x h hw;obtain⟨xs,n,_,rfl,hl,hlen,hf⟩:=DataW.trod_struct underlying27 h
 ·obtain⟨y0,y1,y2,y3,y4,rfl⟩:=yd hlen;have hw2:∀n∈DataW.weightsEach prog [4,22,23,24,25] [y0.1,y1.1,y2.1,y3.1,y4.1],n<=reachBytes:=by
   intro n hn;refine hw n ?_;simp only[DataW.weights,underlying27];exact hn
  obtain⟨a0,k0,r0,_⟩:=(Ew underlying4) Hh enc n _ y0 (hf 0 _ rfl) (fun m hm=>hw2 m (DataW.weights_mem_each (j:=0) rfl rfl m hm));obtain⟨c0_0,_⟩:=ak r0;obtain⟨a1,k1,r1,_⟩:=(aU (R:=Lt.Class.enc) (es:=2) underlying22 Z0 (of_decide_eq_true Z0) (fun _=>rfl) (by decide) (Bj W)) Hh enc n _ y1 (hf 1 _ rfl) (fun m hm=>hw2 m (DataW.weights_mem_each (j:=1) rfl rfl m hm));obtain⟨c1_0,_⟩:=ak r1;obtain⟨a2,k2,r2,_⟩:=(aU (R:=Lt.Var.enc) (es:=2) underlying23 Z0 (of_decide_eq_true Z0) (fun _=>rfl) (by decide) (nl W)) Hh enc n _ y2 (hf 2 _ rfl) (fun m hm=>hw2 m (DataW.weights_mem_each (j:=2) rfl rfl m hm));obtain⟨c2_0,_⟩:=ak r2;obtain⟨a3,k3,r3,_⟩:=(aU (R:=Lt.Extern.enc) (es:=2) underlying24 Z0 (of_decide_eq_true Z0) (fun _=>rfl) (by decide) (yO W)) Hh enc n _ y3 (hf 3 _ rfl) (fun m hm=>hw2 m (DataW.weights_mem_each (j:=3) rfl rfl m hm));obtain⟨c3_0,_⟩:=ak r3;obtain⟨a4,k4,r4,_⟩:=(aU (R:=Lt.Func.enc) (es:=5) underlying25 Z0 (of_decide_eq_true Z0) (fun _=>rfl) (by decide) (Es W)) Hh enc n _ y4 (hf 4 _ rfl) (fun m hm=>hw2 m (DataW.weights_mem_each (j:=4) rfl rfl m hm));obtain⟨c4_0,_⟩:=ak r4;exact⟨⟨a0,a1,a2,a3,a4⟩,⟨k0,k1,k2,k3,k4⟩,⟨c0_0,c1_0,c2_0,c3_0,c4_0,trivial⟩,by rw[hl];kernel_rfl⟩
end Go.Am
end
