/-
  Part 21: AmWrap · AmReadT.
-/
import Derived.Test.YtjccmeppajblpaaGreatDoorSn20
import Derived.Handed
import Derived.HandedShaped
import Derived.Shelf.Vars
import Derived.Lay
import Derived.LaidMore
import Derived.MakeChecks
set_option linter.unusedSimpArgs false
set_option linter.unusedVariables false
set_option linter.unusedSectionVars false
set_option linter.unnecessarySimpa false
section
namespace Go.Am
open Go Go.RowKit
variable {H:Type} {enc:TypeId×Value->H}
theorem pi {a:Assume} {C:Checked} {os:Os} {f:FuncId} {fn:Func} {s:ChangeSpec} {X:World->Array Value->Prop}
  (hX:∀ (w w':World) (args:Array Value),w.heap=w'.heap->X w args->X w' args)
  (own:ownKnob C.prog.godebug=none) (started:os.Started) (noInit:C.prog.inits.idxOf? f=none) (hfn:C.prog.funcs[f]? = some fn)
  (witness:∃ (w:World) (tape:Tape) (i:Input),w.os=os/\(w.forCall tape i).Shaped C.prog/\i.vars=[]/\Input.okWide C.prog (w.forCall tape i) .any w.heap.size f i /\
   ((s.pre enc C.prog fn [] false (w.forCall tape i).memory i.args/\X (w.forCall tape i).memory i.args)/\sizedMet enc C.prog fn (OpenSpec.ofChange s) false (w.forCall tape i).memory i.args)/\a.holds C.prog (lone (Frame.enter C.prog f i.args .normal) [] (w.forCall tape i)))
  (contract:∀ (W:World) (base:Nat) (args:Array Value) (ds gs:List (DataW H)) (before:List MemPlace),
   (∀ (j:Nat) t v,fn.params[j]? = some t->args[j]? = some v->Value.okWide C.prog W .any base t v) ->
   DataW.Whole enc C.prog fn.params.toList s.vars false W args.toList ds gs before ->
   (DataW.weightsEach C.prog (fn.params.toList++s.plain.varTypes C.prog) (ds++gs)).all (·<=reachBytes)=true->X W args->W.ShapedOpen C.prog ->
   Calls C.prog f args W fun e W'=>∃ v,e=.returned v/\s.post enc C.prog fn false true false false W args v W') :
  ReturnsInHanded a C os f .any (fun w args=>(s.pre enc C.prog fn [] false w args/\X w args)/\sizedMet enc C.prog fn (OpenSpec.ofChange s) false w args) (s.post enc C.prog fn false true false false):=by
 refine returnsInHanded_of_calls own started noInit witness (fun w tape i _ hsh _ hok hpre _=>?_);obtain ⟨_,_,_,g,hg,_,_,_,_,hval⟩:=hok;obtain rfl:g=fn:=Option.some.inj (hg.symm.trans hfn);obtain ⟨⟨⟨ds,gs,before,hw,_⟩,hx⟩,hz⟩:=hpre;refine (contract _ _ i.args ds gs before hval (DataW.Whole.of_heap (w':=w.forCall tape i) (by rfl) hw) (hz.weights hw) (hX _ _ _ (by rfl) hx) hsh).mono ?_;rintro e W' ⟨v,rfl,hp⟩
 exact ChangeSpec.post_blind hp
theorem Lk {P:Program} {w:World} {g:Nat} {t:TypeId} {zero:Array Value} {k:IntKind} (h:w.ShapedOpen P) (hg:g<P.globals.size)
  (h0:((begin P (fun _ _=>0) default).world.heap[g]?).bind Obj.row? = some (zero,t)) (hz:zero.size=1)
  (hb:P.buildable t=true) (hc:P.cellTypes P.depth t=some [t]) (hu:P.underlying t=some (.int k)):∃ n m,we (snap w) m [.int k n] g 0:=by
 obtain ⟨cs,hh,hs,hr⟩:=h.1 g zero t hg h0;obtain ⟨ts,hts,_,hall⟩:=hr hb;rw [hc] at hts;cases hts;have h1:0<cs.size:=by omega
 obtain ⟨u,hu',hok⟩:=hall 0 cs[0] (by simp [h1]);obtain rfl:u=t:=by simpa using hu'.symm
 have hcell:w.cell? ⟨g,0,none⟩=some cs[0]:=by simp [World.cell?,hh,h1]
 unfold Cell.ok at hok;rw [hu] at hok;cases hv:cs[0] <;> rw [hv] at hok <;> simp at hok
 rename_i k' n;refine ⟨n,0,fun j hj=>?_⟩;obtain rfl:j=0:=by simpa using hj
 rw [hv,hok.1] at hcell;exact ⟨_,hcell,rfl,by have h2:=hok.2; unfold IntKind.has at h2; simp only [Lit.wf,SL,decide_eq_true_eq]; exact h2⟩
end Go.Am
end

section
namespace Lt
open Go.Am
def Var.okr (x:Var):Prop:=okS x.Name/\okS x.Type_
def Arg.okr (x:Arg):Prop:=(okI .i64) x.Kind/\okS x.S/\(okI .i64) x.N
def In.okr (x:In):Prop:=okS x.Block/\Lt.Arg.okr x.A
def Phi.okr (x:Phi):Prop:=okS x.Dst/\(okL Lt.In.okr) x.Ins
def Bind.okr (x:Bind):Prop:=okS x.Name/\Lt.Arg.okr x.A
def Frame.okr (x:Frame):Prop:=okS x.Func/\okS x.Block/\(okI .i64) x.At/\(okL Lt.Bind.okr) x.Vars
def Virt.okr (x:Virt):Prop:=okS x.Class/\(okL Lt.Arg.okr) x.Vals
def Instr.okr (x:Instr):Prop:=(okI .i64) x.Op/\okS x.Dst/\okS x.Name/\(okL Lt.Arg.okr) x.Args/\(okL Lt.Frame.okr) x.Frames/\(okL Lt.Virt.okr) x.Objs
def Term.okr (x:Term):Prop:=(okI .i64) x.Kind/\Lt.Arg.okr x.A/\(okL okS) x.To/\(okI .i64) x.N
def Block.okr (x:Block):Prop:=okS x.Name/\(okL Lt.Phi.okr) x.Phis/\(okL Lt.Instr.okr) x.Code/\Lt.Term.okr x.End
def Func.okr (x:Func):Prop:=okS x.Name/\okS x.Result/\(okL Lt.Var.okr) x.Params/\(okL Lt.Var.okr) x.Vars/\(okL Lt.Block.okr) x.Blocks
end Lt
namespace Go.Am
open Go.Proofs
theorem xX (W:World):Reads Tryz.prog W 113 Lt.Var.enc Lt.Var.okr:=by
 intro Hh enc fuel cs x h hw;obtain ⟨xs,n,_,rfl,hl,hlen,hf⟩:=DataW.trod_struct Tryz.underlying113 h
 ·obtain ⟨y0,y1,rfl⟩:=ki hlen;have hw2:∀ n∈DataW.weightsEach Tryz.prog [9,9] [y0.1,y1.1],n<=reachBytes:=by
   intro n hn; refine hw n ?_; simp only [DataW.weights,Tryz.underlying113]; exact hn
  obtain ⟨a0,k0,r0,_⟩:=(aS Tryz.underlying9) Hh enc n _ y0 (hf 0 _ rfl) (fun m hm=>hw2 m (DataW.weights_mem_each (j:=0) rfl rfl m hm));obtain ⟨c0_0,_⟩:=al r0;obtain ⟨a1,k1,r1,_⟩:=(aS Tryz.underlying9) Hh enc n _ y1 (hf 1 _ rfl) (fun m hm=>hw2 m (DataW.weights_mem_each (j:=1) rfl rfl m hm));obtain ⟨c1_0,_⟩:=al r1;exact ⟨⟨a0,a1⟩,⟨k0,k1⟩,⟨c0_0,c1_0,trivial⟩,by rw [hl]; kernel_rfl⟩
theorem j5 (W:World):Reads Tryz.prog W 38 Lt.Arg.enc Lt.Arg.okr:=by
 intro Hh enc fuel cs x h hw;obtain ⟨xs,n,_,rfl,hl,hlen,hf⟩:=DataW.trod_struct Tryz.underlying38 h
 ·obtain ⟨y0,y1,y2,rfl⟩:=JW hlen;have hw2:∀ n∈DataW.weightsEach Tryz.prog [3,9,2] [y0.1,y1.1,y2.1],n<=reachBytes:=by
   intro n hn; refine hw n ?_; simp only [DataW.weights,Tryz.underlying38]; exact hn
  obtain ⟨a0,k0,r0,_⟩:=(iw Tryz.underlying3) Hh enc n _ y0 (hf 0 _ rfl) (fun m hm=>hw2 m (DataW.weights_mem_each (j:=0) rfl rfl m hm));obtain ⟨c0_0,_⟩:=al r0;obtain ⟨a1,k1,r1,_⟩:=(aS Tryz.underlying9) Hh enc n _ y1 (hf 1 _ rfl) (fun m hm=>hw2 m (DataW.weights_mem_each (j:=1) rfl rfl m hm));obtain ⟨c1_0,_⟩:=al r1;obtain ⟨a2,k2,r2,_⟩:=(iw Tryz.underlying2) Hh enc n _ y2 (hf 2 _ rfl) (fun m hm=>hw2 m (DataW.weights_mem_each (j:=2) rfl rfl m hm));obtain ⟨c2_0,_⟩:=al r2;exact ⟨⟨a0,a1,a2⟩,⟨k0,k1,k2⟩,⟨c0_0,c1_0,c2_0,trivial⟩,by rw [hl]; kernel_rfl⟩
theorem Li (W:World):Reads Tryz.prog W 48 Lt.In.enc Lt.In.okr:=by
 intro Hh enc fuel cs x h hw;obtain ⟨xs,n,_,rfl,hl,hlen,hf⟩:=DataW.trod_struct Tryz.underlying48 h
 ·obtain ⟨y0,y1,rfl⟩:=ki hlen;have hw2:∀ n∈DataW.weightsEach Tryz.prog [9,38] [y0.1,y1.1],n<=reachBytes:=by
   intro n hn; refine hw n ?_; simp only [DataW.weights,Tryz.underlying48]; exact hn
  obtain ⟨a0,k0,r0,_⟩:=(aS Tryz.underlying9) Hh enc n _ y0 (hf 0 _ rfl) (fun m hm=>hw2 m (DataW.weights_mem_each (j:=0) rfl rfl m hm));obtain ⟨c0_0,_⟩:=al r0;obtain ⟨a1,k1,r1,_⟩:=(j5 W) Hh enc n _ y1 (hf 1 _ rfl) (fun m hm=>hw2 m (DataW.weights_mem_each (j:=1) rfl rfl m hm));obtain ⟨c1_0,c1_1,c1_2,_⟩:=al r1;exact ⟨⟨a0,a1⟩,⟨k0,k1⟩,⟨c0_0,c1_0,c1_1,c1_2,trivial⟩,by rw [hl]; kernel_rfl⟩
theorem Kc (W:World):Reads Tryz.prog W 46 Lt.Phi.enc Lt.Phi.okr:=by
 intro Hh enc fuel cs x h hw;obtain ⟨xs,n,_,rfl,hl,hlen,hf⟩:=DataW.trod_struct Tryz.underlying46 h
 ·obtain ⟨y0,y1,rfl⟩:=ki hlen;have hw2:∀ n∈DataW.weightsEach Tryz.prog [9,44] [y0.1,y1.1],n<=reachBytes:=by
   intro n hn; refine hw n ?_; simp only [DataW.weights,Tryz.underlying46]; exact hn
  obtain ⟨a0,k0,r0,_⟩:=(aS Tryz.underlying9) Hh enc n _ y0 (hf 0 _ rfl) (fun m hm=>hw2 m (DataW.weights_mem_each (j:=0) rfl rfl m hm));obtain ⟨c0_0,_⟩:=al r0;obtain ⟨a1,k1,r1,_⟩:=(bH (R:=Lt.In.enc) (es:=4) Tryz.underlying44 (by kernel_rfl) (of_decide_eq_true (by kernel_rfl)) (fun _=>rfl) (by decide) (Li W)) Hh enc n _ y1 (hf 1 _ rfl) (fun m hm=>hw2 m (DataW.weights_mem_each (j:=1) rfl rfl m hm));obtain ⟨c1_0,_⟩:=al r1;exact ⟨⟨a0,a1⟩,⟨k0,k1⟩,⟨c0_0,c1_0,trivial⟩,by rw [hl]; kernel_rfl⟩
theorem Ea (W:World):Reads Tryz.prog W 126 Lt.Bind.enc Lt.Bind.okr:=by
 intro Hh enc fuel cs x h hw;obtain ⟨xs,n,_,rfl,hl,hlen,hf⟩:=DataW.trod_struct Tryz.underlying126 h
 ·obtain ⟨y0,y1,rfl⟩:=ki hlen;have hw2:∀ n∈DataW.weightsEach Tryz.prog [9,38] [y0.1,y1.1],n<=reachBytes:=by
   intro n hn; refine hw n ?_; simp only [DataW.weights,Tryz.underlying126]; exact hn
  obtain ⟨a0,k0,r0,_⟩:=(aS Tryz.underlying9) Hh enc n _ y0 (hf 0 _ rfl) (fun m hm=>hw2 m (DataW.weights_mem_each (j:=0) rfl rfl m hm));obtain ⟨c0_0,_⟩:=al r0;obtain ⟨a1,k1,r1,_⟩:=(j5 W) Hh enc n _ y1 (hf 1 _ rfl) (fun m hm=>hw2 m (DataW.weights_mem_each (j:=1) rfl rfl m hm));obtain ⟨c1_0,c1_1,c1_2,_⟩:=al r1;exact ⟨⟨a0,a1⟩,⟨k0,k1⟩,⟨c0_0,c1_0,c1_1,c1_2,trivial⟩,by rw [hl]; kernel_rfl⟩
theorem CO (W:World):Reads Tryz.prog W 124 Lt.Frame.enc Lt.Frame.okr:=by
 intro Hh enc fuel cs x h hw;obtain ⟨xs,n,_,rfl,hl,hlen,hf⟩:=DataW.trod_struct Tryz.underlying124 h
 ·obtain ⟨y0,y1,y2,y3,rfl⟩:=qz hlen;have hw2:∀ n∈DataW.weightsEach Tryz.prog [9,9,3,122] [y0.1,y1.1,y2.1,y3.1],n<=reachBytes:=by
   intro n hn; refine hw n ?_; simp only [DataW.weights,Tryz.underlying124]; exact hn
  obtain ⟨a0,k0,r0,_⟩:=(aS Tryz.underlying9) Hh enc n _ y0 (hf 0 _ rfl) (fun m hm=>hw2 m (DataW.weights_mem_each (j:=0) rfl rfl m hm));obtain ⟨c0_0,_⟩:=al r0;obtain ⟨a1,k1,r1,_⟩:=(aS Tryz.underlying9) Hh enc n _ y1 (hf 1 _ rfl) (fun m hm=>hw2 m (DataW.weights_mem_each (j:=1) rfl rfl m hm));obtain ⟨c1_0,_⟩:=al r1;obtain ⟨a2,k2,r2,_⟩:=(iw Tryz.underlying3) Hh enc n _ y2 (hf 2 _ rfl) (fun m hm=>hw2 m (DataW.weights_mem_each (j:=2) rfl rfl m hm));obtain ⟨c2_0,_⟩:=al r2;obtain ⟨a3,k3,r3,_⟩:=(bH (R:=Lt.Bind.enc) (es:=4) Tryz.underlying122 (by kernel_rfl) (of_decide_eq_true (by kernel_rfl)) (fun _=>rfl) (by decide) (Ea W)) Hh enc n _ y3 (hf 3 _ rfl) (fun m hm=>hw2 m (DataW.weights_mem_each (j:=3) rfl rfl m hm));obtain ⟨c3_0,_⟩:=al r3;exact ⟨⟨a0,a1,a2,a3⟩,⟨k0,k1,k2,k3⟩,⟨c0_0,c1_0,c2_0,c3_0,trivial⟩,by rw [hl]; kernel_rfl⟩
theorem Em (W:World):Reads Tryz.prog W 128 Lt.Virt.enc Lt.Virt.okr:=by
 intro Hh enc fuel cs x h hw;obtain ⟨xs,n,_,rfl,hl,hlen,hf⟩:=DataW.trod_struct Tryz.underlying128 h
 ·obtain ⟨y0,y1,rfl⟩:=ki hlen;have hw2:∀ n∈DataW.weightsEach Tryz.prog [9,68] [y0.1,y1.1],n<=reachBytes:=by
   intro n hn; refine hw n ?_; simp only [DataW.weights,Tryz.underlying128]; exact hn
  obtain ⟨a0,k0,r0,_⟩:=(aS Tryz.underlying9) Hh enc n _ y0 (hf 0 _ rfl) (fun m hm=>hw2 m (DataW.weights_mem_each (j:=0) rfl rfl m hm));obtain ⟨c0_0,_⟩:=al r0;obtain ⟨a1,k1,r1,_⟩:=(bH (R:=Lt.Arg.enc) (es:=3) Tryz.underlying68 (by kernel_rfl) (of_decide_eq_true (by kernel_rfl)) (fun _=>rfl) (by decide) (j5 W)) Hh enc n _ y1 (hf 1 _ rfl) (fun m hm=>hw2 m (DataW.weights_mem_each (j:=1) rfl rfl m hm));obtain ⟨c1_0,_⟩:=al r1;exact ⟨⟨a0,a1⟩,⟨k0,k1⟩,⟨c0_0,c1_0,trivial⟩,by rw [hl]; kernel_rfl⟩
theorem Bl (W:World):Reads Tryz.prog W 72 Lt.Instr.enc Lt.Instr.okr:=by
 intro Hh enc fuel cs x h hw;obtain ⟨xs,n,_,rfl,hl,hlen,hf⟩:=DataW.trod_struct Tryz.underlying72 h
 ·obtain ⟨y0,y1,y2,y3,y4,y5,rfl⟩:=Jx hlen;have hw2:∀ n∈DataW.weightsEach Tryz.prog [3,9,9,68,69,70] [y0.1,y1.1,y2.1,y3.1,y4.1,y5.1],n<=reachBytes:=by
   intro n hn; refine hw n ?_; simp only [DataW.weights,Tryz.underlying72]; exact hn
  obtain ⟨a0,k0,r0,_⟩:=(iw Tryz.underlying3) Hh enc n _ y0 (hf 0 _ rfl) (fun m hm=>hw2 m (DataW.weights_mem_each (j:=0) rfl rfl m hm));obtain ⟨c0_0,_⟩:=al r0;obtain ⟨a1,k1,r1,_⟩:=(aS Tryz.underlying9) Hh enc n _ y1 (hf 1 _ rfl) (fun m hm=>hw2 m (DataW.weights_mem_each (j:=1) rfl rfl m hm));obtain ⟨c1_0,_⟩:=al r1;obtain ⟨a2,k2,r2,_⟩:=(aS Tryz.underlying9) Hh enc n _ y2 (hf 2 _ rfl) (fun m hm=>hw2 m (DataW.weights_mem_each (j:=2) rfl rfl m hm));obtain ⟨c2_0,_⟩:=al r2;obtain ⟨a3,k3,r3,_⟩:=(bH (R:=Lt.Arg.enc) (es:=3) Tryz.underlying68 (by kernel_rfl) (of_decide_eq_true (by kernel_rfl)) (fun _=>rfl) (by decide) (j5 W)) Hh enc n _ y3 (hf 3 _ rfl) (fun m hm=>hw2 m (DataW.weights_mem_each (j:=3) rfl rfl m hm));obtain ⟨c3_0,_⟩:=al r3;obtain ⟨a4,k4,r4,_⟩:=(bH (R:=Lt.Frame.enc) (es:=4) Tryz.underlying69 (by kernel_rfl) (of_decide_eq_true (by kernel_rfl)) (fun _=>rfl) (by decide) (CO W)) Hh enc n _ y4 (hf 4 _ rfl) (fun m hm=>hw2 m (DataW.weights_mem_each (j:=4) rfl rfl m hm));obtain ⟨c4_0,_⟩:=al r4;obtain ⟨a5,k5,r5,_⟩:=(bH (R:=Lt.Virt.enc) (es:=2) Tryz.underlying70 (by kernel_rfl) (of_decide_eq_true (by kernel_rfl)) (fun _=>rfl) (by decide) (Em W)) Hh enc n _ y5 (hf 5 _ rfl) (fun m hm=>hw2 m (DataW.weights_mem_each (j:=5) rfl rfl m hm));obtain ⟨c5_0,_⟩:=al r5;exact ⟨⟨a0,a1,a2,a3,a4,a5⟩,⟨k0,k1,k2,k3,k4,k5⟩,⟨c0_0,c1_0,c2_0,c3_0,c4_0,c5_0,trivial⟩,by rw [hl]; kernel_rfl⟩
theorem Er (W:World):Reads Tryz.prog W 41 Lt.Term.enc Lt.Term.okr:=by
 intro Hh enc fuel cs x h hw;obtain ⟨xs,n,_,rfl,hl,hlen,hf⟩:=DataW.trod_struct Tryz.underlying41 h
 ·obtain ⟨y0,y1,y2,y3,rfl⟩:=qz hlen;have hw2:∀ n∈DataW.weightsEach Tryz.prog [3,38,39,2] [y0.1,y1.1,y2.1,y3.1],n<=reachBytes:=by
   intro n hn; refine hw n ?_; simp only [DataW.weights,Tryz.underlying41]; exact hn
  obtain ⟨a0,k0,r0,_⟩:=(iw Tryz.underlying3) Hh enc n _ y0 (hf 0 _ rfl) (fun m hm=>hw2 m (DataW.weights_mem_each (j:=0) rfl rfl m hm));obtain ⟨c0_0,_⟩:=al r0;obtain ⟨a1,k1,r1,_⟩:=(j5 W) Hh enc n _ y1 (hf 1 _ rfl) (fun m hm=>hw2 m (DataW.weights_mem_each (j:=1) rfl rfl m hm));obtain ⟨c1_0,c1_1,c1_2,_⟩:=al r1;obtain ⟨a2,k2,r2,_⟩:=(bH (R:=rS.enc) (es:=1) Tryz.underlying39 (by kernel_rfl) (of_decide_eq_true (by kernel_rfl)) (fun _=>rfl) (by decide) (aS Tryz.underlying9)) Hh enc n _ y2 (hf 2 _ rfl) (fun m hm=>hw2 m (DataW.weights_mem_each (j:=2) rfl rfl m hm));obtain ⟨c2_0,_⟩:=al r2;obtain ⟨a3,k3,r3,_⟩:=(iw Tryz.underlying2) Hh enc n _ y3 (hf 3 _ rfl) (fun m hm=>hw2 m (DataW.weights_mem_each (j:=3) rfl rfl m hm));obtain ⟨c3_0,_⟩:=al r3;exact ⟨⟨a0,a1,a2,a3⟩,⟨k0,k1,k2,k3⟩,⟨c0_0,c1_0,c1_1,c1_2,c2_0,c3_0,trivial⟩,by rw [hl]; kernel_rfl⟩
theorem AM (W:World):Reads Tryz.prog W 43 Lt.Block.enc Lt.Block.okr:=by
 intro Hh enc fuel cs x h hw;obtain ⟨xs,n,_,rfl,hl,hlen,hf⟩:=DataW.trod_struct Tryz.underlying43 h
 ·obtain ⟨y0,y1,y2,y3,rfl⟩:=qz hlen;have hw2:∀ n∈DataW.weightsEach Tryz.prog [9,35,36,41] [y0.1,y1.1,y2.1,y3.1],n<=reachBytes:=by
   intro n hn; refine hw n ?_; simp only [DataW.weights,Tryz.underlying43]; exact hn
  obtain ⟨a0,k0,r0,_⟩:=(aS Tryz.underlying9) Hh enc n _ y0 (hf 0 _ rfl) (fun m hm=>hw2 m (DataW.weights_mem_each (j:=0) rfl rfl m hm));obtain ⟨c0_0,_⟩:=al r0;obtain ⟨a1,k1,r1,_⟩:=(bH (R:=Lt.Phi.enc) (es:=2) Tryz.underlying35 (by kernel_rfl) (of_decide_eq_true (by kernel_rfl)) (fun _=>rfl) (by decide) (Kc W)) Hh enc n _ y1 (hf 1 _ rfl) (fun m hm=>hw2 m (DataW.weights_mem_each (j:=1) rfl rfl m hm));obtain ⟨c1_0,_⟩:=al r1;obtain ⟨a2,k2,r2,_⟩:=(bH (R:=Lt.Instr.enc) (es:=6) Tryz.underlying36 (by kernel_rfl) (of_decide_eq_true (by kernel_rfl)) (fun _=>rfl) (by decide) (Bl W)) Hh enc n _ y2 (hf 2 _ rfl) (fun m hm=>hw2 m (DataW.weights_mem_each (j:=2) rfl rfl m hm));obtain ⟨c2_0,_⟩:=al r2;obtain ⟨a3,k3,r3,_⟩:=(Er W) Hh enc n _ y3 (hf 3 _ rfl) (fun m hm=>hw2 m (DataW.weights_mem_each (j:=3) rfl rfl m hm));obtain ⟨c3_0,c3_1,c3_2,c3_3,c3_4,c3_5,_⟩:=al r3;exact ⟨⟨a0,a1,a2,a3⟩,⟨k0,k1,k2,k3⟩,⟨c0_0,c1_0,c2_0,c3_0,c3_1,c3_2,c3_3,c3_4,c3_5,trivial⟩,by rw [hl]; kernel_rfl⟩
theorem EQ (W:World):Reads Tryz.prog W 25 Lt.Func.enc Lt.Func.okr:=by
 intro Hh enc fuel cs x h hw;obtain ⟨xs,n,_,rfl,hl,hlen,hf⟩:=DataW.trod_struct Tryz.underlying25 h
 ·obtain ⟨y0,y1,y2,y3,y4,rfl⟩:=IE hlen;have hw2:∀ n∈DataW.weightsEach Tryz.prog [9,9,22,22,23] [y0.1,y1.1,y2.1,y3.1,y4.1],n<=reachBytes:=by
   intro n hn; refine hw n ?_; simp only [DataW.weights,Tryz.underlying25]; exact hn
  obtain ⟨a0,k0,r0,_⟩:=(aS Tryz.underlying9) Hh enc n _ y0 (hf 0 _ rfl) (fun m hm=>hw2 m (DataW.weights_mem_each (j:=0) rfl rfl m hm));obtain ⟨c0_0,_⟩:=al r0;obtain ⟨a1,k1,r1,_⟩:=(aS Tryz.underlying9) Hh enc n _ y1 (hf 1 _ rfl) (fun m hm=>hw2 m (DataW.weights_mem_each (j:=1) rfl rfl m hm));obtain ⟨c1_0,_⟩:=al r1;obtain ⟨a2,k2,r2,_⟩:=(bH (R:=Lt.Var.enc) (es:=2) Tryz.underlying22 (by kernel_rfl) (of_decide_eq_true (by kernel_rfl)) (fun _=>rfl) (by decide) (xX W)) Hh enc n _ y2 (hf 2 _ rfl) (fun m hm=>hw2 m (DataW.weights_mem_each (j:=2) rfl rfl m hm));obtain ⟨c2_0,_⟩:=al r2;obtain ⟨a3,k3,r3,_⟩:=(bH (R:=Lt.Var.enc) (es:=2) Tryz.underlying22 (by kernel_rfl) (of_decide_eq_true (by kernel_rfl)) (fun _=>rfl) (by decide) (xX W)) Hh enc n _ y3 (hf 3 _ rfl) (fun m hm=>hw2 m (DataW.weights_mem_each (j:=3) rfl rfl m hm));obtain ⟨c3_0,_⟩:=al r3;obtain ⟨a4,k4,r4,_⟩:=(bH (R:=Lt.Block.enc) (es:=9) Tryz.underlying23 (by kernel_rfl) (of_decide_eq_true (by kernel_rfl)) (fun _=>rfl) (by decide) (AM W)) Hh enc n _ y4 (hf 4 _ rfl) (fun m hm=>hw2 m (DataW.weights_mem_each (j:=4) rfl rfl m hm));obtain ⟨c4_0,_⟩:=al r4;exact ⟨⟨a0,a1,a2,a3,a4⟩,⟨k0,k1,k2,k3,k4⟩,⟨c0_0,c1_0,c2_0,c3_0,c4_0,trivial⟩,by rw [hl]; kernel_rfl⟩
end Go.Am
end
