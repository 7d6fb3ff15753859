/-
  Part 26: AmWrap · AmTy · AmReadT.
-/
import Derived.Test.YtgpedlcblhiklaaGreatDoorSo25
import Derived.Handed
import Derived.HandedShaped
import Derived.Shelf.Vars
import Derived.Lay
import Derived.LaidMore
import Derived.MakeChecks
set_option linter.unusedSimpArgs false
set_option linter.unusedVariables false
set_option linter.unusedSectionVars false
set_option linter.unnecessarySimpa false
open Go.Proofs.Tryz
section
namespace Go.Am
open Go Go.RowKit
variable {H:Type} {enc:TypeId×Value->H}
theorem tK{a:Assume}{C:Checked}{os:Os}{f:FuncId}{fn:Func}{s:ChangeSpec}{X:World->Array Value->Prop}
  (hX:∀(w w':World)(args:Array Value),w.heap=w'.heap->X w args->X w' args)
  (own:ownKnob C.prog.godebug=none) (d:os.Started) (k:C.prog.inits.idxOf? f=none) (p:C.prog.funcs[f]? = some fn)
  (h:∃(w:World)(tape:Tape)(i:Input),w.os=os/\(w.forCall tape i).Shaped C.prog/\i.vars=[]/\Input.okWide C.prog (w.forCall tape i) .any w.heap.size f i /\
   ((s.pre enc C.prog fn [] false (w.forCall tape i).memory i.args/\X (w.forCall tape i).memory i.args)/\sizedMet enc C.prog fn (OpenSpec.ofChange s) false (w.forCall tape i).memory i.args)/\a.holds C.prog (lone (Frame.enter C.prog f i.args .normal) [] (w.forCall tape i)))
  (c:∀(W:World)(l:Nat)(args:Array Value)(ds gs:List (DataW H))(b:List MemPlace),
   (∀(j:Nat)t v,fn.params[j]? = some t->args[j]? = some v->Value.okWide C.prog W .any l t v) ->
   DataW.Whole enc C.prog fn.params.toList s.vars false W args.toList ds gs b ->
   (DataW.weightsEach C.prog (fn.params.toList++s.plain.varTypes C.prog) (ds++gs)).all (·<=reachBytes)=true->X W args->W.ShapedOpen C.prog ->
   Calls C.prog f args W fun e u=>∃v,e=.returned v/\s.post enc C.prog fn false true false false W args v u) :
  ReturnsInHanded a C os f .any (fun w args=>(s.pre enc C.prog fn [] false w args/\X w args)/\sizedMet enc C.prog fn (OpenSpec.ofChange s) false w args) (s.post enc C.prog fn false true false false):=by
 refine returnsInHanded_of_calls own d k h (fun w tape i _ o _ q n _=>?_);obtain⟨_,_,_,g,r,_,_,_,_,m⟩:=q;obtain rfl:g=fn:=Option.some.inj (r.symm.trans p);obtain⟨⟨⟨ds,gs,b,hw,_⟩,hx⟩,hz⟩:=n;refine(c _ _ i.args ds gs b m (DataW.Whole.of_heap (w':=w.forCall tape i) (by rfl) hw) (hz.weights hw) (hX _ _ _ (by rfl) hx) o).mono ?_
 grind [ChangeSpec.post_blind]
theorem Tw{P:Program}{w:World}{g:Nat}{t:TypeId}{zero:Array Value}{k:IntKind}(h:w.ShapedOpen P)(i:g<P.globals.size)
  (h0:((begin P (fun _ _=>0) default).world.heap[g]?).bind Obj.row? = some (zero,t)) (hz:zero.size=1)
  (hb:P.buildable t=true) (hc:P.cellTypes P.depth t=some [t]) (f:P.underlying t=some (.int k)):∃n m,Bx (snap w) m [.int k n] g 0:=by
 obtain⟨cs,l,hs,hr⟩:=h.1 g zero t i h0;obtain⟨ts,c,_,d⟩:=hr hb;rw[hc]at c;cases c;have h1:0<cs.size:=by omega
 obtain⟨u,e,b⟩:=d 0 cs[0] (by simp[h1]);obtain rfl:u=t:=by grind
 have a:w.cell? ⟨g,0,none⟩=some cs[0]:=by grind [World.cell?]
 unfold Cell.ok at b;rw[f]at b;cases hv:cs[0]<;>rw[hv]at b<;>simp at b
 rename_i k' n;refine⟨n,0,fun j hj=>?_⟩;obtain rfl:j=0:=by grind
 rw[hv,b.1]at a;exact⟨_,PF a,rfl,by grind [IntKind.has,Lit.wf]⟩
end Go.Am
end

section
namespace Go.Am
open Go.Proofs
end Go.Am
end

section
namespace Lt
open Go.Am
def Var.okr(x:Var):Prop:=okS x.Name/\okS x.Type_
def Class.okr(x:Class):Prop:=okS x.Name/\(okL Lt.Var.okr) x.Fields
def Extern.okr(x:Extern):Prop:=okS x.Name/\(okI .i64) x.N
def Arg.okr(x:Arg):Prop:=(okI .i64) x.Kind/\okS x.S/\(okI .i64) x.N
def In.okr(x:In):Prop:=okS x.Block/\Lt.Arg.okr x.A
def Phi.okr(x:Phi):Prop:=okS x.Dst/\(okL Lt.In.okr) x.Ins
def Bind.okr(x:Bind):Prop:=okS x.Name/\Lt.Arg.okr x.A
def Frame.okr(x:Frame):Prop:=okS x.Func/\okS x.Block/\(okI .i64) x.At/\(okL Lt.Bind.okr) x.Vars
def Virt.okr(x:Virt):Prop:=okS x.Class/\(okL Lt.Arg.okr) x.Vals
def Instr.okr(x:Instr):Prop:=(okI .i64) x.Op/\okS x.Dst/\okS x.Name/\(okL Lt.Arg.okr) x.Args/\(okL Lt.Frame.okr) x.Frames/\(okL Lt.Virt.okr) x.Objs
def Term.okr(x:Term):Prop:=(okI .i64) x.Kind/\Lt.Arg.okr x.A/\(okL okS) x.To/\(okI .i64) x.N
def Block.okr(x:Block):Prop:=okS x.Name/\(okL Lt.Phi.okr) x.Phis/\(okL Lt.Instr.okr) x.Code/\Lt.Term.okr x.End
def Func.okr(x:Func):Prop:=okS x.Name/\okS x.Result/\(okL Lt.Var.okr) x.Params/\(okL Lt.Var.okr) x.Vars/\(okL Lt.Block.okr) x.Blocks
def Program.okr(x:Program):Prop:=okB x.SSA/\(okL Lt.Class.okr) x.Classes/\(okL Lt.Var.okr) x.Globals/\(okL Lt.Extern.okr) x.Externs/\(okL Lt.Func.okr) x.Funcs
end Lt
namespace Go.Am
open Go.Proofs
theorem p8(W:World):Reads prog W 61 Lt.Var.enc Lt.Var.okr:=by
 intro f enc fuel cs x h hw;obtain⟨xs,n,_,rfl,hl,d,hf⟩:=DataW.trod_struct underlying61 h
 ·obtain⟨i,g,rfl⟩:=iK d;have b:∀n∈DataW.weightsEach prog [9,9] [i.1,g.1],n<=reachBytes:=by
   intro n hn;refine hw n ?_;simp only[DataW.weights,underlying61];exact hn
  obtain⟨a0,k0,r0,_⟩:=(aQ underlying9) f enc n _ i (hf 0 _ rfl) (fun m e=>b m (DataW.weights_mem_each (j:=0) rfl rfl m e));obtain⟨a,_⟩:=ah r0;obtain⟨k,k1,r1,_⟩:=(aQ underlying9) f enc n _ g (hf 1 _ rfl) (fun m e=>b m (DataW.weights_mem_each (j:=1) rfl rfl m e));obtain⟨c,_⟩:=ah r1;exact⟨⟨a0,k⟩,⟨k0,k1⟩,⟨a,c,trivial⟩,by rw[hl];kernel_rfl⟩
theorem GH(W:World):Reads prog W 69 Lt.Class.enc Lt.Class.okr:=by
 intro f enc fuel cs x h hw;obtain⟨xs,n,_,rfl,hl,d,hf⟩:=DataW.trod_struct underlying69 h
 ·obtain⟨i,g,rfl⟩:=iK d;have b:∀n∈DataW.weightsEach prog [9,23] [i.1,g.1],n<=reachBytes:=by
   intro n hn;refine hw n ?_;simp only[DataW.weights,underlying69];exact hn
  obtain⟨a0,k0,r0,_⟩:=(aQ underlying9) f enc n _ i (hf 0 _ rfl) (fun m e=>b m (DataW.weights_mem_each (j:=0) rfl rfl m e));obtain⟨a,_⟩:=ah r0;obtain⟨k,k1,r1,_⟩:=(ba (R:=Lt.Var.enc) (es:=2) underlying23 kQ0 (of_decide_eq_true kQ0) (fun _=>rfl) (by decide) (p8 W)) f enc n _ g (hf 1 _ rfl) (fun m e=>b m (DataW.weights_mem_each (j:=1) rfl rfl m e));obtain⟨c,_⟩:=ah r1;exact⟨⟨a0,k⟩,⟨k0,k1⟩,⟨a,c,trivial⟩,by rw[hl];kernel_rfl⟩
theorem D5(W:World):Reads prog W 71 Lt.Extern.enc Lt.Extern.okr:=by
 intro f enc fuel cs x h hw;obtain⟨xs,n,_,rfl,hl,d,hf⟩:=DataW.trod_struct underlying71 h
 ·obtain⟨i,g,rfl⟩:=iK d;have b:∀n∈DataW.weightsEach prog [9,3] [i.1,g.1],n<=reachBytes:=by
   intro n hn;refine hw n ?_;simp only[DataW.weights,underlying71];exact hn
  obtain⟨a0,k0,r0,_⟩:=(aQ underlying9) f enc n _ i (hf 0 _ rfl) (fun m e=>b m (DataW.weights_mem_each (j:=0) rfl rfl m e));obtain⟨a,_⟩:=ah r0;obtain⟨k,k1,r1,_⟩:=(iz underlying3) f enc n _ g (hf 1 _ rfl) (fun m e=>b m (DataW.weights_mem_each (j:=1) rfl rfl m e));obtain⟨c,_⟩:=ah r1;exact⟨⟨a0,k⟩,⟨k0,k1⟩,⟨a,c,trivial⟩,by rw[hl];kernel_rfl⟩
theorem l4(W:World):Reads prog W 46 Lt.Arg.enc Lt.Arg.okr:=by
 intro g enc fuel cs x h hw;obtain⟨xs,n,_,rfl,hl,d,hf⟩:=DataW.trod_struct underlying46 h
 ·obtain⟨l,i,k,rfl⟩:=RY d;have a:∀n∈DataW.weightsEach prog [3,9,2] [l.1,i.1,k.1],n<=reachBytes:=by
   intro n hn;refine hw n ?_;simp only[DataW.weights,underlying46];exact hn
  obtain⟨a0,k0,r0,_⟩:=(iz underlying3) g enc n _ l (hf 0 _ rfl) (fun m e=>a m (DataW.weights_mem_each (j:=0) rfl rfl m e));obtain⟨b,_⟩:=ah r0;obtain⟨p,k1,r1,_⟩:=(aQ underlying9) g enc n _ i (hf 1 _ rfl) (fun m e=>a m (DataW.weights_mem_each (j:=1) rfl rfl m e));obtain⟨c,_⟩:=ah r1;obtain⟨o,k2,r2,_⟩:=(iz underlying2) g enc n _ k (hf 2 _ rfl) (fun m e=>a m (DataW.weights_mem_each (j:=2) rfl rfl m e));obtain⟨f,_⟩:=ah r2;exact⟨⟨a0,p,o⟩,⟨k0,k1,k2⟩,⟨b,c,f,trivial⟩,by rw[hl];kernel_rfl⟩
theorem Ud(W:World):Reads prog W 151 Lt.In.enc Lt.In.okr:=by
 intro i enc fuel cs x h hw;obtain⟨xs,n,_,rfl,hl,e,hf⟩:=DataW.trod_struct underlying151 h
 ·obtain⟨l,k,rfl⟩:=iK e;have c:∀n∈DataW.weightsEach prog [9,46] [l.1,k.1],n<=reachBytes:=by
   intro n hn;refine hw n ?_;simp only[DataW.weights,underlying151];exact hn
  obtain⟨a0,k0,r0,_⟩:=(aQ underlying9) i enc n _ l (hf 0 _ rfl) (fun m g=>c m (DataW.weights_mem_each (j:=0) rfl rfl m g));obtain⟨a,_⟩:=ah r0;obtain⟨o,k1,r1,_⟩:=(l4 W) i enc n _ k (hf 1 _ rfl) (fun m g=>c m (DataW.weights_mem_each (j:=1) rfl rfl m g));obtain⟨d,f,b,_⟩:=ah r1;exact⟨⟨a0,o⟩,⟨k0,k1⟩,⟨a,d,f,b,trivial⟩,by rw[hl];kernel_rfl⟩
theorem Qd(W:World):Reads prog W 133 Lt.Phi.enc Lt.Phi.okr:=by
 intro f enc fuel cs x h hw;obtain⟨xs,n,_,rfl,hl,d,hf⟩:=DataW.trod_struct underlying133 h
 ·obtain⟨i,g,rfl⟩:=iK d;have b:∀n∈DataW.weightsEach prog [9,131] [i.1,g.1],n<=reachBytes:=by
   intro n hn;refine hw n ?_;simp only[DataW.weights,underlying133];exact hn
  obtain⟨a0,k0,r0,_⟩:=(aQ underlying9) f enc n _ i (hf 0 _ rfl) (fun m e=>b m (DataW.weights_mem_each (j:=0) rfl rfl m e));obtain⟨a,_⟩:=ah r0;obtain⟨k,k1,r1,_⟩:=(ba (R:=Lt.In.enc) (es:=4) underlying131 kQ0 (of_decide_eq_true kQ0) (fun _=>rfl) (by decide) (Ud W)) f enc n _ g (hf 1 _ rfl) (fun m e=>b m (DataW.weights_mem_each (j:=1) rfl rfl m e));obtain⟨c,_⟩:=ah r1;exact⟨⟨a0,k⟩,⟨k0,k1⟩,⟨a,c,trivial⟩,by rw[hl];kernel_rfl⟩
theorem Lj(W:World):Reads prog W 143 Lt.Bind.enc Lt.Bind.okr:=by
 intro i enc fuel cs x h hw;obtain⟨xs,n,_,rfl,hl,e,hf⟩:=DataW.trod_struct underlying143 h
 ·obtain⟨l,k,rfl⟩:=iK e;have c:∀n∈DataW.weightsEach prog [9,46] [l.1,k.1],n<=reachBytes:=by
   intro n hn;refine hw n ?_;simp only[DataW.weights,underlying143];exact hn
  obtain⟨a0,k0,r0,_⟩:=(aQ underlying9) i enc n _ l (hf 0 _ rfl) (fun m g=>c m (DataW.weights_mem_each (j:=0) rfl rfl m g));obtain⟨a,_⟩:=ah r0;obtain⟨o,k1,r1,_⟩:=(l4 W) i enc n _ k (hf 1 _ rfl) (fun m g=>c m (DataW.weights_mem_each (j:=1) rfl rfl m g));obtain⟨d,f,b,_⟩:=ah r1;exact⟨⟨a0,o⟩,⟨k0,k1⟩,⟨a,d,f,b,trivial⟩,by rw[hl];kernel_rfl⟩
theorem GI(W:World):Reads prog W 141 Lt.Frame.enc Lt.Frame.okr:=by
 intro g enc fuel cs x h hw;obtain⟨xs,n,_,rfl,hl,e,hf⟩:=DataW.trod_struct underlying141 h
 ·obtain⟨o,i,k,l,rfl⟩:=vS e;have a:∀n∈DataW.weightsEach prog [9,9,3,139] [o.1,i.1,k.1,l.1],n<=reachBytes:=by
   intro n hn;refine hw n ?_;simp only[DataW.weights,underlying141];exact hn
  obtain⟨a0,k0,r0,_⟩:=(aQ underlying9) g enc n _ o (hf 0 _ rfl) (fun m b=>a m (DataW.weights_mem_each (j:=0) rfl rfl m b));obtain⟨c,_⟩:=ah r0;obtain⟨q,k1,r1,_⟩:=(aQ underlying9) g enc n _ i (hf 1 _ rfl) (fun m b=>a m (DataW.weights_mem_each (j:=1) rfl rfl m b));obtain⟨d,_⟩:=ah r1;obtain⟨p,k2,r2,_⟩:=(iz underlying3) g enc n _ k (hf 2 _ rfl) (fun m b=>a m (DataW.weights_mem_each (j:=2) rfl rfl m b));obtain⟨f,_⟩:=ah r2;obtain⟨a3,k3,r3,_⟩:=(ba (R:=Lt.Bind.enc) (es:=4) underlying139 kQ0 (of_decide_eq_true kQ0) (fun _=>rfl) (by decide) (Lj W)) g enc n _ l (hf 3 _ rfl) (fun m b=>a m (DataW.weights_mem_each (j:=3) rfl rfl m b));obtain⟨kU,_⟩:=ah r3;exact⟨⟨a0,q,p,a3⟩,⟨k0,k1,k2,k3⟩,⟨c,d,f,kU,trivial⟩,by rw[hl];kernel_rfl⟩
theorem Lm(W:World):Reads prog W 145 Lt.Virt.enc Lt.Virt.okr:=by
 intro f enc fuel cs x h hw;obtain⟨xs,n,_,rfl,hl,d,hf⟩:=DataW.trod_struct underlying145 h
 ·obtain⟨i,g,rfl⟩:=iK d;have b:∀n∈DataW.weightsEach prog [9,53] [i.1,g.1],n<=reachBytes:=by
   intro n hn;refine hw n ?_;simp only[DataW.weights,underlying145];exact hn
  obtain⟨a0,k0,r0,_⟩:=(aQ underlying9) f enc n _ i (hf 0 _ rfl) (fun m e=>b m (DataW.weights_mem_each (j:=0) rfl rfl m e));obtain⟨a,_⟩:=ah r0;obtain⟨k,k1,r1,_⟩:=(ba (R:=Lt.Arg.enc) (es:=3) underlying53 kQ0 (of_decide_eq_true kQ0) (fun _=>rfl) (by decide) (l4 W)) f enc n _ g (hf 1 _ rfl) (fun m e=>b m (DataW.weights_mem_each (j:=1) rfl rfl m e));obtain⟨c,_⟩:=ah r1;exact⟨⟨a0,k⟩,⟨k0,k1⟩,⟨a,c,trivial⟩,by rw[hl];kernel_rfl⟩
theorem GJ(W:World):Reads prog W 57 Lt.Instr.enc Lt.Instr.okr:=by
 intro c enc fuel cs x h hw;obtain⟨xs,n,_,rfl,hl,g,hf⟩:=DataW.trod_struct underlying57 h
 ·obtain⟨s,o,p,q,l,r,rfl⟩:=RZ g;have a:∀n∈DataW.weightsEach prog [3,9,9,53,54,55] [s.1,o.1,p.1,q.1,l.1,r.1],n<=reachBytes:=by
   intro n hn;refine hw n ?_;simp only[DataW.weights,underlying57];exact hn
  obtain⟨a0,k0,r0,_⟩:=(iz underlying3) c enc n _ s (hf 0 _ rfl) (fun m b=>a m (DataW.weights_mem_each (j:=0) rfl rfl m b));obtain⟨d,_⟩:=ah r0;obtain⟨u,k1,r1,_⟩:=(aQ underlying9) c enc n _ o (hf 1 _ rfl) (fun m b=>a m (DataW.weights_mem_each (j:=1) rfl rfl m b));obtain⟨f,_⟩:=ah r1;obtain⟨t,k2,r2,_⟩:=(aQ underlying9) c enc n _ p (hf 2 _ rfl) (fun m b=>a m (DataW.weights_mem_each (j:=2) rfl rfl m b));obtain⟨i,_⟩:=ah r2;obtain⟨a3,k3,r3,_⟩:=(ba (R:=Lt.Arg.enc) (es:=3) underlying53 kQ0 (of_decide_eq_true kQ0) (fun _=>rfl) (by decide) (l4 W)) c enc n _ q (hf 3 _ rfl) (fun m b=>a m (DataW.weights_mem_each (j:=3) rfl rfl m b));obtain⟨kU,_⟩:=ah r3;obtain⟨a4,k4,r4,_⟩:=(ba (R:=Lt.Frame.enc) (es:=4) underlying54 kQ0 (of_decide_eq_true kQ0) (fun _=>rfl) (by decide) (GI W)) c enc n _ l (hf 4 _ rfl) (fun m b=>a m (DataW.weights_mem_each (j:=4) rfl rfl m b));obtain⟨k,_⟩:=ah r4;obtain⟨a5,k5,r5,_⟩:=(ba (R:=Lt.Virt.enc) (es:=2) underlying55 kQ0 (of_decide_eq_true kQ0) (fun _=>rfl) (by decide) (Lm W)) c enc n _ r (hf 5 _ rfl) (fun m b=>a m (DataW.weights_mem_each (j:=5) rfl rfl m b));obtain⟨e,_⟩:=ah r5;exact⟨⟨a0,u,t,a3,a4,a5⟩,⟨k0,k1,k2,k3,k4,k5⟩,⟨d,f,i,kU,k,e,trivial⟩,by rw[hl];kernel_rfl⟩
theorem Ll(W:World):Reads prog W 49 Lt.Term.enc Lt.Term.okr:=by
 intro k enc fuel cs x h hw;obtain⟨xs,n,_,rfl,hl,e,hf⟩:=DataW.trod_struct underlying49 h
 ·obtain⟨l,o,p,q,rfl⟩:=vS e;have a:∀n∈DataW.weightsEach prog [3,46,47,2] [l.1,o.1,p.1,q.1],n<=reachBytes:=by
   intro n hn;refine hw n ?_;simp only[DataW.weights,underlying49];exact hn
  obtain⟨a0,k0,r0,_⟩:=(iz underlying3) k enc n _ l (hf 0 _ rfl) (fun m b=>a m (DataW.weights_mem_each (j:=0) rfl rfl m b));obtain⟨c,_⟩:=ah r0;obtain⟨s,k1,r1,_⟩:=(l4 W) k enc n _ o (hf 1 _ rfl) (fun m b=>a m (DataW.weights_mem_each (j:=1) rfl rfl m b));obtain⟨d,f,i,_⟩:=ah r1;obtain⟨r,k2,r2,_⟩:=(ba (R:=rS.enc) (es:=1) underlying47 kQ0 (of_decide_eq_true kQ0) (fun _=>rfl) (by decide) (aQ underlying9)) k enc n _ p (hf 2 _ rfl) (fun m b=>a m (DataW.weights_mem_each (j:=2) rfl rfl m b));obtain⟨g,_⟩:=ah r2;obtain⟨a3,k3,r3,_⟩:=(iz underlying2) k enc n _ q (hf 3 _ rfl) (fun m b=>a m (DataW.weights_mem_each (j:=3) rfl rfl m b));obtain⟨kU,_⟩:=ah r3;exact⟨⟨a0,s,r,a3⟩,⟨k0,k1,k2,k3⟩,⟨c,d,f,i,g,kU,trivial⟩,by rw[hl];kernel_rfl⟩
theorem GG(W:World):Reads prog W 51 Lt.Block.enc Lt.Block.okr:=by
 intro l enc fuel cs x h hw;obtain⟨xs,n,_,rfl,hl,g,hf⟩:=DataW.trod_struct underlying51 h
 ·obtain⟨r,o,p,q,rfl⟩:=vS g;have a:∀n∈DataW.weightsEach prog [9,43,44,49] [r.1,o.1,p.1,q.1],n<=reachBytes:=by
   intro n hn;refine hw n ?_;simp only[DataW.weights,underlying51];exact hn
  obtain⟨a0,k0,r0,_⟩:=(aQ underlying9) l enc n _ r (hf 0 _ rfl) (fun m b=>a m (DataW.weights_mem_each (j:=0) rfl rfl m b));obtain⟨c,_⟩:=ah r0;obtain⟨t,k1,r1,_⟩:=(ba (R:=Lt.Phi.enc) (es:=2) underlying43 kQ0 (of_decide_eq_true kQ0) (fun _=>rfl) (by decide) (Qd W)) l enc n _ o (hf 1 _ rfl) (fun m b=>a m (DataW.weights_mem_each (j:=1) rfl rfl m b));obtain⟨f,_⟩:=ah r1;obtain⟨s,k2,r2,_⟩:=(ba (R:=Lt.Instr.enc) (es:=6) underlying44 kQ0 (of_decide_eq_true kQ0) (fun _=>rfl) (by decide) (GJ W)) l enc n _ p (hf 2 _ rfl) (fun m b=>a m (DataW.weights_mem_each (j:=2) rfl rfl m b));obtain⟨i,_⟩:=ah r2;obtain⟨a3,k3,r3,_⟩:=(Ll W) l enc n _ q (hf 3 _ rfl) (fun m b=>a m (DataW.weights_mem_each (j:=3) rfl rfl m b));obtain⟨kU,k,G1,oV,e,d,_⟩:=ah r3;exact⟨⟨a0,t,s,a3⟩,⟨k0,k1,k2,k3⟩,⟨c,f,i,kU,k,G1,oV,e,d,trivial⟩,by rw[hl];kernel_rfl⟩
theorem Lk(W:World):Reads prog W 40 Lt.Func.enc Lt.Func.okr:=by
 intro d enc fuel cs x h hw;obtain⟨xs,n,_,rfl,hl,f,hf⟩:=DataW.trod_struct underlying40 h
 ·obtain⟨q,l,o,p,k,rfl⟩:=Dh f;have a:∀n∈DataW.weightsEach prog [9,9,23,23,38] [q.1,l.1,o.1,p.1,k.1],n<=reachBytes:=by
   intro n hn;refine hw n ?_;simp only[DataW.weights,underlying40];exact hn
  obtain⟨a0,k0,r0,_⟩:=(aQ underlying9) d enc n _ q (hf 0 _ rfl) (fun m b=>a m (DataW.weights_mem_each (j:=0) rfl rfl m b));obtain⟨c,_⟩:=ah r0;obtain⟨s,k1,r1,_⟩:=(aQ underlying9) d enc n _ l (hf 1 _ rfl) (fun m b=>a m (DataW.weights_mem_each (j:=1) rfl rfl m b));obtain⟨e,_⟩:=ah r1;obtain⟨r,k2,r2,_⟩:=(ba (R:=Lt.Var.enc) (es:=2) underlying23 kQ0 (of_decide_eq_true kQ0) (fun _=>rfl) (by decide) (p8 W)) d enc n _ o (hf 2 _ rfl) (fun m b=>a m (DataW.weights_mem_each (j:=2) rfl rfl m b));obtain⟨g,_⟩:=ah r2;obtain⟨a3,k3,r3,_⟩:=(ba (R:=Lt.Var.enc) (es:=2) underlying23 kQ0 (of_decide_eq_true kQ0) (fun _=>rfl) (by decide) (p8 W)) d enc n _ p (hf 3 _ rfl) (fun m b=>a m (DataW.weights_mem_each (j:=3) rfl rfl m b));obtain⟨kU,_⟩:=ah r3;obtain⟨a4,k4,r4,_⟩:=(ba (R:=Lt.Block.enc) (es:=9) underlying38 kQ0 (of_decide_eq_true kQ0) (fun _=>rfl) (by decide) (GG W)) d enc n _ k (hf 4 _ rfl) (fun m b=>a m (DataW.weights_mem_each (j:=4) rfl rfl m b));obtain⟨i,_⟩:=ah r4;exact⟨⟨a0,s,r,a3,a4⟩,⟨k0,k1,k2,k3,k4⟩,⟨c,e,g,kU,i,trivial⟩,by rw[hl];kernel_rfl⟩
theorem By(W:World):Reads prog W 27 Lt.Program.enc Lt.Program.okr:=by
 intro d enc fuel cs x h hw;obtain⟨xs,n,_,rfl,hl,f,hf⟩:=DataW.trod_struct underlying27 h
 ·obtain⟨q,l,o,p,k,rfl⟩:=Dh f;have a:∀n∈DataW.weightsEach prog [4,22,23,24,25] [q.1,l.1,o.1,p.1,k.1],n<=reachBytes:=by
   intro n hn;refine hw n ?_;simp only[DataW.weights,underlying27];exact hn
  obtain⟨a0,k0,r0,_⟩:=(Ln underlying4) d enc n _ q (hf 0 _ rfl) (fun m b=>a m (DataW.weights_mem_each (j:=0) rfl rfl m b));obtain⟨c,_⟩:=ah r0;obtain⟨s,k1,r1,_⟩:=(ba (R:=Lt.Class.enc) (es:=2) underlying22 kQ0 (of_decide_eq_true kQ0) (fun _=>rfl) (by decide) (GH W)) d enc n _ l (hf 1 _ rfl) (fun m b=>a m (DataW.weights_mem_each (j:=1) rfl rfl m b));obtain⟨e,_⟩:=ah r1;obtain⟨r,k2,r2,_⟩:=(ba (R:=Lt.Var.enc) (es:=2) underlying23 kQ0 (of_decide_eq_true kQ0) (fun _=>rfl) (by decide) (p8 W)) d enc n _ o (hf 2 _ rfl) (fun m b=>a m (DataW.weights_mem_each (j:=2) rfl rfl m b));obtain⟨g,_⟩:=ah r2;obtain⟨a3,k3,r3,_⟩:=(ba (R:=Lt.Extern.enc) (es:=2) underlying24 kQ0 (of_decide_eq_true kQ0) (fun _=>rfl) (by decide) (D5 W)) d enc n _ p (hf 3 _ rfl) (fun m b=>a m (DataW.weights_mem_each (j:=3) rfl rfl m b));obtain⟨kU,_⟩:=ah r3;obtain⟨a4,k4,r4,_⟩:=(ba (R:=Lt.Func.enc) (es:=5) underlying25 kQ0 (of_decide_eq_true kQ0) (fun _=>rfl) (by decide) (Lk W)) d enc n _ k (hf 4 _ rfl) (fun m b=>a m (DataW.weights_mem_each (j:=4) rfl rfl m b));obtain⟨i,_⟩:=ah r4;exact⟨⟨a0,s,r,a3,a4⟩,⟨k0,k1,k2,k3,k4⟩,⟨c,e,g,kU,i,trivial⟩,by rw[hl];kernel_rfl⟩
end Go.Am
end
