/-
  Part 24: AmWrap · AmTy · AmReadT.
-/
import Derived.Test.YthhkhcolidkemaaGreatDoorCs23
import Derived.Handed
import Derived.HandedShaped
import Derived.Shelf.Vars
import Derived.Lay
import Derived.LaidMore
import Derived.MakeChecks
set_option linter.unusedSimpArgs false
set_option linter.unusedVariables false
set_option linter.unusedSectionVars false
set_option linter.unnecessarySimpa false
open Go.Proofs.Tryz
section
namespace Go.Am
open Go Go.RowKit
variable {H:Type} {enc:TypeId×Value->H}
theorem ua{a:Assume}{C:Checked}{os:Os}{f:FuncId}{fn:Func}{s:ChangeSpec}{X:World->Array Value->Prop}
  (y:∀(w w':World)(args:Array Value),w.heap=w'.heap->X w args->X w' args)
  (own:ownKnob C.prog.godebug=none) (h:os.Started) (k:C.prog.inits.idxOf? f=none) (o:C.prog.funcs[f]? = some fn)
  (d:∃(w:World)(tape:Tape)(i:Input),w.os=os/\(w.forCall tape i).Shaped C.prog/\i.vars=[]/\Input.okWide C.prog (w.forCall tape i) .any w.heap.size f i /\
   ((s.pre enc C.prog fn [] false (w.forCall tape i).memory i.args/\X (w.forCall tape i).memory i.args)/\sizedMet enc C.prog fn (OpenSpec.ofChange s) false (w.forCall tape i).memory i.args)/\a.holds C.prog (lone (Frame.enter C.prog f i.args .normal) [] (w.forCall tape i)))
  (c:∀(W:World)(n:Nat)(args:Array Value)(ds gs:List (DataW H))(b:List MemPlace),
   (∀(j:Nat)t v,fn.params[j]? = some t->args[j]? = some v->Value.okWide C.prog W .any n t v) ->
   DataW.Whole enc C.prog fn.params.toList s.vars false W args.toList ds gs b ->
   (DataW.weightsEach C.prog (fn.params.toList++s.plain.varTypes C.prog) (ds++gs)).all (·<=reachBytes)=true->X W args->W.ShapedOpen C.prog ->
   Calls C.prog f args W fun e r=>∃v,e=.returned v/\s.post enc C.prog fn false true false false W args v r) :
  ReturnsInHanded a C os f .any (fun w args=>(s.pre enc C.prog fn [] false w args/\X w args)/\sizedMet enc C.prog fn (OpenSpec.ofChange s) false w args) (s.post enc C.prog fn false true false false):=by
 refine returnsInHanded_of_calls own h k d (fun w tape i _ p _ q m _=>?_);obtain⟨_,_,_,g,u,_,_,_,_,l⟩:=q;obtain rfl:g=fn:=Option.some.inj (u.symm.trans o);obtain⟨⟨⟨ds,gs,b,hw,_⟩,hx⟩,x⟩:=m;refine(c _ _ i.args ds gs b l (DataW.Whole.of_heap (w':=w.forCall tape i) (by rfl) hw) (x.weights hw) (y _ _ _ (by rfl) hx) p).mono ?_
 grind [ChangeSpec.post_blind]
theorem UI{P:Program}{w:World}{g:Nat}{t:TypeId}{zero:Array Value}{k:IntKind}(h:w.ShapedOpen P)(f:g<P.globals.size)
  (h0:((begin P (fun _ _=>0) default).world.heap[g]?).bind Obj.row? = some (zero,t)) (l:zero.size=1)
  (hb:P.buildable t=true) (hc:P.cellTypes P.depth t=some [t]) (e:P.underlying t=some (.int k)):∃n m,BB (snap w) m [.int k n] g 0:=by
 obtain⟨cs,o,hs,hr⟩:=h.1 g zero t f h0;obtain⟨ts,d,_,c⟩:=hr hb;rw[hc]at d;cases d;have h1:0<cs.size:=by omega
 obtain⟨u,i,b⟩:=c 0 cs[0] (by simp[h1]);obtain rfl:u=t:=by grind
 have a:w.cell? ⟨g,0,none⟩=some cs[0]:=by grind [World.cell?]
 unfold Cell.ok at b;rw[e]at b;cases hv:cs[0]<;>rw[hv]at b<;>simp at b
 rename_i k' n;refine⟨n,0,fun j hj=>?_⟩;obtain rfl:j=0:=by grind
 rw[hv,b.1]at a;exact⟨_,FM a,rfl,by grind [IntKind.has,Lit.wf]⟩
end Go.Am
end

section
namespace Go.Am
open Go.Proofs
end Go.Am
end

section
namespace Lt
open Go.Am
def Var.okr(x:Var):Prop:=okS x.Name/\okS x.Type_
def Class.okr(x:Class):Prop:=okS x.Name/\(okL Lt.Var.okr) x.Fields
def Extern.okr(x:Extern):Prop:=okS x.Name/\(okI .i64) x.N
def Arg.okr(x:Arg):Prop:=(okI .i64) x.Kind/\okS x.S/\(okI .i64) x.N
def In.okr(x:In):Prop:=okS x.Block/\Lt.Arg.okr x.A
def Phi.okr(x:Phi):Prop:=okS x.Dst/\(okL Lt.In.okr) x.Ins
def Bind.okr(x:Bind):Prop:=okS x.Name/\Lt.Arg.okr x.A
def Frame.okr(x:Frame):Prop:=okS x.Func/\okS x.Block/\(okI .i64) x.At/\(okL Lt.Bind.okr) x.Vars
def Virt.okr(x:Virt):Prop:=okS x.Class/\(okL Lt.Arg.okr) x.Vals
def Instr.okr(x:Instr):Prop:=(okI .i64) x.Op/\okS x.Dst/\okS x.Name/\(okL Lt.Arg.okr) x.Args/\(okL Lt.Frame.okr) x.Frames/\(okL Lt.Virt.okr) x.Objs
def Term.okr(x:Term):Prop:=(okI .i64) x.Kind/\Lt.Arg.okr x.A/\(okL okS) x.To/\(okI .i64) x.N
def Block.okr(x:Block):Prop:=okS x.Name/\(okL Lt.Phi.okr) x.Phis/\(okL Lt.Instr.okr) x.Code/\Lt.Term.okr x.End
def Func.okr(x:Func):Prop:=okS x.Name/\okS x.Result/\(okL Lt.Var.okr) x.Params/\(okL Lt.Var.okr) x.Vars/\(okL Lt.Block.okr) x.Blocks
def Program.okr(x:Program):Prop:=okB x.SSA/\(okL Lt.Class.okr) x.Classes/\(okL Lt.Var.okr) x.Globals/\(okL Lt.Extern.okr) x.Externs/\(okL Lt.Func.okr) x.Funcs
end Lt
namespace Go.Am
open Go.Proofs
theorem qE(W:World):Reads prog W 95 Lt.Var.enc Lt.Var.okr:=by
 intro e enc fuel cs x h hw;obtain⟨xs,n,_,rfl,hl,a,hf⟩:=DataW.trod_struct underlying95 h
 ·obtain⟨f,g,rfl⟩:=iR a;have b:∀n∈DataW.weightsEach prog [9,9] [f.1,g.1],n<=reachBytes:=by
   grind [DataW.weights,underlying95]
  obtain⟨a0,k0,r0,_⟩:=(aQ underlying9) e enc n _ f (hf 0 _ rfl) (fun m hm=>b m (DataW.weights_mem_each (j:=0) rfl rfl m hm));obtain⟨d,_⟩:=al r0;obtain⟨i,k1,r1,_⟩:=(aQ underlying9) e enc n _ g (hf 1 _ rfl) (fun m hm=>b m (DataW.weights_mem_each (j:=1) rfl rfl m hm));obtain⟨c,_⟩:=al r1;exact⟨⟨a0,i⟩,⟨k0,k1⟩,⟨d,c,trivial⟩,by rw[hl];kernel_rfl⟩
theorem G5(W:World):Reads prog W 58 Lt.Class.enc Lt.Class.okr:=by
 intro e enc fuel cs x h hw;obtain⟨xs,n,_,rfl,hl,a,hf⟩:=DataW.trod_struct underlying58 h
 ·obtain⟨f,g,rfl⟩:=iR a;have b:∀n∈DataW.weightsEach prog [9,23] [f.1,g.1],n<=reachBytes:=by
   grind [DataW.weights,underlying58]
  obtain⟨a0,k0,r0,_⟩:=(aQ underlying9) e enc n _ f (hf 0 _ rfl) (fun m hm=>b m (DataW.weights_mem_each (j:=0) rfl rfl m hm));obtain⟨d,_⟩:=al r0;obtain⟨i,k1,r1,_⟩:=(aY (R:=Lt.Var.enc) (es:=2) underlying23 kQ0 (of_decide_eq_true kQ0) (fun _=>rfl) (by decide) (qE W)) e enc n _ g (hf 1 _ rfl) (fun m hm=>b m (DataW.weights_mem_each (j:=1) rfl rfl m hm));obtain⟨c,_⟩:=al r1;exact⟨⟨a0,i⟩,⟨k0,k1⟩,⟨d,c,trivial⟩,by rw[hl];kernel_rfl⟩
theorem Ec(W:World):Reads prog W 60 Lt.Extern.enc Lt.Extern.okr:=by
 intro e enc fuel cs x h hw;obtain⟨xs,n,_,rfl,hl,a,hf⟩:=DataW.trod_struct underlying60 h
 ·obtain⟨f,g,rfl⟩:=iR a;have b:∀n∈DataW.weightsEach prog [9,3] [f.1,g.1],n<=reachBytes:=by
   grind [DataW.weights,underlying60]
  obtain⟨a0,k0,r0,_⟩:=(aQ underlying9) e enc n _ f (hf 0 _ rfl) (fun m hm=>b m (DataW.weights_mem_each (j:=0) rfl rfl m hm));obtain⟨d,_⟩:=al r0;obtain⟨i,k1,r1,_⟩:=(iF underlying3) e enc n _ g (hf 1 _ rfl) (fun m hm=>b m (DataW.weights_mem_each (j:=1) rfl rfl m hm));obtain⟨c,_⟩:=al r1;exact⟨⟨a0,i⟩,⟨k0,k1⟩,⟨d,c,trivial⟩,by rw[hl];kernel_rfl⟩
theorem mS(W:World):Reads prog W 44 Lt.Arg.enc Lt.Arg.okr:=by
 intro f enc fuel cs x h hw;obtain⟨xs,n,_,rfl,hl,b,hf⟩:=DataW.trod_struct underlying44 h
 ·obtain⟨i,k,g,rfl⟩:=Ti b;have a:∀n∈DataW.weightsEach prog [3,9,2] [i.1,k.1,g.1],n<=reachBytes:=by
   grind [DataW.weights,underlying44]
  obtain⟨a0,k0,r0,_⟩:=(iF underlying3) f enc n _ i (hf 0 _ rfl) (fun m hm=>a m (DataW.weights_mem_each (j:=0) rfl rfl m hm));obtain⟨e,_⟩:=al r0;obtain⟨l,k1,r1,_⟩:=(aQ underlying9) f enc n _ k (hf 1 _ rfl) (fun m hm=>a m (DataW.weights_mem_each (j:=1) rfl rfl m hm));obtain⟨c,_⟩:=al r1;obtain⟨o,k2,r2,_⟩:=(iF underlying2) f enc n _ g (hf 2 _ rfl) (fun m hm=>a m (DataW.weights_mem_each (j:=2) rfl rfl m hm));obtain⟨d,_⟩:=al r2;exact⟨⟨a0,l,o⟩,⟨k0,k1,k2⟩,⟨e,c,d,trivial⟩,by rw[hl];kernel_rfl⟩
theorem Vp(W:World):Reads prog W 90 Lt.In.enc Lt.In.okr:=by
 intro g enc fuel cs x h hw;obtain⟨xs,n,_,rfl,hl,c,hf⟩:=DataW.trod_struct underlying90 h
 ·obtain⟨i,k,rfl⟩:=iR c;have d:∀n∈DataW.weightsEach prog [9,44] [i.1,k.1],n<=reachBytes:=by
   grind [DataW.weights,underlying90]
  obtain⟨a0,k0,r0,_⟩:=(aQ underlying9) g enc n _ i (hf 0 _ rfl) (fun m hm=>d m (DataW.weights_mem_each (j:=0) rfl rfl m hm));obtain⟨f,_⟩:=al r0;obtain⟨l,k1,r1,_⟩:=(mS W) g enc n _ k (hf 1 _ rfl) (fun m hm=>d m (DataW.weights_mem_each (j:=1) rfl rfl m hm));obtain⟨e,a,b,_⟩:=al r1;exact⟨⟨a0,l⟩,⟨k0,k1⟩,⟨f,e,a,b,trivial⟩,by rw[hl];kernel_rfl⟩
theorem Q3(W:World):Reads prog W 88 Lt.Phi.enc Lt.Phi.okr:=by
 intro e enc fuel cs x h hw;obtain⟨xs,n,_,rfl,hl,a,hf⟩:=DataW.trod_struct underlying88 h
 ·obtain⟨f,g,rfl⟩:=iR a;have b:∀n∈DataW.weightsEach prog [9,86] [f.1,g.1],n<=reachBytes:=by
   grind [DataW.weights,underlying88]
  obtain⟨a0,k0,r0,_⟩:=(aQ underlying9) e enc n _ f (hf 0 _ rfl) (fun m hm=>b m (DataW.weights_mem_each (j:=0) rfl rfl m hm));obtain⟨d,_⟩:=al r0;obtain⟨i,k1,r1,_⟩:=(aY (R:=Lt.In.enc) (es:=4) underlying86 kQ0 (of_decide_eq_true kQ0) (fun _=>rfl) (by decide) (Vp W)) e enc n _ g (hf 1 _ rfl) (fun m hm=>b m (DataW.weights_mem_each (j:=1) rfl rfl m hm));obtain⟨c,_⟩:=al r1;exact⟨⟨a0,i⟩,⟨k0,k1⟩,⟨d,c,trivial⟩,by rw[hl];kernel_rfl⟩
theorem LL(W:World):Reads prog W 149 Lt.Bind.enc Lt.Bind.okr:=by
 intro g enc fuel cs x h hw;obtain⟨xs,n,_,rfl,hl,c,hf⟩:=DataW.trod_struct underlying149 h
 ·obtain⟨i,k,rfl⟩:=iR c;have d:∀n∈DataW.weightsEach prog [9,44] [i.1,k.1],n<=reachBytes:=by
   grind [DataW.weights,underlying149]
  obtain⟨a0,k0,r0,_⟩:=(aQ underlying9) g enc n _ i (hf 0 _ rfl) (fun m hm=>d m (DataW.weights_mem_each (j:=0) rfl rfl m hm));obtain⟨f,_⟩:=al r0;obtain⟨l,k1,r1,_⟩:=(mS W) g enc n _ k (hf 1 _ rfl) (fun m hm=>d m (DataW.weights_mem_each (j:=1) rfl rfl m hm));obtain⟨e,a,b,_⟩:=al r1;exact⟨⟨a0,l⟩,⟨k0,k1⟩,⟨f,e,a,b,trivial⟩,by rw[hl];kernel_rfl⟩
theorem G6(W:World):Reads prog W 147 Lt.Frame.enc Lt.Frame.okr:=by
 intro g enc fuel cs x h hw;obtain⟨xs,n,_,rfl,hl,c,hf⟩:=DataW.trod_struct underlying147 h
 ·obtain⟨l,k,i,o,rfl⟩:=wb c;have a:∀n∈DataW.weightsEach prog [9,9,3,145] [l.1,k.1,i.1,o.1],n<=reachBytes:=by
   grind [DataW.weights,underlying147]
  obtain⟨a0,k0,r0,_⟩:=(aQ underlying9) g enc n _ l (hf 0 _ rfl) (fun m hm=>a m (DataW.weights_mem_each (j:=0) rfl rfl m hm));obtain⟨f,_⟩:=al r0;obtain⟨p,k1,r1,_⟩:=(aQ underlying9) g enc n _ k (hf 1 _ rfl) (fun m hm=>a m (DataW.weights_mem_each (j:=1) rfl rfl m hm));obtain⟨d,_⟩:=al r1;obtain⟨q,k2,r2,_⟩:=(iF underlying3) g enc n _ i (hf 2 _ rfl) (fun m hm=>a m (DataW.weights_mem_each (j:=2) rfl rfl m hm));obtain⟨e,_⟩:=al r2;obtain⟨a3,k3,r3,_⟩:=(aY (R:=Lt.Bind.enc) (es:=4) underlying145 kQ0 (of_decide_eq_true kQ0) (fun _=>rfl) (by decide) (LL W)) g enc n _ o (hf 3 _ rfl) (fun m hm=>a m (DataW.weights_mem_each (j:=3) rfl rfl m hm));obtain⟨b,_⟩:=al r3;exact⟨⟨a0,p,q,a3⟩,⟨k0,k1,k2,k3⟩,⟨f,d,e,b,trivial⟩,by rw[hl];kernel_rfl⟩
theorem LO(W:World):Reads prog W 151 Lt.Virt.enc Lt.Virt.okr:=by
 intro e enc fuel cs x h hw;obtain⟨xs,n,_,rfl,hl,a,hf⟩:=DataW.trod_struct underlying151 h
 ·obtain⟨f,g,rfl⟩:=iR a;have b:∀n∈DataW.weightsEach prog [9,50] [f.1,g.1],n<=reachBytes:=by
   grind [DataW.weights,underlying151]
  obtain⟨a0,k0,r0,_⟩:=(aQ underlying9) e enc n _ f (hf 0 _ rfl) (fun m hm=>b m (DataW.weights_mem_each (j:=0) rfl rfl m hm));obtain⟨d,_⟩:=al r0;obtain⟨i,k1,r1,_⟩:=(aY (R:=Lt.Arg.enc) (es:=3) underlying50 kQ0 (of_decide_eq_true kQ0) (fun _=>rfl) (by decide) (mS W)) e enc n _ g (hf 1 _ rfl) (fun m hm=>b m (DataW.weights_mem_each (j:=1) rfl rfl m hm));obtain⟨c,_⟩:=al r1;exact⟨⟨a0,i⟩,⟨k0,k1⟩,⟨d,c,trivial⟩,by rw[hl];kernel_rfl⟩
theorem G7(W:World):Reads prog W 54 Lt.Instr.enc Lt.Instr.okr:=by
 intro b enc fuel cs x h hw;obtain⟨xs,n,_,rfl,hl,d,hf⟩:=DataW.trod_struct underlying54 h
 ·obtain⟨p,o,l,s,q,r,rfl⟩:=Tj d;have a:∀n∈DataW.weightsEach prog [3,9,9,50,51,52] [p.1,o.1,l.1,s.1,q.1,r.1],n<=reachBytes:=by
   simp_all[DataW.weights]
  obtain⟨a0,k0,r0,_⟩:=(iF underlying3) b enc n _ p (hf 0 _ rfl) (fun m hm=>a m (DataW.weights_mem_each (j:=0) rfl rfl m hm));obtain⟨k,_⟩:=al r0;obtain⟨t,k1,r1,_⟩:=(aQ underlying9) b enc n _ o (hf 1 _ rfl) (fun m hm=>a m (DataW.weights_mem_each (j:=1) rfl rfl m hm));obtain⟨f,_⟩:=al r1;obtain⟨u,k2,r2,_⟩:=(aQ underlying9) b enc n _ l (hf 2 _ rfl) (fun m hm=>a m (DataW.weights_mem_each (j:=2) rfl rfl m hm));obtain⟨g,_⟩:=al r2;obtain⟨a3,k3,r3,_⟩:=(aY (R:=Lt.Arg.enc) (es:=3) underlying50 kQ0 (of_decide_eq_true kQ0) (fun _=>rfl) (by decide) (mS W)) b enc n _ s (hf 3 _ rfl) (fun m hm=>a m (DataW.weights_mem_each (j:=3) rfl rfl m hm));obtain⟨c,_⟩:=al r3;obtain⟨a4,k4,r4,_⟩:=(aY (R:=Lt.Frame.enc) (es:=4) underlying51 kQ0 (of_decide_eq_true kQ0) (fun _=>rfl) (by decide) (G6 W)) b enc n _ q (hf 4 _ rfl) (fun m hm=>a m (DataW.weights_mem_each (j:=4) rfl rfl m hm));obtain⟨i,_⟩:=al r4;obtain⟨a5,k5,r5,_⟩:=(aY (R:=Lt.Virt.enc) (es:=2) underlying52 kQ0 (of_decide_eq_true kQ0) (fun _=>rfl) (by decide) (LO W)) b enc n _ r (hf 5 _ rfl) (fun m hm=>a m (DataW.weights_mem_each (j:=5) rfl rfl m hm));obtain⟨e,_⟩:=al r5;exact⟨⟨a0,t,u,a3,a4,a5⟩,⟨k0,k1,k2,k3,k4,k5⟩,⟨k,f,g,c,i,e,trivial⟩,by rw[hl];kernel_rfl⟩
theorem LN(W:World):Reads prog W 47 Lt.Term.enc Lt.Term.okr:=by
 intro k enc fuel cs x h hw;obtain⟨xs,n,_,rfl,hl,e,hf⟩:=DataW.trod_struct underlying47 h
 ·obtain⟨p,o,l,q,rfl⟩:=wb e;have a:∀n∈DataW.weightsEach prog [3,44,45,2] [p.1,o.1,l.1,q.1],n<=reachBytes:=by
   grind [DataW.weights,underlying47]
  obtain⟨a0,k0,r0,_⟩:=(iF underlying3) k enc n _ p (hf 0 _ rfl) (fun m hm=>a m (DataW.weights_mem_each (j:=0) rfl rfl m hm));obtain⟨i,_⟩:=al r0;obtain⟨r,k1,r1,_⟩:=(mS W) k enc n _ o (hf 1 _ rfl) (fun m hm=>a m (DataW.weights_mem_each (j:=1) rfl rfl m hm));obtain⟨f,c,d,_⟩:=al r1;obtain⟨s,k2,r2,_⟩:=(aY (R:=rS.enc) (es:=1) underlying45 kQ0 (of_decide_eq_true kQ0) (fun _=>rfl) (by decide) (aQ underlying9)) k enc n _ l (hf 2 _ rfl) (fun m hm=>a m (DataW.weights_mem_each (j:=2) rfl rfl m hm));obtain⟨g,_⟩:=al r2;obtain⟨a3,k3,r3,_⟩:=(iF underlying2) k enc n _ q (hf 3 _ rfl) (fun m hm=>a m (DataW.weights_mem_each (j:=3) rfl rfl m hm));obtain⟨b,_⟩:=al r3;exact⟨⟨a0,r,s,a3⟩,⟨k0,k1,k2,k3⟩,⟨i,f,c,d,g,b,trivial⟩,by rw[hl];kernel_rfl⟩
theorem G4(W:World):Reads prog W 49 Lt.Block.enc Lt.Block.okr:=by
 intro p enc fuel cs x h hw;obtain⟨xs,n,_,rfl,hl,c,hf⟩:=DataW.trod_struct underlying49 h
 ·obtain⟨s,r,q,t,rfl⟩:=wb c;have a:∀n∈DataW.weightsEach prog [9,41,42,47] [s.1,r.1,q.1,t.1],n<=reachBytes:=by
   grind [DataW.weights,underlying49]
  obtain⟨a0,k0,r0,_⟩:=(aQ underlying9) p enc n _ s (hf 0 _ rfl) (fun m hm=>a m (DataW.weights_mem_each (j:=0) rfl rfl m hm));obtain⟨o,_⟩:=al r0;obtain⟨u,k1,r1,_⟩:=(aY (R:=Lt.Phi.enc) (es:=2) underlying41 kQ0 (of_decide_eq_true kQ0) (fun _=>rfl) (by decide) (Q3 W)) p enc n _ r (hf 1 _ rfl) (fun m hm=>a m (DataW.weights_mem_each (j:=1) rfl rfl m hm));obtain⟨i,_⟩:=al r1;obtain⟨v,k2,r2,_⟩:=(aY (R:=Lt.Instr.enc) (es:=6) underlying42 kQ0 (of_decide_eq_true kQ0) (fun _=>rfl) (by decide) (G7 W)) p enc n _ q (hf 2 _ rfl) (fun m hm=>a m (DataW.weights_mem_each (j:=2) rfl rfl m hm));obtain⟨k,_⟩:=al r2;obtain⟨a3,k3,r3,_⟩:=(LN W) p enc n _ t (hf 3 _ rfl) (fun m hm=>a m (DataW.weights_mem_each (j:=3) rfl rfl m hm));obtain⟨b,l,f,e,d,g,_⟩:=al r3;exact⟨⟨a0,u,v,a3⟩,⟨k0,k1,k2,k3⟩,⟨o,i,k,b,l,f,e,d,g,trivial⟩,by rw[hl];kernel_rfl⟩
theorem LM(W:World):Reads prog W 36 Lt.Func.enc Lt.Func.okr:=by
 intro c enc fuel cs x h hw;obtain⟨xs,n,_,rfl,hl,d,hf⟩:=DataW.trod_struct underlying36 h
 ·obtain⟨o,l,k,q,p,rfl⟩:=Dq d;have a:∀n∈DataW.weightsEach prog [9,9,23,23,34] [o.1,l.1,k.1,q.1,p.1],n<=reachBytes:=by
   grind [DataW.weights,underlying36]
  obtain⟨a0,k0,r0,_⟩:=(aQ underlying9) c enc n _ o (hf 0 _ rfl) (fun m hm=>a m (DataW.weights_mem_each (j:=0) rfl rfl m hm));obtain⟨i,_⟩:=al r0;obtain⟨r,k1,r1,_⟩:=(aQ underlying9) c enc n _ l (hf 1 _ rfl) (fun m hm=>a m (DataW.weights_mem_each (j:=1) rfl rfl m hm));obtain⟨e,_⟩:=al r1;obtain⟨s,k2,r2,_⟩:=(aY (R:=Lt.Var.enc) (es:=2) underlying23 kQ0 (of_decide_eq_true kQ0) (fun _=>rfl) (by decide) (qE W)) c enc n _ k (hf 2 _ rfl) (fun m hm=>a m (DataW.weights_mem_each (j:=2) rfl rfl m hm));obtain⟨f,_⟩:=al r2;obtain⟨a3,k3,r3,_⟩:=(aY (R:=Lt.Var.enc) (es:=2) underlying23 kQ0 (of_decide_eq_true kQ0) (fun _=>rfl) (by decide) (qE W)) c enc n _ q (hf 3 _ rfl) (fun m hm=>a m (DataW.weights_mem_each (j:=3) rfl rfl m hm));obtain⟨b,_⟩:=al r3;obtain⟨a4,k4,r4,_⟩:=(aY (R:=Lt.Block.enc) (es:=9) underlying34 kQ0 (of_decide_eq_true kQ0) (fun _=>rfl) (by decide) (G4 W)) c enc n _ p (hf 4 _ rfl) (fun m hm=>a m (DataW.weights_mem_each (j:=4) rfl rfl m hm));obtain⟨g,_⟩:=al r4;exact⟨⟨a0,r,s,a3,a4⟩,⟨k0,k1,k2,k3,k4⟩,⟨i,e,f,b,g,trivial⟩,by rw[hl];kernel_rfl⟩
theorem BC(W:World):Reads prog W 27 Lt.Program.enc Lt.Program.okr:=by
 intro c enc fuel cs x h hw;obtain⟨xs,n,_,rfl,hl,d,hf⟩:=DataW.trod_struct underlying27 h
 ·obtain⟨o,l,k,q,p,rfl⟩:=Dq d;have a:∀n∈DataW.weightsEach prog [4,22,23,24,25] [o.1,l.1,k.1,q.1,p.1],n<=reachBytes:=by
   grind [DataW.weights,underlying27]
  obtain⟨a0,k0,r0,_⟩:=(LP underlying4) c enc n _ o (hf 0 _ rfl) (fun m hm=>a m (DataW.weights_mem_each (j:=0) rfl rfl m hm));obtain⟨i,_⟩:=al r0;obtain⟨r,k1,r1,_⟩:=(aY (R:=Lt.Class.enc) (es:=2) underlying22 kQ0 (of_decide_eq_true kQ0) (fun _=>rfl) (by decide) (G5 W)) c enc n _ l (hf 1 _ rfl) (fun m hm=>a m (DataW.weights_mem_each (j:=1) rfl rfl m hm));obtain⟨e,_⟩:=al r1;obtain⟨s,k2,r2,_⟩:=(aY (R:=Lt.Var.enc) (es:=2) underlying23 kQ0 (of_decide_eq_true kQ0) (fun _=>rfl) (by decide) (qE W)) c enc n _ k (hf 2 _ rfl) (fun m hm=>a m (DataW.weights_mem_each (j:=2) rfl rfl m hm));obtain⟨f,_⟩:=al r2;obtain⟨a3,k3,r3,_⟩:=(aY (R:=Lt.Extern.enc) (es:=2) underlying24 kQ0 (of_decide_eq_true kQ0) (fun _=>rfl) (by decide) (Ec W)) c enc n _ q (hf 3 _ rfl) (fun m hm=>a m (DataW.weights_mem_each (j:=3) rfl rfl m hm));obtain⟨b,_⟩:=al r3;obtain⟨a4,k4,r4,_⟩:=(aY (R:=Lt.Func.enc) (es:=5) underlying25 kQ0 (of_decide_eq_true kQ0) (fun _=>rfl) (by decide) (LM W)) c enc n _ p (hf 4 _ rfl) (fun m hm=>a m (DataW.weights_mem_each (j:=4) rfl rfl m hm));obtain⟨g,_⟩:=al r4;exact⟨⟨a0,r,s,a3,a4⟩,⟨k0,k1,k2,k3,k4⟩,⟨i,e,f,b,g,trivial⟩,by rw[hl];kernel_rfl⟩
end Go.Am
end
