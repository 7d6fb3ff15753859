/-
  Part 25: AmWrap · AmTy · AmReadT.
-/
import Derived.Test.YtgpedlcblhiklaaGreatDoorVo24
import Derived.Handed
import Derived.HandedShaped
import Derived.Shelf.Vars
import Derived.Lay
import Derived.LaidMore
import Derived.MakeChecks
set_option linter.unusedSimpArgs false
set_option linter.unusedVariables false
set_option linter.unusedSectionVars false
set_option linter.unnecessarySimpa false
open Go.Proofs.Tryz
section
namespace Go.Am
open Go Go.RowKit
variable {H:Type} {enc:TypeId×Value->H}
theorem uf{a:Assume}{C:Checked}{os:Os}{f:FuncId}{fn:Func}{s:ChangeSpec}{X:World->Array Value->Prop}
  (hX:∀(w w':World)(args:Array Value),w.heap=w'.heap->X w args->X w' args)
  (own:ownKnob C.prog.godebug=none) (h:os.Started) (k:C.prog.inits.idxOf? f=none) (o:C.prog.funcs[f]? = some fn)
  (d:∃(w:World)(tape:Tape)(i:Input),w.os=os/\(w.forCall tape i).Shaped C.prog/\i.vars=[]/\Input.okWide C.prog (w.forCall tape i) .any w.heap.size f i /\
   ((s.pre enc C.prog fn [] false (w.forCall tape i).memory i.args/\X (w.forCall tape i).memory i.args)/\sizedMet enc C.prog fn (OpenSpec.ofChange s) false (w.forCall tape i).memory i.args)/\a.holds C.prog (lone (Frame.enter C.prog f i.args .normal) [] (w.forCall tape i)))
  (c:∀(W:World)(l:Nat)(args:Array Value)(ds gs:List (DataW H))(b:List MemPlace),
   (∀(j:Nat)t v,fn.params[j]? = some t->args[j]? = some v->Value.okWide C.prog W .any l t v) ->
   DataW.Whole enc C.prog fn.params.toList s.vars false W args.toList ds gs b ->
   (DataW.weightsEach C.prog (fn.params.toList++s.plain.varTypes C.prog) (ds++gs)).all (·<=reachBytes)=true->X W args->W.ShapedOpen C.prog ->
   Calls C.prog f args W fun e r=>∃v,e=.returned v/\s.post enc C.prog fn false true false false W args v r) :
  ReturnsInHanded a C os f .any (fun w args=>(s.pre enc C.prog fn [] false w args/\X w args)/\sizedMet enc C.prog fn (OpenSpec.ofChange s) false w args) (s.post enc C.prog fn false true false false):=by
 refine returnsInHanded_of_calls own h k d (fun w tape i _ q _ p m _=>?_);obtain⟨_,_,_,g,u,_,_,_,_,n⟩:=p;obtain rfl:g=fn:=Option.some.inj (u.symm.trans o);obtain⟨⟨⟨ds,gs,b,hw,_⟩,hx⟩,hz⟩:=m;refine(c _ _ i.args ds gs b n (DataW.Whole.of_heap (w':=w.forCall tape i) (by rfl) hw) (hz.weights hw) (hX _ _ _ (by rfl) hx) q).mono ?_
 grind [ChangeSpec.post_blind]
theorem UY{P:Program}{w:World}{g:Nat}{t:TypeId}{zero:Array Value}{k:IntKind}(h:w.ShapedOpen P)(f:g<P.globals.size)
  (h0:((begin P (fun _ _=>0) default).world.heap[g]?).bind Obj.row? = some (zero,t)) (hz:zero.size=1)
  (hb:P.buildable t=true) (hc:P.cellTypes P.depth t=some [t]) (e:P.underlying t=some (.int k)):∃n m,BN (snap w) m [.int k n] g 0:=by
 obtain⟨cs,l,hs,hr⟩:=h.1 g zero t f h0;obtain⟨ts,c,_,d⟩:=hr hb;rw[hc]at c;cases c;have h1:0<cs.size:=by omega
 obtain⟨u,i,a⟩:=d 0 cs[0] (by simp[h1]);obtain rfl:u=t:=by grind
 have b:w.cell? ⟨g,0,none⟩=some cs[0]:=by grind [World.cell?]
 unfold Cell.ok at a;rw[e]at a;cases hv:cs[0]<;>rw[hv]at a<;>simp at a
 rename_i k' n;refine⟨n,0,fun j hj=>?_⟩;obtain rfl:j=0:=by grind
 rw[hv,a.1]at b;exact⟨_,QK b,rfl,by grind [IntKind.has,Lit.wf]⟩
end Go.Am
end

section
namespace Go.Am
open Go.Proofs
end Go.Am
end

section
namespace Lt
open Go.Am
def Var.okr(x:Var):Prop:=okS x.Name/\okS x.Type_
def Class.okr(x:Class):Prop:=okS x.Name/\(okL Lt.Var.okr) x.Fields
def Extern.okr(x:Extern):Prop:=okS x.Name/\(okI .i64) x.N
def Arg.okr(x:Arg):Prop:=(okI .i64) x.Kind/\okS x.S/\(okI .i64) x.N
def In.okr(x:In):Prop:=okS x.Block/\Lt.Arg.okr x.A
def Phi.okr(x:Phi):Prop:=okS x.Dst/\(okL Lt.In.okr) x.Ins
def Bind.okr(x:Bind):Prop:=okS x.Name/\Lt.Arg.okr x.A
def Frame.okr(x:Frame):Prop:=okS x.Func/\okS x.Block/\(okI .i64) x.At/\(okL Lt.Bind.okr) x.Vars
def Virt.okr(x:Virt):Prop:=okS x.Class/\(okL Lt.Arg.okr) x.Vals
def Instr.okr(x:Instr):Prop:=(okI .i64) x.Op/\okS x.Dst/\okS x.Name/\(okL Lt.Arg.okr) x.Args/\(okL Lt.Frame.okr) x.Frames/\(okL Lt.Virt.okr) x.Objs
def Term.okr(x:Term):Prop:=(okI .i64) x.Kind/\Lt.Arg.okr x.A/\(okL okS) x.To/\(okI .i64) x.N
def Block.okr(x:Block):Prop:=okS x.Name/\(okL Lt.Phi.okr) x.Phis/\(okL Lt.Instr.okr) x.Code/\Lt.Term.okr x.End
def Func.okr(x:Func):Prop:=okS x.Name/\okS x.Result/\(okL Lt.Var.okr) x.Params/\(okL Lt.Var.okr) x.Vars/\(okL Lt.Block.okr) x.Blocks
def Program.okr(x:Program):Prop:=okB x.SSA/\(okL Lt.Class.okr) x.Classes/\(okL Lt.Var.okr) x.Globals/\(okL Lt.Extern.okr) x.Externs/\(okL Lt.Func.okr) x.Funcs
end Lt
namespace Go.Am
open Go.Proofs
theorem qt(W:World):Reads prog W 61 Lt.Var.enc Lt.Var.okr:=by
 intro g enc fuel cs x h hw;obtain⟨xs,n,_,rfl,hl,b,hf⟩:=DataW.trod_struct underlying61 h
 ·obtain⟨f,i,rfl⟩:=iY b;have c:∀n∈DataW.weightsEach prog [9,9] [f.1,i.1],n<=reachBytes:=by
   intro n hn;refine hw n ?_;simp only[DataW.weights,underlying61];exact hn
  obtain⟨a0,k0,r0,_⟩:=(aS underlying9) g enc n _ f (hf 0 _ rfl) (fun m e=>c m (DataW.weights_mem_each (j:=0) rfl rfl m e));obtain⟨a,_⟩:=aj r0;obtain⟨k,k1,r1,_⟩:=(aS underlying9) g enc n _ i (hf 1 _ rfl) (fun m e=>c m (DataW.weights_mem_each (j:=1) rfl rfl m e));obtain⟨d,_⟩:=aj r1;exact⟨⟨a0,k⟩,⟨k0,k1⟩,⟨a,d,trivial⟩,by rw[hl];kernel_rfl⟩
theorem Ir(W:World):Reads prog W 69 Lt.Class.enc Lt.Class.okr:=by
 intro g enc fuel cs x h hw;obtain⟨xs,n,_,rfl,hl,b,hf⟩:=DataW.trod_struct underlying69 h
 ·obtain⟨f,i,rfl⟩:=iY b;have c:∀n∈DataW.weightsEach prog [9,23] [f.1,i.1],n<=reachBytes:=by
   intro n hn;refine hw n ?_;simp only[DataW.weights,underlying69];exact hn
  obtain⟨a0,k0,r0,_⟩:=(aS underlying9) g enc n _ f (hf 0 _ rfl) (fun m e=>c m (DataW.weights_mem_each (j:=0) rfl rfl m e));obtain⟨a,_⟩:=aj r0;obtain⟨k,k1,r1,_⟩:=(be (R:=Lt.Var.enc) (es:=2) underlying23 kQ0 (of_decide_eq_true kQ0) (fun _=>rfl) (by decide) (qt W)) g enc n _ i (hf 1 _ rfl) (fun m e=>c m (DataW.weights_mem_each (j:=1) rfl rfl m e));obtain⟨d,_⟩:=aj r1;exact⟨⟨a0,k⟩,⟨k0,k1⟩,⟨a,d,trivial⟩,by rw[hl];kernel_rfl⟩
theorem EC(W:World):Reads prog W 71 Lt.Extern.enc Lt.Extern.okr:=by
 intro g enc fuel cs x h hw;obtain⟨xs,n,_,rfl,hl,b,hf⟩:=DataW.trod_struct underlying71 h
 ·obtain⟨f,i,rfl⟩:=iY b;have c:∀n∈DataW.weightsEach prog [9,3] [f.1,i.1],n<=reachBytes:=by
   intro n hn;refine hw n ?_;simp only[DataW.weights,underlying71];exact hn
  obtain⟨a0,k0,r0,_⟩:=(aS underlying9) g enc n _ f (hf 0 _ rfl) (fun m e=>c m (DataW.weights_mem_each (j:=0) rfl rfl m e));obtain⟨a,_⟩:=aj r0;obtain⟨k,k1,r1,_⟩:=(iN underlying3) g enc n _ i (hf 1 _ rfl) (fun m e=>c m (DataW.weights_mem_each (j:=1) rfl rfl m e));obtain⟨d,_⟩:=aj r1;exact⟨⟨a0,k⟩,⟨k0,k1⟩,⟨a,d,trivial⟩,by rw[hl];kernel_rfl⟩
theorem mn(W:World):Reads prog W 46 Lt.Arg.enc Lt.Arg.okr:=by
 intro g enc fuel cs x h hw;obtain⟨xs,n,_,rfl,hl,b,hf⟩:=DataW.trod_struct underlying46 h
 ·obtain⟨i,l,k,rfl⟩:=TE b;have a:∀n∈DataW.weightsEach prog [3,9,2] [i.1,l.1,k.1],n<=reachBytes:=by
   intro n hn;refine hw n ?_;simp only[DataW.weights,underlying46];exact hn
  obtain⟨a0,k0,r0,_⟩:=(iN underlying3) g enc n _ i (hf 0 _ rfl) (fun m d=>a m (DataW.weights_mem_each (j:=0) rfl rfl m d));obtain⟨e,_⟩:=aj r0;obtain⟨o,k1,r1,_⟩:=(aS underlying9) g enc n _ l (hf 1 _ rfl) (fun m d=>a m (DataW.weights_mem_each (j:=1) rfl rfl m d));obtain⟨f,_⟩:=aj r1;obtain⟨p,k2,r2,_⟩:=(iN underlying2) g enc n _ k (hf 2 _ rfl) (fun m d=>a m (DataW.weights_mem_each (j:=2) rfl rfl m d));obtain⟨c,_⟩:=aj r2;exact⟨⟨a0,o,p⟩,⟨k0,k1,k2⟩,⟨e,f,c,trivial⟩,by rw[hl];kernel_rfl⟩
theorem VB(W:World):Reads prog W 151 Lt.In.enc Lt.In.okr:=by
 intro k enc fuel cs x h hw;obtain⟨xs,n,_,rfl,hl,d,hf⟩:=DataW.trod_struct underlying151 h
 ·obtain⟨i,l,rfl⟩:=iY d;have b:∀n∈DataW.weightsEach prog [9,46] [i.1,l.1],n<=reachBytes:=by
   intro n hn;refine hw n ?_;simp only[DataW.weights,underlying151];exact hn
  obtain⟨a0,k0,r0,_⟩:=(aS underlying9) k enc n _ i (hf 0 _ rfl) (fun m g=>b m (DataW.weights_mem_each (j:=0) rfl rfl m g));obtain⟨c,_⟩:=aj r0;obtain⟨o,k1,r1,_⟩:=(mn W) k enc n _ l (hf 1 _ rfl) (fun m g=>b m (DataW.weights_mem_each (j:=1) rfl rfl m g));obtain⟨f,e,a,_⟩:=aj r1;exact⟨⟨a0,o⟩,⟨k0,k1⟩,⟨c,f,e,a,trivial⟩,by rw[hl];kernel_rfl⟩
theorem Rh(W:World):Reads prog W 133 Lt.Phi.enc Lt.Phi.okr:=by
 intro g enc fuel cs x h hw;obtain⟨xs,n,_,rfl,hl,b,hf⟩:=DataW.trod_struct underlying133 h
 ·obtain⟨f,i,rfl⟩:=iY b;have c:∀n∈DataW.weightsEach prog [9,131] [f.1,i.1],n<=reachBytes:=by
   intro n hn;refine hw n ?_;simp only[DataW.weights,underlying133];exact hn
  obtain⟨a0,k0,r0,_⟩:=(aS underlying9) g enc n _ f (hf 0 _ rfl) (fun m e=>c m (DataW.weights_mem_each (j:=0) rfl rfl m e));obtain⟨a,_⟩:=aj r0;obtain⟨k,k1,r1,_⟩:=(be (R:=Lt.In.enc) (es:=4) underlying131 kQ0 (of_decide_eq_true kQ0) (fun _=>rfl) (by decide) (VB W)) g enc n _ i (hf 1 _ rfl) (fun m e=>c m (DataW.weights_mem_each (j:=1) rfl rfl m e));obtain⟨d,_⟩:=aj r1;exact⟨⟨a0,k⟩,⟨k0,k1⟩,⟨a,d,trivial⟩,by rw[hl];kernel_rfl⟩
theorem Ma(W:World):Reads prog W 143 Lt.Bind.enc Lt.Bind.okr:=by
 intro k enc fuel cs x h hw;obtain⟨xs,n,_,rfl,hl,d,hf⟩:=DataW.trod_struct underlying143 h
 ·obtain⟨i,l,rfl⟩:=iY d;have b:∀n∈DataW.weightsEach prog [9,46] [i.1,l.1],n<=reachBytes:=by
   intro n hn;refine hw n ?_;simp only[DataW.weights,underlying143];exact hn
  obtain⟨a0,k0,r0,_⟩:=(aS underlying9) k enc n _ i (hf 0 _ rfl) (fun m g=>b m (DataW.weights_mem_each (j:=0) rfl rfl m g));obtain⟨c,_⟩:=aj r0;obtain⟨o,k1,r1,_⟩:=(mn W) k enc n _ l (hf 1 _ rfl) (fun m g=>b m (DataW.weights_mem_each (j:=1) rfl rfl m g));obtain⟨f,e,a,_⟩:=aj r1;exact⟨⟨a0,o⟩,⟨k0,k1⟩,⟨c,f,e,a,trivial⟩,by rw[hl];kernel_rfl⟩
theorem Is(W:World):Reads prog W 141 Lt.Frame.enc Lt.Frame.okr:=by
 intro g enc fuel cs x h hw;obtain⟨xs,n,_,rfl,hl,e,hf⟩:=DataW.trod_struct underlying141 h
 ·obtain⟨i,k,o,l,rfl⟩:=wk e;have a:∀n∈DataW.weightsEach prog [9,9,3,139] [i.1,k.1,o.1,l.1],n<=reachBytes:=by
   intro n hn;refine hw n ?_;simp only[DataW.weights,underlying141];exact hn
  obtain⟨a0,k0,r0,_⟩:=(aS underlying9) g enc n _ i (hf 0 _ rfl) (fun m b=>a m (DataW.weights_mem_each (j:=0) rfl rfl m b));obtain⟨d,_⟩:=aj r0;obtain⟨p,k1,r1,_⟩:=(aS underlying9) g enc n _ k (hf 1 _ rfl) (fun m b=>a m (DataW.weights_mem_each (j:=1) rfl rfl m b));obtain⟨f,_⟩:=aj r1;obtain⟨q,k2,r2,_⟩:=(iN underlying3) g enc n _ o (hf 2 _ rfl) (fun m b=>a m (DataW.weights_mem_each (j:=2) rfl rfl m b));obtain⟨c,_⟩:=aj r2;obtain⟨a3,k3,r3,_⟩:=(be (R:=Lt.Bind.enc) (es:=4) underlying139 kQ0 (of_decide_eq_true kQ0) (fun _=>rfl) (by decide) (Ma W)) g enc n _ l (hf 3 _ rfl) (fun m b=>a m (DataW.weights_mem_each (j:=3) rfl rfl m b));obtain⟨lf,_⟩:=aj r3;exact⟨⟨a0,p,q,a3⟩,⟨k0,k1,k2,k3⟩,⟨d,f,c,lf,trivial⟩,by rw[hl];kernel_rfl⟩
theorem Md(W:World):Reads prog W 145 Lt.Virt.enc Lt.Virt.okr:=by
 intro g enc fuel cs x h hw;obtain⟨xs,n,_,rfl,hl,b,hf⟩:=DataW.trod_struct underlying145 h
 ·obtain⟨f,i,rfl⟩:=iY b;have c:∀n∈DataW.weightsEach prog [9,53] [f.1,i.1],n<=reachBytes:=by
   intro n hn;refine hw n ?_;simp only[DataW.weights,underlying145];exact hn
  obtain⟨a0,k0,r0,_⟩:=(aS underlying9) g enc n _ f (hf 0 _ rfl) (fun m e=>c m (DataW.weights_mem_each (j:=0) rfl rfl m e));obtain⟨a,_⟩:=aj r0;obtain⟨k,k1,r1,_⟩:=(be (R:=Lt.Arg.enc) (es:=3) underlying53 kQ0 (of_decide_eq_true kQ0) (fun _=>rfl) (by decide) (mn W)) g enc n _ i (hf 1 _ rfl) (fun m e=>c m (DataW.weights_mem_each (j:=1) rfl rfl m e));obtain⟨d,_⟩:=aj r1;exact⟨⟨a0,k⟩,⟨k0,k1⟩,⟨a,d,trivial⟩,by rw[hl];kernel_rfl⟩
theorem It(W:World):Reads prog W 57 Lt.Instr.enc Lt.Instr.okr:=by
 intro c enc fuel cs x h hw;obtain⟨xs,n,_,rfl,hl,i,hf⟩:=DataW.trod_struct underlying57 h
 ·obtain⟨l,p,r,q,o,s,rfl⟩:=TF i;have a:∀n∈DataW.weightsEach prog [3,9,9,53,54,55] [l.1,p.1,r.1,q.1,o.1,s.1],n<=reachBytes:=by
   intro n hn;refine hw n ?_;simp only[DataW.weights,underlying57];exact hn
  obtain⟨a0,k0,r0,_⟩:=(iN underlying3) c enc n _ l (hf 0 _ rfl) (fun m b=>a m (DataW.weights_mem_each (j:=0) rfl rfl m b));obtain⟨f,_⟩:=aj r0;obtain⟨t,k1,r1,_⟩:=(aS underlying9) c enc n _ p (hf 1 _ rfl) (fun m b=>a m (DataW.weights_mem_each (j:=1) rfl rfl m b));obtain⟨k,_⟩:=aj r1;obtain⟨u,k2,r2,_⟩:=(aS underlying9) c enc n _ r (hf 2 _ rfl) (fun m b=>a m (DataW.weights_mem_each (j:=2) rfl rfl m b));obtain⟨e,_⟩:=aj r2;obtain⟨a3,k3,r3,_⟩:=(be (R:=Lt.Arg.enc) (es:=3) underlying53 kQ0 (of_decide_eq_true kQ0) (fun _=>rfl) (by decide) (mn W)) c enc n _ q (hf 3 _ rfl) (fun m b=>a m (DataW.weights_mem_each (j:=3) rfl rfl m b));obtain⟨lf,_⟩:=aj r3;obtain⟨a4,k4,r4,_⟩:=(be (R:=Lt.Frame.enc) (es:=4) underlying54 kQ0 (of_decide_eq_true kQ0) (fun _=>rfl) (by decide) (Is W)) c enc n _ o (hf 4 _ rfl) (fun m b=>a m (DataW.weights_mem_each (j:=4) rfl rfl m b));obtain⟨g,_⟩:=aj r4;obtain⟨a5,k5,r5,_⟩:=(be (R:=Lt.Virt.enc) (es:=2) underlying55 kQ0 (of_decide_eq_true kQ0) (fun _=>rfl) (by decide) (Md W)) c enc n _ s (hf 5 _ rfl) (fun m b=>a m (DataW.weights_mem_each (j:=5) rfl rfl m b));obtain⟨d,_⟩:=aj r5;exact⟨⟨a0,t,u,a3,a4,a5⟩,⟨k0,k1,k2,k3,k4,k5⟩,⟨f,k,e,lf,g,d,trivial⟩,by rw[hl];kernel_rfl⟩
theorem Mc(W:World):Reads prog W 49 Lt.Term.enc Lt.Term.okr:=by
 intro k enc fuel cs x h hw;obtain⟨xs,n,_,rfl,hl,c,hf⟩:=DataW.trod_struct underlying49 h
 ·obtain⟨l,o,p,q,rfl⟩:=wk c;have a:∀n∈DataW.weightsEach prog [3,46,47,2] [l.1,o.1,p.1,q.1],n<=reachBytes:=by
   intro n hn;refine hw n ?_;simp only[DataW.weights,underlying49];exact hn
  obtain⟨a0,k0,r0,_⟩:=(iN underlying3) k enc n _ l (hf 0 _ rfl) (fun m b=>a m (DataW.weights_mem_each (j:=0) rfl rfl m b));obtain⟨f,_⟩:=aj r0;obtain⟨r,k1,r1,_⟩:=(mn W) k enc n _ o (hf 1 _ rfl) (fun m b=>a m (DataW.weights_mem_each (j:=1) rfl rfl m b));obtain⟨i,g,d,_⟩:=aj r1;obtain⟨s,k2,r2,_⟩:=(be (R:=rS.enc) (es:=1) underlying47 kQ0 (of_decide_eq_true kQ0) (fun _=>rfl) (by decide) (aS underlying9)) k enc n _ p (hf 2 _ rfl) (fun m b=>a m (DataW.weights_mem_each (j:=2) rfl rfl m b));obtain⟨e,_⟩:=aj r2;obtain⟨a3,k3,r3,_⟩:=(iN underlying2) k enc n _ q (hf 3 _ rfl) (fun m b=>a m (DataW.weights_mem_each (j:=3) rfl rfl m b));obtain⟨lf,_⟩:=aj r3;exact⟨⟨a0,r,s,a3⟩,⟨k0,k1,k2,k3⟩,⟨f,i,g,d,e,lf,trivial⟩,by rw[hl];kernel_rfl⟩
theorem Iq(W:World):Reads prog W 51 Lt.Block.enc Lt.Block.okr:=by
 intro l enc fuel cs x h hw;obtain⟨xs,n,_,rfl,hl,i,hf⟩:=DataW.trod_struct underlying51 h
 ·obtain⟨o,p,r,q,rfl⟩:=wk i;have a:∀n∈DataW.weightsEach prog [9,43,44,49] [o.1,p.1,r.1,q.1],n<=reachBytes:=by
   intro n hn;refine hw n ?_;simp only[DataW.weights,underlying51];exact hn
  obtain⟨a0,k0,r0,_⟩:=(aS underlying9) l enc n _ o (hf 0 _ rfl) (fun m b=>a m (DataW.weights_mem_each (j:=0) rfl rfl m b));obtain⟨g,_⟩:=aj r0;obtain⟨s,k1,r1,_⟩:=(be (R:=Lt.Phi.enc) (es:=2) underlying43 kQ0 (of_decide_eq_true kQ0) (fun _=>rfl) (by decide) (Rh W)) l enc n _ p (hf 1 _ rfl) (fun m b=>a m (DataW.weights_mem_each (j:=1) rfl rfl m b));obtain⟨k,_⟩:=aj r1;obtain⟨t,k2,r2,_⟩:=(be (R:=Lt.Instr.enc) (es:=6) underlying44 kQ0 (of_decide_eq_true kQ0) (fun _=>rfl) (by decide) (It W)) l enc n _ r (hf 2 _ rfl) (fun m b=>a m (DataW.weights_mem_each (j:=2) rfl rfl m b));obtain⟨d,_⟩:=aj r2;obtain⟨a3,k3,r3,_⟩:=(Mc W) l enc n _ q (hf 3 _ rfl) (fun m b=>a m (DataW.weights_mem_each (j:=3) rfl rfl m b));obtain⟨lf,e,IJ,pg,c,f,_⟩:=aj r3;exact⟨⟨a0,s,t,a3⟩,⟨k0,k1,k2,k3⟩,⟨g,k,d,lf,e,IJ,pg,c,f,trivial⟩,by rw[hl];kernel_rfl⟩
theorem Mb(W:World):Reads prog W 40 Lt.Func.enc Lt.Func.okr:=by
 intro c enc fuel cs x h hw;obtain⟨xs,n,_,rfl,hl,g,hf⟩:=DataW.trod_struct underlying40 h
 ·obtain⟨k,o,q,p,l,rfl⟩:=Dx g;have a:∀n∈DataW.weightsEach prog [9,9,23,23,38] [k.1,o.1,q.1,p.1,l.1],n<=reachBytes:=by
   intro n hn;refine hw n ?_;simp only[DataW.weights,underlying40];exact hn
  obtain⟨a0,k0,r0,_⟩:=(aS underlying9) c enc n _ k (hf 0 _ rfl) (fun m b=>a m (DataW.weights_mem_each (j:=0) rfl rfl m b));obtain⟨e,_⟩:=aj r0;obtain⟨r,k1,r1,_⟩:=(aS underlying9) c enc n _ o (hf 1 _ rfl) (fun m b=>a m (DataW.weights_mem_each (j:=1) rfl rfl m b));obtain⟨i,_⟩:=aj r1;obtain⟨s,k2,r2,_⟩:=(be (R:=Lt.Var.enc) (es:=2) underlying23 kQ0 (of_decide_eq_true kQ0) (fun _=>rfl) (by decide) (qt W)) c enc n _ q (hf 2 _ rfl) (fun m b=>a m (DataW.weights_mem_each (j:=2) rfl rfl m b));obtain⟨d,_⟩:=aj r2;obtain⟨a3,k3,r3,_⟩:=(be (R:=Lt.Var.enc) (es:=2) underlying23 kQ0 (of_decide_eq_true kQ0) (fun _=>rfl) (by decide) (qt W)) c enc n _ p (hf 3 _ rfl) (fun m b=>a m (DataW.weights_mem_each (j:=3) rfl rfl m b));obtain⟨lf,_⟩:=aj r3;obtain⟨a4,k4,r4,_⟩:=(be (R:=Lt.Block.enc) (es:=9) underlying38 kQ0 (of_decide_eq_true kQ0) (fun _=>rfl) (by decide) (Iq W)) c enc n _ l (hf 4 _ rfl) (fun m b=>a m (DataW.weights_mem_each (j:=4) rfl rfl m b));obtain⟨f,_⟩:=aj r4;exact⟨⟨a0,r,s,a3,a4⟩,⟨k0,k1,k2,k3,k4⟩,⟨e,i,d,lf,f,trivial⟩,by rw[hl];kernel_rfl⟩
theorem BO(W:World):Reads prog W 27 Lt.Program.enc Lt.Program.okr:=by
 intro c enc fuel cs x h hw;obtain⟨xs,n,_,rfl,hl,g,hf⟩:=DataW.trod_struct underlying27 h
 ·obtain⟨k,o,q,p,l,rfl⟩:=Dx g;have a:∀n∈DataW.weightsEach prog [4,22,23,24,25] [k.1,o.1,q.1,p.1,l.1],n<=reachBytes:=by
   intro n hn;refine hw n ?_;simp only[DataW.weights,underlying27];exact hn
  obtain⟨a0,k0,r0,_⟩:=(Me underlying4) c enc n _ k (hf 0 _ rfl) (fun m b=>a m (DataW.weights_mem_each (j:=0) rfl rfl m b));obtain⟨e,_⟩:=aj r0;obtain⟨r,k1,r1,_⟩:=(be (R:=Lt.Class.enc) (es:=2) underlying22 kQ0 (of_decide_eq_true kQ0) (fun _=>rfl) (by decide) (Ir W)) c enc n _ o (hf 1 _ rfl) (fun m b=>a m (DataW.weights_mem_each (j:=1) rfl rfl m b));obtain⟨i,_⟩:=aj r1;obtain⟨s,k2,r2,_⟩:=(be (R:=Lt.Var.enc) (es:=2) underlying23 kQ0 (of_decide_eq_true kQ0) (fun _=>rfl) (by decide) (qt W)) c enc n _ q (hf 2 _ rfl) (fun m b=>a m (DataW.weights_mem_each (j:=2) rfl rfl m b));obtain⟨d,_⟩:=aj r2;obtain⟨a3,k3,r3,_⟩:=(be (R:=Lt.Extern.enc) (es:=2) underlying24 kQ0 (of_decide_eq_true kQ0) (fun _=>rfl) (by decide) (EC W)) c enc n _ p (hf 3 _ rfl) (fun m b=>a m (DataW.weights_mem_each (j:=3) rfl rfl m b));obtain⟨lf,_⟩:=aj r3;obtain⟨a4,k4,r4,_⟩:=(be (R:=Lt.Func.enc) (es:=5) underlying25 kQ0 (of_decide_eq_true kQ0) (fun _=>rfl) (by decide) (Mb W)) c enc n _ l (hf 4 _ rfl) (fun m b=>a m (DataW.weights_mem_each (j:=4) rfl rfl m b));obtain⟨f,_⟩:=aj r4;exact⟨⟨a0,r,s,a3,a4⟩,⟨k0,k1,k2,k3,k4⟩,⟨e,i,d,lf,f,trivial⟩,by rw[hl];kernel_rfl⟩
end Go.Am
end
