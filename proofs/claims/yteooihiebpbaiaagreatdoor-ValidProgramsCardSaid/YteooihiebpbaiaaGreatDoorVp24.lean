/-
  Part 24: AmWrap · AmTy · AmReadT.
-/
import Derived.Test.YteooihiebpbaiaaGreatDoorVp23
import Derived.Handed
import Derived.HandedShaped
import Derived.Shelf.Vars
import Derived.Lay
import Derived.LaidMore
import Derived.MakeChecks
set_option linter.unusedSimpArgs false
set_option linter.unusedVariables false
set_option linter.unusedSectionVars false
set_option linter.unnecessarySimpa false
open Go.Proofs.Tryz
section
namespace Go.Am
open Go Go.RowKit
variable {H:Type} {enc:TypeId×Value->H}
theorem uq{a:Assume}{C:Checked}{os:Os}{f:FuncId}{fn:Func}{s:ChangeSpec}{X:World->Array Value->Prop}
  (r:∀(w w':World)(args:Array Value),w.heap=w'.heap->X w args->X w' args)
  (own:ownKnob C.prog.godebug=none) (h:os.Started) (k:C.prog.inits.idxOf? f=none) (o:C.prog.funcs[f]? = some fn)
  (d:∃(w:World)(tape:Tape)(i:Input),w.os=os/\(w.forCall tape i).Shaped C.prog/\i.vars=[]/\Input.okWide C.prog (w.forCall tape i) .any w.heap.size f i /\
   ((s.pre enc C.prog fn [] false (w.forCall tape i).memory i.args/\X (w.forCall tape i).memory i.args)/\sizedMet enc C.prog fn (OpenSpec.ofChange s) false (w.forCall tape i).memory i.args)/\a.holds C.prog (lone (Frame.enter C.prog f i.args .normal) [] (w.forCall tape i)))
  (c:∀(W:World)(n:Nat)(args:Array Value)(ds gs:List (DataW H))(b:List MemPlace),
   (∀(j:Nat)t v,fn.params[j]? = some t->args[j]? = some v->Value.okWide C.prog W .any n t v) ->
   DataW.Whole enc C.prog fn.params.toList s.vars false W args.toList ds gs b ->
   (DataW.weightsEach C.prog (fn.params.toList++s.plain.varTypes C.prog) (ds++gs)).all (·<=reachBytes)=true->X W args->W.ShapedOpen C.prog ->
   Calls C.prog f args W λe y=>∃v,e=.returned v/\s.post enc C.prog fn false true false false W args v y) :
  ReturnsInHanded a C os f .any (λw args=>(s.pre enc C.prog fn [] false w args/\X w args)/\sizedMet enc C.prog fn (OpenSpec.ofChange s) false w args) (s.post enc C.prog fn false true false false):=by
 refine returnsInHanded_of_calls own h k d (λw tape i _ q _ p l _=>?_);obtain⟨_,_,_,g,u,_,_,_,_,m⟩:=p;obtain rfl:g=fn:=Option.some.inj (u.symm.trans o);obtain⟨⟨⟨ds,gs,b,hw,_⟩,hx⟩,x⟩:=l;refine(c _ _ i.args ds gs b m (DataW.Whole.of_heap (w':=w.forCall tape i) (by rfl) hw) (x.weights hw) (r _ _ _ (by rfl) hx) q).mono ?_
 grind [ChangeSpec.post_blind]
theorem Vq{P:Program}{w:World}{g:Nat}{t:TypeId}{zero:Array Value}{k:IntKind}(h:w.ShapedOpen P)(e:g<P.globals.size)
  (h0:((begin P (λ_ _=>0) default).world.heap[g]?).bind Obj.row? = some (zero,t)) (o:zero.size=1)
  (hb:P.buildable t=true) (hc:P.cellTypes P.depth t=some [t]) (f:P.underlying t=some (.int k)):∃n m,BP (snap w) m [.int k n] g 0:=by
 obtain⟨cs,l,hs,hr⟩:=h.1 g zero t e h0;obtain⟨ts,d,_,c⟩:=hr hb;rw[hc]at d;cases d;have h1:0<cs.size:=by omega
 obtain⟨u,i,b⟩:=c 0 cs[0] (by simp[h1]);obtain rfl:u=t:=by grind
 have a:w.cell? ⟨g,0,none⟩=some cs[0]:=by grind [World.cell?]
 unfold Cell.ok at b;rw[f]at b;cases hv:cs[0]<;>rw[hv]at b<;>simp at b
 rename_i k' n;refine⟨n,0,λj hj=>?_⟩;obtain rfl:j=0:=by grind
 rw[hv,b.1]at a;exact⟨_,Gg a,rfl,by grind [IntKind.has,Lit.wf]⟩
end Go.Am
end

section
namespace Go.Am
open Go.Proofs
end Go.Am
end

section
namespace Lt
open Go.Am
def Var.okr(x:Var):Prop:=okS x.Name/\okS x.Type_
def Class.okr(x:Class):Prop:=okS x.Name/\(okL Lt.Var.okr) x.Fields
def Extern.okr(x:Extern):Prop:=okS x.Name/\(okI .i64) x.N
def Arg.okr(x:Arg):Prop:=(okI .i64) x.Kind/\okS x.S/\(okI .i64) x.N
def In.okr(x:In):Prop:=okS x.Block/\Lt.Arg.okr x.A
def Phi.okr(x:Phi):Prop:=okS x.Dst/\(okL Lt.In.okr) x.Ins
def Bind.okr(x:Bind):Prop:=okS x.Name/\Lt.Arg.okr x.A
def Frame.okr(x:Frame):Prop:=okS x.Func/\okS x.Block/\(okI .i64) x.At/\(okL Lt.Bind.okr) x.Vars
def Virt.okr(x:Virt):Prop:=okS x.Class/\(okL Lt.Arg.okr) x.Vals
def Instr.okr(x:Instr):Prop:=(okI .i64) x.Op/\okS x.Dst/\okS x.Name/\(okL Lt.Arg.okr) x.Args/\(okL Lt.Frame.okr) x.Frames/\(okL Lt.Virt.okr) x.Objs
def Term.okr(x:Term):Prop:=(okI .i64) x.Kind/\Lt.Arg.okr x.A/\(okL okS) x.To/\(okI .i64) x.N
def Block.okr(x:Block):Prop:=okS x.Name/\(okL Lt.Phi.okr) x.Phis/\(okL Lt.Instr.okr) x.Code/\Lt.Term.okr x.End
def Func.okr(x:Func):Prop:=okS x.Name/\okS x.Result/\(okL Lt.Var.okr) x.Params/\(okL Lt.Var.okr) x.Vars/\(okL Lt.Block.okr) x.Blocks
def Program.okr(x:Program):Prop:=okB x.SSA/\(okL Lt.Class.okr) x.Classes/\(okL Lt.Var.okr) x.Globals/\(okL Lt.Extern.okr) x.Externs/\(okL Lt.Func.okr) x.Funcs
end Lt
namespace Go.Am
open Go.Proofs
theorem qP(W:World):Reads prog W 89 Lt.Var.enc Lt.Var.okr:=by
 intro g enc fuel cs x h hw;obtain⟨xs,n,_,rfl,hl,d,hf⟩:=DataW.trod_struct underlying89 h
 .obtain⟨e,f,rfl⟩:=iV d;have b:∀n∈DataW.weightsEach prog [9,9] [e.1,f.1],n<=reachBytes:=by intro n hn;refine hw n ?_;simp only[DataW.weights,underlying89];exact hn
  obtain⟨a0,k0,r0,_⟩:=(aR underlying9) g enc n _ e (hf 0 _ rfl) (λm hm=>b m (DataW.weights_mem_each (j:=0) rfl rfl m hm));obtain⟨c,_⟩:=al r0;obtain⟨i,k1,r1,_⟩:=(aR underlying9) g enc n _ f (hf 1 _ rfl) (λm hm=>b m (DataW.weights_mem_each (j:=1) rfl rfl m hm));obtain⟨a,_⟩:=al r1;exact⟨⟨a0,i⟩,⟨k0,k1⟩,⟨c,a,trivial⟩,by rw[hl];kernel_rfl⟩
theorem Ix(W:World):Reads prog W 39 Lt.Class.enc Lt.Class.okr:=by
 intro g enc fuel cs x h hw;obtain⟨xs,n,_,rfl,hl,d,hf⟩:=DataW.trod_struct underlying39 h
 .obtain⟨e,f,rfl⟩:=iV d;have b:∀n∈DataW.weightsEach prog [9,23] [e.1,f.1],n<=reachBytes:=by intro n hn;refine hw n ?_;simp only[DataW.weights,underlying39];exact hn
  obtain⟨a0,k0,r0,_⟩:=(aR underlying9) g enc n _ e (hf 0 _ rfl) (λm hm=>b m (DataW.weights_mem_each (j:=0) rfl rfl m hm));obtain⟨c,_⟩:=al r0;obtain⟨i,k1,r1,_⟩:=(aY (R:=Lt.Var.enc) (es:=2) underlying23 kQ0 (of_decide_eq_true kQ0) (λ_=>rfl) (by decide) (qP W)) g enc n _ f (hf 1 _ rfl) (λm hm=>b m (DataW.weights_mem_each (j:=1) rfl rfl m hm));obtain⟨a,_⟩:=al r1;exact⟨⟨a0,i⟩,⟨k0,k1⟩,⟨c,a,trivial⟩,by rw[hl];kernel_rfl⟩
theorem Ey(W:World):Reads prog W 41 Lt.Extern.enc Lt.Extern.okr:=by
 intro g enc fuel cs x h hw;obtain⟨xs,n,_,rfl,hl,d,hf⟩:=DataW.trod_struct underlying41 h
 .obtain⟨e,f,rfl⟩:=iV d;have b:∀n∈DataW.weightsEach prog [9,3] [e.1,f.1],n<=reachBytes:=by intro n hn;refine hw n ?_;simp only[DataW.weights,underlying41];exact hn
  obtain⟨a0,k0,r0,_⟩:=(aR underlying9) g enc n _ e (hf 0 _ rfl) (λm hm=>b m (DataW.weights_mem_each (j:=0) rfl rfl m hm));obtain⟨c,_⟩:=al r0;obtain⟨i,k1,r1,_⟩:=(iJ underlying3) g enc n _ f (hf 1 _ rfl) (λm hm=>b m (DataW.weights_mem_each (j:=1) rfl rfl m hm));obtain⟨a,_⟩:=al r1;exact⟨⟨a0,i⟩,⟨k0,k1⟩,⟨c,a,trivial⟩,by rw[hl];kernel_rfl⟩
theorem mV(W:World):Reads prog W 56 Lt.Arg.enc Lt.Arg.okr:=by
 intro f enc fuel cs x h hw;obtain⟨xs,n,_,rfl,hl,e,hf⟩:=DataW.trod_struct underlying56 h
 .obtain⟨g,i,k,rfl⟩:=T8 e;have a:∀n∈DataW.weightsEach prog [3,9,2] [g.1,i.1,k.1],n<=reachBytes:=by intro n hn;refine hw n ?_;simp only[DataW.weights,underlying56];exact hn
  obtain⟨a0,k0,r0,_⟩:=(iJ underlying3) f enc n _ g (hf 0 _ rfl) (λm hm=>a m (DataW.weights_mem_each (j:=0) rfl rfl m hm));obtain⟨d,_⟩:=al r0;obtain⟨o,k1,r1,_⟩:=(aR underlying9) f enc n _ i (hf 1 _ rfl) (λm hm=>a m (DataW.weights_mem_each (j:=1) rfl rfl m hm));obtain⟨c,_⟩:=al r1;obtain⟨l,k2,r2,_⟩:=(iJ underlying2) f enc n _ k (hf 2 _ rfl) (λm hm=>a m (DataW.weights_mem_each (j:=2) rfl rfl m hm));obtain⟨b,_⟩:=al r2;exact⟨⟨a0,o,l⟩,⟨k0,k1,k2⟩,⟨d,c,b,trivial⟩,by rw[hl];kernel_rfl⟩
theorem V8(W:World):Reads prog W 66 Lt.In.enc Lt.In.okr:=by
 intro k enc fuel cs x h hw;obtain⟨xs,n,_,rfl,hl,a,hf⟩:=DataW.trod_struct underlying66 h
 .obtain⟨g,i,rfl⟩:=iV a;have d:∀n∈DataW.weightsEach prog [9,56] [g.1,i.1],n<=reachBytes:=by intro n hn;refine hw n ?_;simp only[DataW.weights,underlying66];exact hn
  obtain⟨a0,k0,r0,_⟩:=(aR underlying9) k enc n _ g (hf 0 _ rfl) (λm hm=>d m (DataW.weights_mem_each (j:=0) rfl rfl m hm));obtain⟨e,_⟩:=al r0;obtain⟨l,k1,r1,_⟩:=(mV W) k enc n _ i (hf 1 _ rfl) (λm hm=>d m (DataW.weights_mem_each (j:=1) rfl rfl m hm));obtain⟨c,b,f,_⟩:=al r1;exact⟨⟨a0,l⟩,⟨k0,k1⟩,⟨e,c,b,f,trivial⟩,by rw[hl];kernel_rfl⟩
theorem RK(W:World):Reads prog W 64 Lt.Phi.enc Lt.Phi.okr:=by
 intro g enc fuel cs x h hw;obtain⟨xs,n,_,rfl,hl,d,hf⟩:=DataW.trod_struct underlying64 h
 .obtain⟨e,f,rfl⟩:=iV d;have b:∀n∈DataW.weightsEach prog [9,62] [e.1,f.1],n<=reachBytes:=by intro n hn;refine hw n ?_;simp only[DataW.weights,underlying64];exact hn
  obtain⟨a0,k0,r0,_⟩:=(aR underlying9) g enc n _ e (hf 0 _ rfl) (λm hm=>b m (DataW.weights_mem_each (j:=0) rfl rfl m hm));obtain⟨c,_⟩:=al r0;obtain⟨i,k1,r1,_⟩:=(aY (R:=Lt.In.enc) (es:=4) underlying62 kQ0 (of_decide_eq_true kQ0) (λ_=>rfl) (by decide) (V8 W)) g enc n _ f (hf 1 _ rfl) (λm hm=>b m (DataW.weights_mem_each (j:=1) rfl rfl m hm));obtain⟨a,_⟩:=al r1;exact⟨⟨a0,i⟩,⟨k0,k1⟩,⟨c,a,trivial⟩,by rw[hl];kernel_rfl⟩
theorem Me(W:World):Reads prog W 139 Lt.Bind.enc Lt.Bind.okr:=by
 intro k enc fuel cs x h hw;obtain⟨xs,n,_,rfl,hl,a,hf⟩:=DataW.trod_struct underlying139 h
 .obtain⟨g,i,rfl⟩:=iV a;have d:∀n∈DataW.weightsEach prog [9,56] [g.1,i.1],n<=reachBytes:=by intro n hn;refine hw n ?_;simp only[DataW.weights,underlying139];exact hn
  obtain⟨a0,k0,r0,_⟩:=(aR underlying9) k enc n _ g (hf 0 _ rfl) (λm hm=>d m (DataW.weights_mem_each (j:=0) rfl rfl m hm));obtain⟨e,_⟩:=al r0;obtain⟨l,k1,r1,_⟩:=(mV W) k enc n _ i (hf 1 _ rfl) (λm hm=>d m (DataW.weights_mem_each (j:=1) rfl rfl m hm));obtain⟨c,b,f,_⟩:=al r1;exact⟨⟨a0,l⟩,⟨k0,k1⟩,⟨e,c,b,f,trivial⟩,by rw[hl];kernel_rfl⟩
theorem Iy(W:World):Reads prog W 137 Lt.Frame.enc Lt.Frame.okr:=by
 intro g enc fuel cs x h hw;obtain⟨xs,n,_,rfl,hl,e,hf⟩:=DataW.trod_struct underlying137 h
 .obtain⟨i,l,o,k,rfl⟩:=wu e;have a:∀n∈DataW.weightsEach prog [9,9,3,135] [i.1,l.1,o.1,k.1],n<=reachBytes:=by intro n hn;refine hw n ?_;simp only[DataW.weights,underlying137];exact hn
  obtain⟨a0,k0,r0,_⟩:=(aR underlying9) g enc n _ i (hf 0 _ rfl) (λm hm=>a m (DataW.weights_mem_each (j:=0) rfl rfl m hm));obtain⟨d,_⟩:=al r0;obtain⟨q,k1,r1,_⟩:=(aR underlying9) g enc n _ l (hf 1 _ rfl) (λm hm=>a m (DataW.weights_mem_each (j:=1) rfl rfl m hm));obtain⟨c,_⟩:=al r1;obtain⟨p,k2,r2,_⟩:=(iJ underlying3) g enc n _ o (hf 2 _ rfl) (λm hm=>a m (DataW.weights_mem_each (j:=2) rfl rfl m hm));obtain⟨b,_⟩:=al r2;obtain⟨a3,k3,r3,_⟩:=(aY (R:=Lt.Bind.enc) (es:=4) underlying135 kQ0 (of_decide_eq_true kQ0) (λ_=>rfl) (by decide) (Me W)) g enc n _ k (hf 3 _ rfl) (λm hm=>a m (DataW.weights_mem_each (j:=3) rfl rfl m hm));obtain⟨f,_⟩:=al r3;exact⟨⟨a0,q,p,a3⟩,⟨k0,k1,k2,k3⟩,⟨d,c,b,f,trivial⟩,by rw[hl];kernel_rfl⟩
theorem Mh(W:World):Reads prog W 141 Lt.Virt.enc Lt.Virt.okr:=by
 intro g enc fuel cs x h hw;obtain⟨xs,n,_,rfl,hl,d,hf⟩:=DataW.trod_struct underlying141 h
 .obtain⟨e,f,rfl⟩:=iV d;have b:∀n∈DataW.weightsEach prog [9,69] [e.1,f.1],n<=reachBytes:=by intro n hn;refine hw n ?_;simp only[DataW.weights,underlying141];exact hn
  obtain⟨a0,k0,r0,_⟩:=(aR underlying9) g enc n _ e (hf 0 _ rfl) (λm hm=>b m (DataW.weights_mem_each (j:=0) rfl rfl m hm));obtain⟨c,_⟩:=al r0;obtain⟨i,k1,r1,_⟩:=(aY (R:=Lt.Arg.enc) (es:=3) underlying69 kQ0 (of_decide_eq_true kQ0) (λ_=>rfl) (by decide) (mV W)) g enc n _ f (hf 1 _ rfl) (λm hm=>b m (DataW.weights_mem_each (j:=1) rfl rfl m hm));obtain⟨a,_⟩:=al r1;exact⟨⟨a0,i⟩,⟨k0,k1⟩,⟨c,a,trivial⟩,by rw[hl];kernel_rfl⟩
theorem Iz(W:World):Reads prog W 73 Lt.Instr.enc Lt.Instr.okr:=by
 intro b enc fuel cs x h hw;obtain⟨xs,n,_,rfl,hl,i,hf⟩:=DataW.trod_struct underlying73 h
 .obtain⟨l,q,s,o,r,p,rfl⟩:=T9 i;have a:∀n∈DataW.weightsEach prog [3,9,9,69,70,71] [l.1,q.1,s.1,o.1,r.1,p.1],n<=reachBytes:=by intro n hn;refine hw n ?_;simp only[DataW.weights,underlying73];exact hn
  obtain⟨a0,k0,r0,_⟩:=(iJ underlying3) b enc n _ l (hf 0 _ rfl) (λm hm=>a m (DataW.weights_mem_each (j:=0) rfl rfl m hm));obtain⟨g,_⟩:=al r0;obtain⟨u,k1,r1,_⟩:=(aR underlying9) b enc n _ q (hf 1 _ rfl) (λm hm=>a m (DataW.weights_mem_each (j:=1) rfl rfl m hm));obtain⟨e,_⟩:=al r1;obtain⟨t,k2,r2,_⟩:=(aR underlying9) b enc n _ s (hf 2 _ rfl) (λm hm=>a m (DataW.weights_mem_each (j:=2) rfl rfl m hm));obtain⟨c,_⟩:=al r2;obtain⟨a3,k3,r3,_⟩:=(aY (R:=Lt.Arg.enc) (es:=3) underlying69 kQ0 (of_decide_eq_true kQ0) (λ_=>rfl) (by decide) (mV W)) b enc n _ o (hf 3 _ rfl) (λm hm=>a m (DataW.weights_mem_each (j:=3) rfl rfl m hm));obtain⟨k,_⟩:=al r3;obtain⟨a4,k4,r4,_⟩:=(aY (R:=Lt.Frame.enc) (es:=4) underlying70 kQ0 (of_decide_eq_true kQ0) (λ_=>rfl) (by decide) (Iy W)) b enc n _ r (hf 4 _ rfl) (λm hm=>a m (DataW.weights_mem_each (j:=4) rfl rfl m hm));obtain⟨d,_⟩:=al r4;obtain⟨a5,k5,r5,_⟩:=(aY (R:=Lt.Virt.enc) (es:=2) underlying71 kQ0 (of_decide_eq_true kQ0) (λ_=>rfl) (by decide) (Mh W)) b enc n _ p (hf 5 _ rfl) (λm hm=>a m (DataW.weights_mem_each (j:=5) rfl rfl m hm));obtain⟨f,_⟩:=al r5;exact⟨⟨a0,u,t,a3,a4,a5⟩,⟨k0,k1,k2,k3,k4,k5⟩,⟨g,e,c,k,d,f,trivial⟩,by rw[hl];kernel_rfl⟩
theorem Mg(W:World):Reads prog W 59 Lt.Term.enc Lt.Term.okr:=by
 intro k enc fuel cs x h hw;obtain⟨xs,n,_,rfl,hl,b,hf⟩:=DataW.trod_struct underlying59 h
 .obtain⟨l,p,q,o,rfl⟩:=wu b;have a:∀n∈DataW.weightsEach prog [3,56,57,2] [l.1,p.1,q.1,o.1],n<=reachBytes:=by intro n hn;refine hw n ?_;simp only[DataW.weights,underlying59];exact hn
  obtain⟨a0,k0,r0,_⟩:=(iJ underlying3) k enc n _ l (hf 0 _ rfl) (λm hm=>a m (DataW.weights_mem_each (j:=0) rfl rfl m hm));obtain⟨f,_⟩:=al r0;obtain⟨s,k1,r1,_⟩:=(mV W) k enc n _ p (hf 1 _ rfl) (λm hm=>a m (DataW.weights_mem_each (j:=1) rfl rfl m hm));obtain⟨e,d,g,_⟩:=al r1;obtain⟨r,k2,r2,_⟩:=(aY (R:=rS.enc) (es:=1) underlying57 kQ0 (of_decide_eq_true kQ0) (λ_=>rfl) (by decide) (aR underlying9)) k enc n _ q (hf 2 _ rfl) (λm hm=>a m (DataW.weights_mem_each (j:=2) rfl rfl m hm));obtain⟨c,_⟩:=al r2;obtain⟨a3,k3,r3,_⟩:=(iJ underlying2) k enc n _ o (hf 3 _ rfl) (λm hm=>a m (DataW.weights_mem_each (j:=3) rfl rfl m hm));obtain⟨i,_⟩:=al r3;exact⟨⟨a0,s,r,a3⟩,⟨k0,k1,k2,k3⟩,⟨f,e,d,g,c,i,trivial⟩,by rw[hl];kernel_rfl⟩
theorem Iw(W:World):Reads prog W 61 Lt.Block.enc Lt.Block.okr:=by
 intro p enc fuel cs x h hw;obtain⟨xs,n,_,rfl,hl,l,hf⟩:=DataW.trod_struct underlying61 h
 .obtain⟨q,s,t,r,rfl⟩:=wu l;have a:∀n∈DataW.weightsEach prog [9,53,54,59] [q.1,s.1,t.1,r.1],n<=reachBytes:=by intro n hn;refine hw n ?_;simp only[DataW.weights,underlying61];exact hn
  obtain⟨a0,k0,r0,_⟩:=(aR underlying9) p enc n _ q (hf 0 _ rfl) (λm hm=>a m (DataW.weights_mem_each (j:=0) rfl rfl m hm));obtain⟨f,_⟩:=al r0;obtain⟨v,k1,r1,_⟩:=(aY (R:=Lt.Phi.enc) (es:=2) underlying53 kQ0 (of_decide_eq_true kQ0) (λ_=>rfl) (by decide) (RK W)) p enc n _ s (hf 1 _ rfl) (λm hm=>a m (DataW.weights_mem_each (j:=1) rfl rfl m hm));obtain⟨e,_⟩:=al r1;obtain⟨u,k2,r2,_⟩:=(aY (R:=Lt.Instr.enc) (es:=6) underlying54 kQ0 (of_decide_eq_true kQ0) (λ_=>rfl) (by decide) (Iz W)) p enc n _ t (hf 2 _ rfl) (λm hm=>a m (DataW.weights_mem_each (j:=2) rfl rfl m hm));obtain⟨b,_⟩:=al r2;obtain⟨a3,k3,r3,_⟩:=(Mg W) p enc n _ r (hf 3 _ rfl) (λm hm=>a m (DataW.weights_mem_each (j:=3) rfl rfl m hm));obtain⟨o,i,k,d,g,c,_⟩:=al r3;exact⟨⟨a0,v,u,a3⟩,⟨k0,k1,k2,k3⟩,⟨f,e,b,o,i,k,d,g,c,trivial⟩,by rw[hl];kernel_rfl⟩
theorem Mf(W:World):Reads prog W 45 Lt.Func.enc Lt.Func.okr:=by
 intro f enc fuel cs x h hw;obtain⟨xs,n,_,rfl,hl,g,hf⟩:=DataW.trod_struct underlying45 h
 .obtain⟨k,o,q,l,p,rfl⟩:=DK g;have a:∀n∈DataW.weightsEach prog [9,9,23,23,43] [k.1,o.1,q.1,l.1,p.1],n<=reachBytes:=by intro n hn;refine hw n ?_;simp only[DataW.weights,underlying45];exact hn
  obtain⟨a0,k0,r0,_⟩:=(aR underlying9) f enc n _ k (hf 0 _ rfl) (λm hm=>a m (DataW.weights_mem_each (j:=0) rfl rfl m hm));obtain⟨e,_⟩:=al r0;obtain⟨s,k1,r1,_⟩:=(aR underlying9) f enc n _ o (hf 1 _ rfl) (λm hm=>a m (DataW.weights_mem_each (j:=1) rfl rfl m hm));obtain⟨d,_⟩:=al r1;obtain⟨r,k2,r2,_⟩:=(aY (R:=Lt.Var.enc) (es:=2) underlying23 kQ0 (of_decide_eq_true kQ0) (λ_=>rfl) (by decide) (qP W)) f enc n _ q (hf 2 _ rfl) (λm hm=>a m (DataW.weights_mem_each (j:=2) rfl rfl m hm));obtain⟨b,_⟩:=al r2;obtain⟨a3,k3,r3,_⟩:=(aY (R:=Lt.Var.enc) (es:=2) underlying23 kQ0 (of_decide_eq_true kQ0) (λ_=>rfl) (by decide) (qP W)) f enc n _ l (hf 3 _ rfl) (λm hm=>a m (DataW.weights_mem_each (j:=3) rfl rfl m hm));obtain⟨i,_⟩:=al r3;obtain⟨a4,k4,r4,_⟩:=(aY (R:=Lt.Block.enc) (es:=9) underlying43 kQ0 (of_decide_eq_true kQ0) (λ_=>rfl) (by decide) (Iw W)) f enc n _ p (hf 4 _ rfl) (λm hm=>a m (DataW.weights_mem_each (j:=4) rfl rfl m hm));obtain⟨c,_⟩:=al r4;exact⟨⟨a0,s,r,a3,a4⟩,⟨k0,k1,k2,k3,k4⟩,⟨e,d,b,i,c,trivial⟩,by rw[hl];kernel_rfl⟩
theorem BQ(W:World):Reads prog W 27 Lt.Program.enc Lt.Program.okr:=by
 intro f enc fuel cs x h hw;obtain⟨xs,n,_,rfl,hl,g,hf⟩:=DataW.trod_struct underlying27 h
 .obtain⟨k,o,q,l,p,rfl⟩:=DK g;have a:∀n∈DataW.weightsEach prog [4,22,23,24,25] [k.1,o.1,q.1,l.1,p.1],n<=reachBytes:=by intro n hn;refine hw n ?_;simp only[DataW.weights,underlying27];exact hn
  obtain⟨a0,k0,r0,_⟩:=(Mi underlying4) f enc n _ k (hf 0 _ rfl) (λm hm=>a m (DataW.weights_mem_each (j:=0) rfl rfl m hm));obtain⟨e,_⟩:=al r0;obtain⟨s,k1,r1,_⟩:=(aY (R:=Lt.Class.enc) (es:=2) underlying22 kQ0 (of_decide_eq_true kQ0) (λ_=>rfl) (by decide) (Ix W)) f enc n _ o (hf 1 _ rfl) (λm hm=>a m (DataW.weights_mem_each (j:=1) rfl rfl m hm));obtain⟨d,_⟩:=al r1;obtain⟨r,k2,r2,_⟩:=(aY (R:=Lt.Var.enc) (es:=2) underlying23 kQ0 (of_decide_eq_true kQ0) (λ_=>rfl) (by decide) (qP W)) f enc n _ q (hf 2 _ rfl) (λm hm=>a m (DataW.weights_mem_each (j:=2) rfl rfl m hm));obtain⟨b,_⟩:=al r2;obtain⟨a3,k3,r3,_⟩:=(aY (R:=Lt.Extern.enc) (es:=2) underlying24 kQ0 (of_decide_eq_true kQ0) (λ_=>rfl) (by decide) (Ey W)) f enc n _ l (hf 3 _ rfl) (λm hm=>a m (DataW.weights_mem_each (j:=3) rfl rfl m hm));obtain⟨i,_⟩:=al r3;obtain⟨a4,k4,r4,_⟩:=(aY (R:=Lt.Func.enc) (es:=5) underlying25 kQ0 (of_decide_eq_true kQ0) (λ_=>rfl) (by decide) (Mf W)) f enc n _ p (hf 4 _ rfl) (λm hm=>a m (DataW.weights_mem_each (j:=4) rfl rfl m hm));obtain⟨c,_⟩:=al r4;exact⟨⟨a0,s,r,a3,a4⟩,⟨k0,k1,k2,k3,k4⟩,⟨e,d,b,i,c,trivial⟩,by rw[hl];kernel_rfl⟩
end Go.Am
end
