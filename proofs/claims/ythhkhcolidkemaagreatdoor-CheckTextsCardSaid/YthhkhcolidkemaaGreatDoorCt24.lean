/-
  Part 24: AmWrap.
-/
import Derived.Test.YthhkhcolidkemaaGreatDoorCt23
import Derived.Handed
import Derived.HandedShaped
import Derived.Shelf.Vars
import Derived.Lay
import Derived.LaidMore
import Derived.MakeChecks
set_option linter.unusedSimpArgs false
set_option linter.unusedVariables false
set_option linter.unusedSectionVars false
set_option linter.unnecessarySimpa false
section
namespace Go.Am
open Go Go.RowKit
variable {H:Type} {enc:TypeId×Value->H}
theorem uF{a:Assume}{C:Checked}{os:Os}{f:FuncId}{fn:Func}{s:ChangeSpec}{X:World->Array Value->Prop}
  (x:∀(w w':World)(args:Array Value),w.heap=w'.heap->X w args->X w' args)
  (own:ownKnob C.prog.godebug=none) (d:os.Started) (k:C.prog.inits.idxOf? f=none) (p:C.prog.funcs[f]? = some fn)
  (h:∃(w:World)(tape:Tape)(i:Input),w.os=os/\(w.forCall tape i).Shaped C.prog/\i.vars=[]/\Input.okWide C.prog (w.forCall tape i) .any w.heap.size f i /\
   ((s.pre enc C.prog fn [] false (w.forCall tape i).memory i.args/\X (w.forCall tape i).memory i.args)/\sizedMet enc C.prog fn (OpenSpec.ofChange s) false (w.forCall tape i).memory i.args)/\a.holds C.prog (lone (Frame.enter C.prog f i.args .normal) [] (w.forCall tape i)))
  (c:∀(W:World)(m:Nat)(args:Array Value)(ds gs:List (DataW H))(b:List MemPlace),
   (∀(j:Nat)t v,fn.params[j]? = some t->args[j]? = some v->Value.okWide C.prog W .any m t v) ->
   DataW.Whole enc C.prog fn.params.toList s.vars false W args.toList ds gs b ->
   (DataW.weightsEach C.prog (fn.params.toList++s.plain.varTypes C.prog) (ds++gs)).all (·<=reachBytes)=true->X W args->W.ShapedOpen C.prog ->
   Calls C.prog f args W λe r=>∃v,e=.returned v/\s.post enc C.prog fn false true false false W args v r) :
  ReturnsInHanded a C os f .any (λw args=>(s.pre enc C.prog fn [] false w args/\X w args)/\sizedMet enc C.prog fn (OpenSpec.ofChange s) false w args) (s.post enc C.prog fn false true false false):=by
 refine returnsInHanded_of_calls own d k h (λw tape i _ o _ q l _=>?_);obtain⟨_,_,_,g,u,_,_,_,_,n⟩:=q;obtain rfl:g=fn:=Option.some.inj (u.symm.trans p);obtain⟨⟨⟨ds,gs,b,hw,_⟩,hx⟩,hz⟩:=l;refine(c _ _ i.args ds gs b n (DataW.Whole.of_heap (w':=w.forCall tape i) (by rfl) hw) (hz.weights hw) (x _ _ _ (by rfl) hx) o).mono ?_
 grind [ChangeSpec.post_blind]
theorem VE{P:Program}{w:World}{g:Nat}{t:TypeId}{zero:Array Value}{k:IntKind}(h:w.ShapedOpen P)(i:g<P.globals.size)
  (h0:((begin P (λ_ _=>0) default).world.heap[g]?).bind Obj.row? = some (zero,t)) (hz:zero.size=1)
  (hb:P.buildable t=true) (hc:P.cellTypes P.depth t=some [t]) (f:P.underlying t=some (.int k)):∃n m,BR (snap w) m [.int k n] g 0:=by
 obtain⟨cs,l,hs,hr⟩:=h.1 g zero t i h0;obtain⟨ts,c,_,d⟩:=hr hb;rw[hc]at c;cases c;have h1:0<cs.size:=by omega
 obtain⟨u,e,b⟩:=d 0 cs[0] (by simp[h1]);obtain rfl:u=t:=by grind
 have a:w.cell? ⟨g,0,none⟩=some cs[0]:=by grind [World.cell?]
 unfold Cell.ok at b;rw[f]at b;cases hv:cs[0]<;>rw[hv]at b<;>simp at b
 rename_i k' n;refine⟨n,0,λj hj=>?_⟩;obtain rfl:j=0:=by grind
 rw[hv,b.1]at a;exact⟨_,Q9 a,rfl,by grind [IntKind.has,Lit.wf]⟩
end Go.Am
end
