/-
  Part 3: AmRun.
-/
import Derived.Test.YthhkhcolidkemaaGreatDoorCt2
import Derived.Laws.Cells
set_option linter.unusedSimpArgs false
set_option linter.unusedVariables false
set_option linter.unusedSectionVars false
set_option linter.unnecessarySimpa false
section
namespace Go.Am
def uy:TypeDesc->Bool
 |.struct _=>true
 |.array _ _=>true
 |_=>false
variable{d:TypeDesc}{i:TypeInfo}{t:TypeId}{us:List Value}
section
variable {P:Program} {w:World}
theorem pi(h:P.underlying t=some d):(isAgg t).run P w=.ok (uy d) w:=by unfold isAgg;rw[Sem.run_bind,run_underlying h,Result.andThen_ok];cases d<;>rfl
theorem UK(h:P.info? t=some i):(typeInfo t).run P w=.ok i w:=by simp_all[typeInfo]
theorem cJ(h:P.info? t=some i):(sizeOf t).run P w=.ok (P.cellsOf t) w:=by simp_all[sizeOf,UK,Program.cellsOf]
theorem mN(h:P.underlying t=some d)(hd:uy d=true)(hi:P.info? t=some i)(us:List Value)(off:Nat) :
  (part t us.toArray off).run P w=.ok (.agg ((us.drop off).take (P.cellsOf t)).toArray) w:=by
 simp_all[part,pi,cJ]
theorem jG(h:P.underlying t=some d)(hd:uy d=false){off:Nat}{u:Value}(a:us[off]? = some u) :
  (part t us.toArray off).run P w=.ok u w:=by
 simp_all[part,pi]
def XD(w:World)(b o:Nat)(us:List Value):Prop:=∀(j:Nat)(v:Value),us[j]? = some v->w.cell? ⟨b,o+j,none⟩=some v
theorem eF(b o j:Nat):(⟨b,o,none⟩:Addr).add j=⟨b,o+j,none⟩:=by grind [Addr.add]
theorem nT(h:P.underlying t=some d)(hd:uy d=true)(hi:P.info? t=some i){b o:Nat}(hl:us.length=P.cellsOf t)
  (a:XD w b o us):(loadVar t ⟨b,o,none⟩).run P w=.ok (.agg us.toArray) w:=by
 unfold loadVar;rw[Sem.run_bind,pi h,Result.andThen_ok,hd,if_pos rfl,Sem.run_bind,cJ hi,Result.andThen_ok,<- hl,Sem.run_bind,
  run_loadCells_list w ⟨b,o,none⟩ us (λj v hv=>by rw[eF];exact a j v hv)]
 rfl
theorem nU(h:P.underlying t=some d)(hd:uy d=false){b o:Nat}{u:Value}(a:w.cell? ⟨b,o,none⟩=some u) :
  (loadVar t ⟨b,o,none⟩).run P w=.ok u w:=by
 grind [loadVar,Sem.run_bind,pi,Result.andThen_ok,run_load]
end
end Go.Am
end
