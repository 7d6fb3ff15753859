/-
  Part 3: AmRun.
-/
import Derived.Test.YtgpedlcblhiklaaGreatDoorVo2
import Derived.Laws.Cells
set_option linter.unusedSimpArgs false
set_option linter.unusedVariables false
set_option linter.unusedSectionVars false
set_option linter.unnecessarySimpa false
section
namespace Go.Am
def tU:TypeDesc->Bool
 |.struct _=>true
 |.array _ _=>true
 |_=>false
variable{d:TypeDesc}{i:TypeInfo}{t:TypeId}{us:List Value}
section
variable {P:Program} {w:World}
theorem oz(h:P.underlying t=some d):(isAgg t).run P w=.ok (tU d) w:=by
 unfold isAgg;rw[Sem.run_bind,run_underlying h,Result.andThen_ok];cases d<;>rfl
theorem Ub(h:P.info? t=some i):(typeInfo t).run P w=.ok i w:=by
 simp_all[typeInfo]
theorem cG(h:P.info? t=some i):(sizeOf t).run P w=.ok (P.cellsOf t) w:=by
 simp_all[sizeOf,Ub,Program.cellsOf]
theorem l8(h:P.underlying t=some d)(hd:tU d=true)(hi:P.info? t=some i)(us:List Value)(off:Nat) :
  (part t us.toArray off).run P w=.ok (.agg ((us.drop off).take (P.cellsOf t)).toArray) w:=by
 simp_all[part,oz,cG]
theorem jh(h:P.underlying t=some d)(hd:tU d=false){off:Nat}{u:Value}(a:us[off]? = some u) :
  (part t us.toArray off).run P w=.ok u w:=by
 simp_all[part,oz]
def WB(w:World)(b o:Nat)(us:List Value):Prop:=∀(j:Nat)(v:Value),us[j]? = some v->w.cell? ⟨b,o+j,none⟩=some v
theorem dA(b o j:Nat):(⟨b,o,none⟩:Addr).add j=⟨b,o+j,none⟩:=by
 grind [Addr.add]
theorem m6(h:P.underlying t=some d)(hd:tU d=true)(hi:P.info? t=some i){b o:Nat}(hl:us.length=P.cellsOf t)
  (a:WB w b o us):(loadVar t ⟨b,o,none⟩).run P w=.ok (.agg us.toArray) w:=by
 unfold loadVar;rw[Sem.run_bind,oz h,Result.andThen_ok,hd,if_pos rfl,Sem.run_bind,cG hi,Result.andThen_ok,<- hl,Sem.run_bind,
  run_loadCells_list w ⟨b,o,none⟩ us (fun j v hv=>by rw[dA];exact a j v hv)]
 rfl
theorem m7(h:P.underlying t=some d)(hd:tU d=false){b o:Nat}{u:Value}(a:w.cell? ⟨b,o,none⟩=some u) :
  (loadVar t ⟨b,o,none⟩).run P w=.ok u w:=by
 grind [loadVar,Sem.run_bind,oz,Result.andThen_ok,run_load]
end
end Go.Am
end
