/-
  Part 3: AmRun.
-/
import Derived.Test.YteooihiebpbaiaaGreatDoorVk2
import Derived.Laws.Cells
set_option linter.unusedSimpArgs false
set_option linter.unusedVariables false
set_option linter.unusedSectionVars false
set_option linter.unnecessarySimpa false
section
namespace Go.Am
def pJ:TypeDesc->Bool
 |.struct _=>true
 |.array _ _=>true
 |_=>false
section
variable {P:Program} {w:World}
theorem lO{t:TypeId}{d:TypeDesc}(h:P.underlying t=some d):(isAgg t).run P w=.ok (pJ d) w:=by
 unfold isAgg;rw[Sem.run_bind,run_underlying h,Result.andThen_ok];cases d<;>rfl
theorem L4{t:TypeId}{i:TypeInfo}(h:P.info? t=some i):(typeInfo t).run P w=.ok i w:=by
 unfold typeInfo;rw[Sem.run_bind,run_program,Result.andThen_ok,h];rfl
theorem bM{t:TypeId}{i:TypeInfo}(h:P.info? t=some i):(sizeOf t).run P w=.ok (P.cellsOf t) w:=by
 unfold sizeOf;rw[Sem.run_bind,L4 h,Result.andThen_ok];simp[Program.cellsOf,h]
theorem j9{t:TypeId}{d:TypeDesc}{i:TypeInfo}(h:P.underlying t=some d)(hd:pJ d=true)(hi:P.info? t=some i)(us:List Value)(off:Nat) :
  (part t us.toArray off).run P w=.ok (.agg ((us.drop off).take (P.cellsOf t)).toArray) w:=by
 unfold part;rw[Sem.run_bind,lO h,Result.andThen_ok,hd,if_pos rfl,Sem.run_bind,bM hi,Result.andThen_ok];simp[List.extract_eq_take_drop]
theorem eB{t:TypeId}{d:TypeDesc}(h:P.underlying t=some d)(hd:pJ d=false){us:List Value}{off:Nat}{u:Value}(hu:us[off]? = some u) :
  (part t us.toArray off).run P w=.ok u w:=by
 unfold part;rw[Sem.run_bind,lO h,Result.andThen_ok,hd,if_neg (by simp)];simp[hu]
def N5(w:World)(b o:Nat)(us:List Value):Prop:=∀(j:Nat)(v:Value),us[j]? = some v->w.cell? ⟨b,o+j,none⟩=some v
theorem cH(b o j:Nat):(⟨b,o,none⟩:Addr).add j=⟨b,o+j,none⟩:=by
 unfold Addr.add;split
 ·rename_i h;subst h;rfl
 ·rfl
theorem kV{t:TypeId}{d:TypeDesc}{i:TypeInfo}(h:P.underlying t=some d)(hd:pJ d=true)(hi:P.info? t=some i){b o:Nat}{us:List Value}(hl:us.length=P.cellsOf t)
  (hu:N5 w b o us):(loadVar t ⟨b,o,none⟩).run P w=.ok (.agg us.toArray) w:=by
 unfold loadVar;rw[Sem.run_bind,lO h,Result.andThen_ok,hd,if_pos rfl,Sem.run_bind,bM hi,Result.andThen_ok,<- hl,Sem.run_bind,
  run_loadCells_list w ⟨b,o,none⟩ us (fun j v hv=>by rw[cH];exact hu j v hv)]
 rfl
theorem kW{t:TypeId}{d:TypeDesc}(h:P.underlying t=some d)(hd:pJ d=false){b o:Nat}{u:Value}(hu:w.cell? ⟨b,o,none⟩=some u) :
  (loadVar t ⟨b,o,none⟩).run P w=.ok u w:=by
 unfold loadVar;rw[Sem.run_bind,lO h,Result.andThen_ok,hd,if_neg (by simp),run_load,hu]
end
end Go.Am
end
