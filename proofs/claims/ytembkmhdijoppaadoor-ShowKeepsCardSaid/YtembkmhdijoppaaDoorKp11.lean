/-
  Part 11: AmG · AmN1 · AmN2 · AmN3 · AmN4 · AmN5.
-/
import Derived.Test.YtembkmhdijoppaaDoorKp10
set_option linter.unusedSimpArgs false
set_option linter.unusedVariables false
set_option linter.unusedSectionVars false
set_option linter.unnecessarySimpa false
section
namespace Go.Am
open Go
set_option linter.unusedVariables false
def F_ShowKeeps (a0_p : Lt.Program) (KK : Bool → Prop) : Prop :=
  joinP (α := Bool) (fun J3 => if (!Lt.awake) = true then (J3 true) else ((Lt.preFew a0_p 20000) ∧ J3 (!(Lt.Few a0_p 20000)))) (fun v4 => if v4 = true then (KK Lt.awake) else ((Lt.preRLines a0_p) ∧ (Lt.preText a0_p) ∧ (Lt.preRLines a0_p) ∧ KK (decide ((Lt.rLines a0_p) = (Lt.rLines a0_p)))))
def F_awake (KK : Bool → Prop) : Prop :=
  (Lt.preText (Lt.example6 (Lt.Term.mk 3 (Lt.Arg.mk 2 ([] : List UInt8) 5) [] 0))) ∧ (Lt.preText (Lt.example6 (Lt.Term.mk 0 (Lt.Arg.mk 0 ([] : List UInt8) 0) [] 0))) ∧ joinP (α := Bool) (fun J1 => if (decide ((Lt.showText (Lt.example6 (Lt.Term.mk 3 (Lt.Arg.mk 2 ([] : List UInt8) 5) [] 0))).2 = 0)) = true then (if (decide ((Lt.showText (Lt.example6 (Lt.Term.mk 3 (Lt.Arg.mk 2 ([] : List UInt8) 5) [] 0))).1 = [102, 117, 110, 99, 32, 102, 32, 105, 110, 116, 10, 98, 108, 111, 99, 107, 32, 98, 10, 114, 101, 116, 32, 53, 10])) = true then (J1 (decide ((Lt.showText (Lt.example6 (Lt.Term.mk 0 (Lt.Arg.mk 0 ([] : List UInt8) 0) [] 0))).2 = 1))) else (J1 false)) else (J1 false)) (fun v2 => KK v2)
def F_Few (a0_p : Lt.Program) (a1_most : Int) (KK : Bool → Prop) : Prop :=
  joinP (α := Bool) (fun J3 => (a0_p.Classes.length ≤ 4611686018427387904 → if (decide (50 < (a0_p.Classes.length : Int))) = true then (J3 true) else (if (decide (50 < (a0_p.Externs.length : Int))) = true then (J3 true) else (J3 (decide (50 < (a0_p.Funcs.length : Int))))))) (fun v4 => if v4 = true then (KK false) else (loopP (α := Int × Int) (fun R37 v38 => joinP (α := Bool) (fun J41 => (a0_p.Classes.length ≤ 4611686018427387904 → if (decide (v38.2 < (a0_p.Classes.length : Int))) = true then (J41 (decide (v38.1 ≤ a1_most))) else (J41 false))) (fun v42 => if v42 = true then (joinP (α := Int) (fun J43 => ((0 : Int) ≤ v38.2 ∧ v38.2.toNat < a0_p.Classes.length) ∧ (((a0_p.Classes.getD v38.2.toNat default).Name).length ≤ 4611686018427387904 → if (decide ((IntKind.i64.wrap (v38.1 + (((a0_p.Classes.getD v38.2.toNat default).Name).length : Int))) ≤ a1_most)) = true then (((0 : Int) ≤ v38.2 ∧ v38.2.toNat < a0_p.Classes.length) ∧ J43 (IntKind.i64.wrap ((IntKind.i64.wrap (v38.1 + (((a0_p.Classes.getD v38.2.toNat default).Name).length : Int))) + (Lt.countVars ((a0_p.Classes.getD v38.2.toNat default).Fields) a1_most)))) else (J43 (IntKind.i64.wrap (v38.1 + (((a0_p.Classes.getD v38.2.toNat default).Name).length : Int)))))) (fun v44 => R37 (v44, (IntKind.i64.wrap (v38.2 + 1))))) else (loopP (α := Int × Int) (fun R67 v68 => joinP (α := Bool) (fun J71 => (a0_p.Externs.length ≤ 4611686018427387904 → if (decide (v68.2 < (a0_p.Externs.length : Int))) = true then (J71 (decide (v68.1 ≤ a1_most))) else (J71 false))) (fun v72 => if v72 = true then (((0 : Int) ≤ v68.2 ∧ v68.2.toNat < a0_p.Externs.length) ∧ (((a0_p.Externs.getD v68.2.toNat default).Name).length ≤ 4611686018427387904 → R67 ((IntKind.i64.wrap ((IntKind.i64.wrap (v68.1 + 1)) + (((a0_p.Externs.getD v68.2.toNat default).Name).length : Int))), (IntKind.i64.wrap (v68.2 + 1))))) else (loopP (α := Int × Int) (fun R95 v96 => joinP (α := Bool) (fun J99 => (a0_p.Funcs.length ≤ 4611686018427387904 → if (decide (v96.2 < (a0_p.Funcs.length : Int))) = true then (J99 (decide (v96.1 ≤ a1_most))) else (J99 false))) (fun v100 => if v100 = true then (((0 : Int) ≤ v96.2 ∧ v96.2.toNat < a0_p.Funcs.length) ∧ (Lt.preFF (a0_p.Funcs.getD v96.2.toNat default) a1_most) ∧ R95 ((IntKind.i64.wrap (v96.1 + (Lt.FewFunc (a0_p.Funcs.getD v96.2.toNat default) a1_most))), (IntKind.i64.wrap (v96.2 + 1)))) else (KK (decide (v96.1 ≤ a1_most))))) (v68.1, 0)))) (v38.1, 0)))) ((Lt.countVars a0_p.Globals a1_most), 0)))
def F_showText (a0_p : Lt.Program) (KK : (List UInt8 × Int) → Prop) : Prop :=
  if (!(Lt.showRight a0_p)) = true then (KK (([] : List UInt8), 1)) else (joinP (α := Lt.Sheet) (fun J1 => if a0_p.SSA = true then ((Lt.preLine (Lt.Sheet.mk []) [[115, 115, 97]]) ∧ J1 ((Lt.sheetLine (Lt.Sheet.mk []) [[115, 115, 97]]).2)) else (J1 (Lt.Sheet.mk []))) (fun v2 => (a0_p.Classes.length ≤ 4611686018427387904 → loopP (α := Int × Lt.Sheet) (fun R5 v6 => if (decide (v6.1 < (a0_p.Classes.length : Int))) = true then (((0 : Int) ≤ v6.1 ∧ v6.1.toNat < a0_p.Classes.length) ∧ (Lt.preLine v6.2 [[99, 108, 97, 115, 115], (a0_p.Classes.getD v6.1.toNat default).Name]) ∧ (Lt.preVars ((Lt.sheetLine v6.2 [[99, 108, 97, 115, 115], (a0_p.Classes.getD v6.1.toNat default).Name]).2) [102, 105, 101, 108, 100] ((a0_p.Classes.getD v6.1.toNat default).Fields)) ∧ R5 ((IntKind.i64.wrap (v6.1 + 1)), ((Lt.sheetVars ((Lt.sheetLine v6.2 [[99, 108, 97, 115, 115], (a0_p.Classes.getD v6.1.toNat default).Name]).2) [102, 105, 101, 108, 100] ((a0_p.Classes.getD v6.1.toNat default).Fields)).2))) else ((Lt.preVars v6.2 [103, 108, 111, 98, 97, 108] a0_p.Globals) ∧ (a0_p.Externs.length ≤ 4611686018427387904 → loopP (α := Int × Lt.Sheet) (fun R19 v20 => if (decide (v20.1 < (a0_p.Externs.length : Int))) = true then (joinP (α := Lt.Sheet) (fun J21 => ((0 : Int) ≤ v20.1 ∧ v20.1.toNat < a0_p.Externs.length) ∧ ((Lt.preNum ((a0_p.Externs.getD v20.1.toNat default).N)) ∧ (Lt.preLine v20.2 [[101, 120, 116, 101, 114, 110], (a0_p.Externs.getD v20.1.toNat default).Name, (Lt.number ((a0_p.Externs.getD v20.1.toNat default).N))]) ∧ J21 ((Lt.sheetLine v20.2 [[101, 120, 116, 101, 114, 110], (a0_p.Externs.getD v20.1.toNat default).Name, (Lt.number ((a0_p.Externs.getD v20.1.toNat default).N))]).2)) ∧ ((Lt.preNum ((a0_p.Externs.getD v20.1.toNat default).N)) ∧ (Lt.preLine v20.2 [[101, 120, 116, 101, 114, 110], (a0_p.Externs.getD v20.1.toNat default).Name, (Lt.number ((a0_p.Externs.getD v20.1.toNat default).N))]) ∧ J21 ((Lt.sheetLine v20.2 [[101, 120, 116, 101, 114, 110], (a0_p.Externs.getD v20.1.toNat default).Name, (Lt.number ((a0_p.Externs.getD v20.1.toNat default).N))]).2))) (fun v22 => R19 ((IntKind.i64.wrap (v20.1 + 1)), v22))) else ((a0_p.Funcs.length ≤ 4611686018427387904 → loopP (α := Int × Lt.Sheet) (fun R25 v26 => if (decide (v26.1 < (a0_p.Funcs.length : Int))) = true then (((0 : Int) ≤ v26.1 ∧ v26.1.toNat < a0_p.Funcs.length) ∧ (Lt.preFunction v26.2 (a0_p.Funcs.getD v26.1.toNat default)) ∧ R25 ((IntKind.i64.wrap (v26.1 + 1)), ((Lt.sheetFunction v26.2 (a0_p.Funcs.getD v26.1.toNat default)).2))) else ((Lt.preJoin v26.2.l) ∧ ((Lt.Join v26.2.l).length ≤ 4611686018427387904 → if (decide (4194304 < ((Lt.Join v26.2.l).length : Int))) = true then (KK (([] : List UInt8), 2)) else (KK ((Lt.Join v26.2.l), 0))))) (0, v20.2)))) (0, ((Lt.sheetVars v6.2 [103, 108, 111, 98, 97, 108] a0_p.Globals).2))))) (0, v2))))
def F_showRight (a0_p : Lt.Program) (KK : Bool → Prop) : Prop :=
  joinP (α := Bool) (fun J3 => (a0_p.Classes.length ≤ 4611686018427387904 → if (decide (8 < (a0_p.Classes.length : Int))) = true then (J3 true) else (if (decide (8 < (a0_p.Externs.length : Int))) = true then (J3 true) else (if (decide (8 < (a0_p.Funcs.length : Int))) = true then (J3 true) else (J3 (!(Lt.typed a0_p.Globals 8))))))) (fun v4 => if v4 = true then (KK false) else ((a0_p.Classes.length ≤ 4611686018427387904 → loopP (α := Int) (fun R27 v28 => if (decide (v28 < (a0_p.Classes.length : Int))) = true then (((0 : Int) ≤ v28 ∧ v28.toNat < a0_p.Classes.length) ∧ joinP (α := Bool) (fun J31 => if (!(Lt.Name ((a0_p.Classes.getD v28.toNat default).Name))) = true then (J31 true) else (J31 (!(Lt.typed ((a0_p.Classes.getD v28.toNat default).Fields) 8)))) (fun v32 => if v32 = true then (KK false) else (R27 (IntKind.i64.wrap (v28 + 1))))) else ((a0_p.Externs.length ≤ 4611686018427387904 → loopP (α := Int) (fun R55 v56 => if (decide (v56 < (a0_p.Externs.length : Int))) = true then (((0 : Int) ≤ v56 ∧ v56.toNat < a0_p.Externs.length) ∧ joinP (α := Bool) (fun J59 => if (!(Lt.Name ((a0_p.Externs.getD v56.toNat default).Name))) = true then (J59 true) else (if (decide ((a0_p.Externs.getD v56.toNat default).N < 0)) = true then (J59 true) else (J59 (decide (8 < (a0_p.Externs.getD v56.toNat default).N))))) (fun v60 => if v60 = true then (KK false) else (R55 (IntKind.i64.wrap (v56 + 1))))) else ((a0_p.Funcs.length ≤ 4611686018427387904 → loopP (α := Int) (fun R63 v64 => if (decide (v64 < (a0_p.Funcs.length : Int))) = true then (((0 : Int) ≤ v64 ∧ v64.toNat < a0_p.Funcs.length) ∧ if (!(Lt.showFunction (a0_p.Funcs.getD v64.toNat default))) = true then (KK false) else (R63 (IntKind.i64.wrap (v64 + 1)))) else (KK true)) 0))) 0))) 0)))
def F_rLines (a0_p : Lt.Program) (KK : (List UInt8) → Prop) : Prop :=
  joinP (α := List UInt8) (fun J1 => if a0_p.SSA = true then ((Lt.preRPut [] [[115, 115, 97]]) ∧ J1 (Lt.rPut [] [[115, 115, 97]])) else (J1 [])) (fun v2 => loopP (α := List UInt8 × Int) (fun R15 v16 => (a0_p.Classes.length ≤ 4611686018427387904 → if (decide (v16.2 < (a0_p.Classes.length : Int))) = true then (joinP (α := List UInt8) (fun J17 => ((0 : Int) ≤ v16.2 ∧ v16.2.toNat < a0_p.Classes.length) ∧ (((Lt.preRPut v16.1 [[99, 108, 97, 115, 115], (a0_p.Classes.getD v16.2.toNat default).Name]) ∧ ((0 : Int) ≤ v16.2 ∧ v16.2.toNat < a0_p.Classes.length) ∧ (Lt.preRVars (Lt.rPut v16.1 [[99, 108, 97, 115, 115], (a0_p.Classes.getD v16.2.toNat default).Name]) [102, 105, 101, 108, 100] ((a0_p.Classes.getD v16.2.toNat default).Fields)) ∧ J17 (Lt.rVars (Lt.rPut v16.1 [[99, 108, 97, 115, 115], (a0_p.Classes.getD v16.2.toNat default).Name]) [102, 105, 101, 108, 100] ((a0_p.Classes.getD v16.2.toNat default).Fields))) ∧ (((0 : Int) ≤ v16.2 ∧ v16.2.toNat < a0_p.Classes.length) ∧ (Lt.preRPut v16.1 [[99, 108, 97, 115, 115], (a0_p.Classes.getD v16.2.toNat default).Name]) ∧ (Lt.preRVars (Lt.rPut v16.1 [[99, 108, 97, 115, 115], (a0_p.Classes.getD v16.2.toNat default).Name]) [102, 105, 101, 108, 100] ((a0_p.Classes.getD v16.2.toNat default).Fields)) ∧ J17 (Lt.rVars (Lt.rPut v16.1 [[99, 108, 97, 115, 115], (a0_p.Classes.getD v16.2.toNat default).Name]) [102, 105, 101, 108, 100] ((a0_p.Classes.getD v16.2.toNat default).Fields)))) ∧ (((0 : Int) ≤ v16.2 ∧ v16.2.toNat < a0_p.Classes.length) ∧ (Lt.preRPut v16.1 [[99, 108, 97, 115, 115], (a0_p.Classes.getD v16.2.toNat default).Name]) ∧ (Lt.preRVars (Lt.rPut v16.1 [[99, 108, 97, 115, 115], (a0_p.Classes.getD v16.2.toNat default).Name]) [102, 105, 101, 108, 100] ((a0_p.Classes.getD v16.2.toNat default).Fields)) ∧ J17 (Lt.rVars (Lt.rPut v16.1 [[99, 108, 97, 115, 115], (a0_p.Classes.getD v16.2.toNat default).Name]) [102, 105, 101, 108, 100] ((a0_p.Classes.getD v16.2.toNat default).Fields)))) (fun v18 => R15 (v18, (IntKind.i64.wrap (v16.2 + 1))))) else ((Lt.preRVars v16.1 [103, 108, 111, 98, 97, 108] a0_p.Globals) ∧ loopP (α := List UInt8 × Int) (fun R31 v32 => (a0_p.Externs.length ≤ 4611686018427387904 → if (decide (v32.2 < (a0_p.Externs.length : Int))) = true then (joinP (α := List UInt8) (fun J33 => ((0 : Int) ≤ v32.2 ∧ v32.2.toNat < a0_p.Externs.length) ∧ (((0 : Int) ≤ v32.2 ∧ v32.2.toNat < a0_p.Externs.length) ∧ (Lt.preNum ((a0_p.Externs.getD v32.2.toNat default).N)) ∧ (Lt.preRPut v32.1 [[101, 120, 116, 101, 114, 110], (a0_p.Externs.getD v32.2.toNat default).Name, (Lt.rNum ((a0_p.Externs.getD v32.2.toNat default).N))]) ∧ J33 (Lt.rPut v32.1 [[101, 120, 116, 101, 114, 110], (a0_p.Externs.getD v32.2.toNat default).Name, (Lt.rNum ((a0_p.Externs.getD v32.2.toNat default).N))])) ∧ ((Lt.preNum ((a0_p.Externs.getD v32.2.toNat default).N)) ∧ ((0 : Int) ≤ v32.2 ∧ v32.2.toNat < a0_p.Externs.length) ∧ (Lt.preRPut v32.1 [[101, 120, 116, 101, 114, 110], (a0_p.Externs.getD v32.2.toNat default).Name, (Lt.rNum ((a0_p.Externs.getD v32.2.toNat default).N))]) ∧ J33 (Lt.rPut v32.1 [[101, 120, 116, 101, 114, 110], (a0_p.Externs.getD v32.2.toNat default).Name, (Lt.rNum ((a0_p.Externs.getD v32.2.toNat default).N))]))) (fun v34 => R31 (v34, (IntKind.i64.wrap (v32.2 + 1))))) else (loopP (α := List UInt8 × Int) (fun R12077 v12078 => (a0_p.Funcs.length ≤ 4611686018427387904 → if (decide (v12078.2 < (a0_p.Funcs.length : Int))) = true then (((0 : Int) ≤ v12078.2 ∧ v12078.2.toNat < a0_p.Funcs.length) ∧ joinP (α := List UInt8) (fun J13283 => (((Lt.preRPut v12078.1 [[102, 117, 110, 99], (a0_p.Funcs.getD v12078.2.toNat default).Name, (a0_p.Funcs.getD v12078.2.toNat default).Result]) ∧ ((Lt.preRVars (Lt.rPut v12078.1 [[102, 117, 110, 99], (a0_p.Funcs.getD v12078.2.toNat default).Name, (a0_p.Funcs.getD v12078.2.toNat default).Result]) [112, 97, 114, 97, 109] ((a0_p.Funcs.getD v12078.2.toNat default).Params)) ∧ (Lt.preRVars (Lt.rVars (Lt.rPut v12078.1 [[102, 117, 110, 99], (a0_p.Funcs.getD v12078.2.toNat default).Name, (a0_p.Funcs.getD v12078.2.toNat default).Result]) [112, 97, 114, 97, 109] ((a0_p.Funcs.getD v12078.2.toNat default).Params)) [118, 97, 114] ((a0_p.Funcs.getD v12078.2.toNat default).Vars)) ∧ J13283 (Lt.rVars (Lt.rVars (Lt.rPut v12078.1 [[102, 117, 110, 99], (a0_p.Funcs.getD v12078.2.toNat default).Name, (a0_p.Funcs.getD v12078.2.toNat default).Result]) [112, 97, 114, 97, 109] ((a0_p.Funcs.getD v12078.2.toNat default).Params)) [118, 97, 114] ((a0_p.Funcs.getD v12078.2.toNat default).Vars))) ∧ ((Lt.preRVars (Lt.rPut v12078.1 [[102, 117, 110, 99], (a0_p.Funcs.getD v12078.2.toNat default).Name, (a0_p.Funcs.getD v12078.2.toNat default).Result]) [112, 97, 114, 97, 109] ((a0_p.Funcs.getD v12078.2.toNat default).Params)) ∧ (Lt.preRVars (Lt.rVars (Lt.rPut v12078.1 [[102, 117, 110, 99], (a0_p.Funcs.getD v12078.2.toNat default).Name, (a0_p.Funcs.getD v12078.2.toNat default).Result]) [112, 97, 114, 97, 109] ((a0_p.Funcs.getD v12078.2.toNat default).Params)) [118, 97, 114] ((a0_p.Funcs.getD v12078.2.toNat default).Vars)) ∧ J13283 (Lt.rVars (Lt.rVars (Lt.rPut v12078.1 [[102, 117, 110, 99], (a0_p.Funcs.getD v12078.2.toNat default).Name, (a0_p.Funcs.getD v12078.2.toNat default).Result]) [112, 97, 114, 97, 109] ((a0_p.Funcs.getD v12078.2.toNat default).Params)) [118, 97, 114] ((a0_p.Funcs.getD v12078.2.toNat default).Vars)))) ∧ (((Lt.preRPut v12078.1 [[102, 117, 110, 99], (a0_p.Funcs.getD v12078.2.toNat default).Name, (a0_p.Funcs.getD v12078.2.toNat default).Result]) ∧ ((Lt.preRVars (Lt.rPut v12078.1 [[102, 117, 110, 99], (a0_p.Funcs.getD v12078.2.toNat default).Name, (a0_p.Funcs.getD v12078.2.toNat default).Result]) [112, 97, 114, 97, 109] ((a0_p.Funcs.getD v12078.2.toNat default).Params)) ∧ (Lt.preRVars (Lt.rVars (Lt.rPut v12078.1 [[102, 117, 110, 99], (a0_p.Funcs.getD v12078.2.toNat default).Name, (a0_p.Funcs.getD v12078.2.toNat default).Result]) [112, 97, 114, 97, 109] ((a0_p.Funcs.getD v12078.2.toNat default).Params)) [118, 97, 114] ((a0_p.Funcs.getD v12078.2.toNat default).Vars)) ∧ J13283 (Lt.rVars (Lt.rVars (Lt.rPut v12078.1 [[102, 117, 110, 99], (a0_p.Funcs.getD v12078.2.toNat default).Name, (a0_p.Funcs.getD v12078.2.toNat default).Result]) [112, 97, 114, 97, 109] ((a0_p.Funcs.getD v12078.2.toNat default).Params)) [118, 97, 114] ((a0_p.Funcs.getD v12078.2.toNat default).Vars))) ∧ ((Lt.preRVars (Lt.rPut v12078.1 [[102, 117, 110, 99], (a0_p.Funcs.getD v12078.2.toNat default).Name, (a0_p.Funcs.getD v12078.2.toNat default).Result]) [112, 97, 114, 97, 109] ((a0_p.Funcs.getD v12078.2.toNat default).Params)) ∧ (Lt.preRVars (Lt.rVars (Lt.rPut v12078.1 [[102, 117, 110, 99], (a0_p.Funcs.getD v12078.2.toNat default).Name, (a0_p.Funcs.getD v12078.2.toNat default).Result]) [112, 97, 114, 97, 109] ((a0_p.Funcs.getD v12078.2.toNat default).Params)) [118, 97, 114] ((a0_p.Funcs.getD v12078.2.toNat default).Vars)) ∧ J13283 (Lt.rVars (Lt.rVars (Lt.rPut v12078.1 [[102, 117, 110, 99], (a0_p.Funcs.getD v12078.2.toNat default).Name, (a0_p.Funcs.getD v12078.2.toNat default).Result]) [112, 97, 114, 97, 109] ((a0_p.Funcs.getD v12078.2.toNat default).Params)) [118, 97, 114] ((a0_p.Funcs.getD v12078.2.toNat default).Vars)))) ∧ ((Lt.preRPut v12078.1 [[102, 117, 110, 99], (a0_p.Funcs.getD v12078.2.toNat default).Name, (a0_p.Funcs.getD v12078.2.toNat default).Result]) ∧ (Lt.preRVars (Lt.rPut v12078.1 [[102, 117, 110, 99], (a0_p.Funcs.getD v12078.2.toNat default).Name, (a0_p.Funcs.getD v12078.2.toNat default).Result]) [112, 97, 114, 97, 109] ((a0_p.Funcs.getD v12078.2.toNat default).Params)) ∧ (Lt.preRVars (Lt.rVars (Lt.rPut v12078.1 [[102, 117, 110, 99], (a0_p.Funcs.getD v12078.2.toNat default).Name, (a0_p.Funcs.getD v12078.2.toNat default).Result]) [112, 97, 114, 97, 109] ((a0_p.Funcs.getD v12078.2.toNat default).Params)) [118, 97, 114] ((a0_p.Funcs.getD v12078.2.toNat default).Vars)) ∧ J13283 (Lt.rVars (Lt.rVars (Lt.rPut v12078.1 [[102, 117, 110, 99], (a0_p.Funcs.getD v12078.2.toNat default).Name, (a0_p.Funcs.getD v12078.2.toNat default).Result]) [112, 97, 114, 97, 109] ((a0_p.Funcs.getD v12078.2.toNat default).Params)) [118, 97, 114] ((a0_p.Funcs.getD v12078.2.toNat default).Vars)))) ∧ (((Lt.preRPut v12078.1 [[102, 117, 110, 99], (a0_p.Funcs.getD v12078.2.toNat default).Name, (a0_p.Funcs.getD v12078.2.toNat default).Result]) ∧ (Lt.preRVars (Lt.rPut v12078.1 [[102, 117, 110, 99], (a0_p.Funcs.getD v12078.2.toNat default).Name, (a0_p.Funcs.getD v12078.2.toNat default).Result]) [112, 97, 114, 97, 109] ((a0_p.Funcs.getD v12078.2.toNat default).Params)) ∧ (Lt.preRVars (Lt.rVars (Lt.rPut v12078.1 [[102, 117, 110, 99], (a0_p.Funcs.getD v12078.2.toNat default).Name, (a0_p.Funcs.getD v12078.2.toNat default).Result]) [112, 97, 114, 97, 109] ((a0_p.Funcs.getD v12078.2.toNat default).Params)) [118, 97, 114] ((a0_p.Funcs.getD v12078.2.toNat default).Vars)) ∧ J13283 (Lt.rVars (Lt.rVars (Lt.rPut v12078.1 [[102, 117, 110, 99], (a0_p.Funcs.getD v12078.2.toNat default).Name, (a0_p.Funcs.getD v12078.2.toNat default).Result]) [112, 97, 114, 97, 109] ((a0_p.Funcs.getD v12078.2.toNat default).Params)) [118, 97, 114] ((a0_p.Funcs.getD v12078.2.toNat default).Vars))) ∧ ((Lt.preRPut v12078.1 [[102, 117, 110, 99], (a0_p.Funcs.getD v12078.2.toNat default).Name, (a0_p.Funcs.getD v12078.2.toNat default).Result]) ∧ (Lt.preRVars (Lt.rPut v12078.1 [[102, 117, 110, 99], (a0_p.Funcs.getD v12078.2.toNat default).Name, (a0_p.Funcs.getD v12078.2.toNat default).Result]) [112, 97, 114, 97, 109] ((a0_p.Funcs.getD v12078.2.toNat default).Params)) ∧ (Lt.preRVars (Lt.rVars (Lt.rPut v12078.1 [[102, 117, 110, 99], (a0_p.Funcs.getD v12078.2.toNat default).Name, (a0_p.Funcs.getD v12078.2.toNat default).Result]) [112, 97, 114, 97, 109] ((a0_p.Funcs.getD v12078.2.toNat default).Params)) [118, 97, 114] ((a0_p.Funcs.getD v12078.2.toNat default).Vars)) ∧ J13283 (Lt.rVars (Lt.rVars (Lt.rPut v12078.1 [[102, 117, 110, 99], (a0_p.Funcs.getD v12078.2.toNat default).Name, (a0_p.Funcs.getD v12078.2.toNat default).Result]) [112, 97, 114, 97, 109] ((a0_p.Funcs.getD v12078.2.toNat default).Params)) [118, 97, 114] ((a0_p.Funcs.getD v12078.2.toNat default).Vars))))) ∧ ((((Lt.preRPut v12078.1 [[102, 117, 110, 99], (a0_p.Funcs.getD v12078.2.toNat default).Name, (a0_p.Funcs.getD v12078.2.toNat default).Result]) ∧ ((Lt.preRVars (Lt.rPut v12078.1 [[102, 117, 110, 99], (a0_p.Funcs.getD v12078.2.toNat default).Name, (a0_p.Funcs.getD v12078.2.toNat default).Result]) [112, 97, 114, 97, 109] ((a0_p.Funcs.getD v12078.2.toNat default).Params)) ∧ (Lt.preRVars (Lt.rVars (Lt.rPut v12078.1 [[102, 117, 110, 99], (a0_p.Funcs.getD v12078.2.toNat default).Name, (a0_p.Funcs.getD v12078.2.toNat default).Result]) [112, 97, 114, 97, 109] ((a0_p.Funcs.getD v12078.2.toNat default).Params)) [118, 97, 114] ((a0_p.Funcs.getD v12078.2.toNat default).Vars)) ∧ J13283 (Lt.rVars (Lt.rVars (Lt.rPut v12078.1 [[102, 117, 110, 99], (a0_p.Funcs.getD v12078.2.toNat default).Name, (a0_p.Funcs.getD v12078.2.toNat default).Result]) [112, 97, 114, 97, 109] ((a0_p.Funcs.getD v12078.2.toNat default).Params)) [118, 97, 114] ((a0_p.Funcs.getD v12078.2.toNat default).Vars))) ∧ ((Lt.preRVars (Lt.rPut v12078.1 [[102, 117, 110, 99], (a0_p.Funcs.getD v12078.2.toNat default).Name, (a0_p.Funcs.getD v12078.2.toNat default).Result]) [112, 97, 114, 97, 109] ((a0_p.Funcs.getD v12078.2.toNat default).Params)) ∧ (Lt.preRVars (Lt.rVars (Lt.rPut v12078.1 [[102, 117, 110, 99], (a0_p.Funcs.getD v12078.2.toNat default).Name, (a0_p.Funcs.getD v12078.2.toNat default).Result]) [112, 97, 114, 97, 109] ((a0_p.Funcs.getD v12078.2.toNat default).Params)) [118, 97, 114] ((a0_p.Funcs.getD v12078.2.toNat default).Vars)) ∧ J13283 (Lt.rVars (Lt.rVars (Lt.rPut v12078.1 [[102, 117, 110, 99], (a0_p.Funcs.getD v12078.2.toNat default).Name, (a0_p.Funcs.getD v12078.2.toNat default).Result]) [112, 97, 114, 97, 109] ((a0_p.Funcs.getD v12078.2.toNat default).Params)) [118, 97, 114] ((a0_p.Funcs.getD v12078.2.toNat default).Vars)))) ∧ ((Lt.preRPut v12078.1 [[102, 117, 110, 99], (a0_p.Funcs.getD v12078.2.toNat default).Name, (a0_p.Funcs.getD v12078.2.toNat default).Result]) ∧ (Lt.preRVars (Lt.rPut v12078.1 [[102, 117, 110, 99], (a0_p.Funcs.getD v12078.2.toNat default).Name, (a0_p.Funcs.getD v12078.2.toNat default).Result]) [112, 97, 114, 97, 109] ((a0_p.Funcs.getD v12078.2.toNat default).Params)) ∧ (Lt.preRVars (Lt.rVars (Lt.rPut v12078.1 [[102, 117, 110, 99], (a0_p.Funcs.getD v12078.2.toNat default).Name, (a0_p.Funcs.getD v12078.2.toNat default).Result]) [112, 97, 114, 97, 109] ((a0_p.Funcs.getD v12078.2.toNat default).Params)) [118, 97, 114] ((a0_p.Funcs.getD v12078.2.toNat default).Vars)) ∧ J13283 (Lt.rVars (Lt.rVars (Lt.rPut v12078.1 [[102, 117, 110, 99], (a0_p.Funcs.getD v12078.2.toNat default).Name, (a0_p.Funcs.getD v12078.2.toNat default).Result]) [112, 97, 114, 97, 109] ((a0_p.Funcs.getD v12078.2.toNat default).Params)) [118, 97, 114] ((a0_p.Funcs.getD v12078.2.toNat default).Vars)))) ∧ ((Lt.preRPut v12078.1 [[102, 117, 110, 99], (a0_p.Funcs.getD v12078.2.toNat default).Name, (a0_p.Funcs.getD v12078.2.toNat default).Result]) ∧ (Lt.preRVars (Lt.rPut v12078.1 [[102, 117, 110, 99], (a0_p.Funcs.getD v12078.2.toNat default).Name, (a0_p.Funcs.getD v12078.2.toNat default).Result]) [112, 97, 114, 97, 109] ((a0_p.Funcs.getD v12078.2.toNat default).Params)) ∧ (Lt.preRVars (Lt.rVars (Lt.rPut v12078.1 [[102, 117, 110, 99], (a0_p.Funcs.getD v12078.2.toNat default).Name, (a0_p.Funcs.getD v12078.2.toNat default).Result]) [112, 97, 114, 97, 109] ((a0_p.Funcs.getD v12078.2.toNat default).Params)) [118, 97, 114] ((a0_p.Funcs.getD v12078.2.toNat default).Vars)) ∧ J13283 (Lt.rVars (Lt.rVars (Lt.rPut v12078.1 [[102, 117, 110, 99], (a0_p.Funcs.getD v12078.2.toNat default).Name, (a0_p.Funcs.getD v12078.2.toNat default).Result]) [112, 97, 114, 97, 109] ((a0_p.Funcs.getD v12078.2.toNat default).Params)) [118, 97, 114] ((a0_p.Funcs.getD v12078.2.toNat default).Vars)))) ∧ ((((Lt.preRPut v12078.1 [[102, 117, 110, 99], (a0_p.Funcs.getD v12078.2.toNat default).Name, (a0_p.Funcs.getD v12078.2.toNat default).Result]) ∧ (Lt.preRVars (Lt.rPut v12078.1 [[102, 117, 110, 99], (a0_p.Funcs.getD v12078.2.toNat default).Name, (a0_p.Funcs.getD v12078.2.toNat default).Result]) [112, 97, 114, 97, 109] ((a0_p.Funcs.getD v12078.2.toNat default).Params)) ∧ (Lt.preRVars (Lt.rVars (Lt.rPut v12078.1 [[102, 117, 110, 99], (a0_p.Funcs.getD v12078.2.toNat default).Name, (a0_p.Funcs.getD v12078.2.toNat default).Result]) [112, 97, 114, 97, 109] ((a0_p.Funcs.getD v12078.2.toNat default).Params)) [118, 97, 114] ((a0_p.Funcs.getD v12078.2.toNat default).Vars)) ∧ J13283 (Lt.rVars (Lt.rVars (Lt.rPut v12078.1 [[102, 117, 110, 99], (a0_p.Funcs.getD v12078.2.toNat default).Name, (a0_p.Funcs.getD v12078.2.toNat default).Result]) [112, 97, 114, 97, 109] ((a0_p.Funcs.getD v12078.2.toNat default).Params)) [118, 97, 114] ((a0_p.Funcs.getD v12078.2.toNat default).Vars))) ∧ ((Lt.preRPut v12078.1 [[102, 117, 110, 99], (a0_p.Funcs.getD v12078.2.toNat default).Name, (a0_p.Funcs.getD v12078.2.toNat default).Result]) ∧ (Lt.preRVars (Lt.rPut v12078.1 [[102, 117, 110, 99], (a0_p.Funcs.getD v12078.2.toNat default).Name, (a0_p.Funcs.getD v12078.2.toNat default).Result]) [112, 97, 114, 97, 109] ((a0_p.Funcs.getD v12078.2.toNat default).Params)) ∧ (Lt.preRVars (Lt.rVars (Lt.rPut v12078.1 [[102, 117, 110, 99], (a0_p.Funcs.getD v12078.2.toNat default).Name, (a0_p.Funcs.getD v12078.2.toNat default).Result]) [112, 97, 114, 97, 109] ((a0_p.Funcs.getD v12078.2.toNat default).Params)) [118, 97, 114] ((a0_p.Funcs.getD v12078.2.toNat default).Vars)) ∧ J13283 (Lt.rVars (Lt.rVars (Lt.rPut v12078.1 [[102, 117, 110, 99], (a0_p.Funcs.getD v12078.2.toNat default).Name, (a0_p.Funcs.getD v12078.2.toNat default).Result]) [112, 97, 114, 97, 109] ((a0_p.Funcs.getD v12078.2.toNat default).Params)) [118, 97, 114] ((a0_p.Funcs.getD v12078.2.toNat default).Vars)))) ∧ ((Lt.preRPut v12078.1 [[102, 117, 110, 99], (a0_p.Funcs.getD v12078.2.toNat default).Name, (a0_p.Funcs.getD v12078.2.toNat default).Result]) ∧ (Lt.preRVars (Lt.rPut v12078.1 [[102, 117, 110, 99], (a0_p.Funcs.getD v12078.2.toNat default).Name, (a0_p.Funcs.getD v12078.2.toNat default).Result]) [112, 97, 114, 97, 109] ((a0_p.Funcs.getD v12078.2.toNat default).Params)) ∧ (Lt.preRVars (Lt.rVars (Lt.rPut v12078.1 [[102, 117, 110, 99], (a0_p.Funcs.getD v12078.2.toNat default).Name, (a0_p.Funcs.getD v12078.2.toNat default).Result]) [112, 97, 114, 97, 109] ((a0_p.Funcs.getD v12078.2.toNat default).Params)) [118, 97, 114] ((a0_p.Funcs.getD v12078.2.toNat default).Vars)) ∧ J13283 (Lt.rVars (Lt.rVars (Lt.rPut v12078.1 [[102, 117, 110, 99], (a0_p.Funcs.getD v12078.2.toNat default).Name, (a0_p.Funcs.getD v12078.2.toNat default).Result]) [112, 97, 114, 97, 109] ((a0_p.Funcs.getD v12078.2.toNat default).Params)) [118, 97, 114] ((a0_p.Funcs.getD v12078.2.toNat default).Vars))))) (fun v13284 => loopP (α := List UInt8 × Int) (fun R14085 v14086 => (((a0_p.Funcs.getD v12078.2.toNat default).Blocks).length ≤ 4611686018427387904 → if (decide (v14086.2 < (((a0_p.Funcs.getD v12078.2.toNat default).Blocks).length : Int))) = true then (((0 : Int) ≤ v14086.2 ∧ v14086.2.toNat < ((a0_p.Funcs.getD v12078.2.toNat default).Blocks).length) ∧ (Lt.preRPut v14086.1 [[98, 108, 111, 99, 107], (((a0_p.Funcs.getD v12078.2.toNat default).Blocks).getD v14086.2.toNat default).Name]) ∧ loopP (α := List UInt8 × Int) (fun R14449 v14450 => (((((a0_p.Funcs.getD v12078.2.toNat default).Blocks).getD v14086.2.toNat default).Phis).length ≤ 4611686018427387904 → if (decide (v14450.2 < (((((a0_p.Funcs.getD v12078.2.toNat default).Blocks).getD v14086.2.toNat default).Phis).length : Int))) = true then (((0 : Int) ≤ v14450.2 ∧ v14450.2.toNat < ((((a0_p.Funcs.getD v12078.2.toNat default).Blocks).getD v14086.2.toNat default).Phis).length) ∧ loopP (α := List (List UInt8) × Int) (fun R14479 v14480 => ((0 : Int) ≤ v14450.2 ∧ v14450.2.toNat < ((((a0_p.Funcs.getD v12078.2.toNat default).Blocks).getD v14086.2.toNat default).Phis).length) ∧ (((((((a0_p.Funcs.getD v12078.2.toNat default).Blocks).getD v14086.2.toNat default).Phis).getD v14450.2.toNat default).Ins).length ≤ 4611686018427387904 → if (decide (v14480.2 < (((((((a0_p.Funcs.getD v12078.2.toNat default).Blocks).getD v14086.2.toNat default).Phis).getD v14450.2.toNat default).Ins).length : Int))) = true then (joinP (α := List (List UInt8)) (fun J14481 => ((0 : Int) ≤ v14450.2 ∧ v14450.2.toNat < ((((a0_p.Funcs.getD v12078.2.toNat default).Blocks).getD v14086.2.toNat default).Phis).length) ∧ ((0 : Int) ≤ v14480.2 ∧ v14480.2.toNat < ((((((a0_p.Funcs.getD v12078.2.toNat default).Blocks).getD v14086.2.toNat default).Phis).getD v14450.2.toNat default).Ins).length) ∧ (((0 : Int) ≤ v14450.2 ∧ v14450.2.toNat < ((((a0_p.Funcs.getD v12078.2.toNat default).Blocks).getD v14086.2.toNat default).Phis).length) ∧ ((0 : Int) ≤ v14480.2 ∧ v14480.2.toNat < ((((((a0_p.Funcs.getD v12078.2.toNat default).Blocks).getD v14086.2.toNat default).Phis).getD v14450.2.toNat default).Ins).length) ∧ (Lt.prePut ((((((((a0_p.Funcs.getD v12078.2.toNat default).Blocks).getD v14086.2.toNat default).Phis).getD v14450.2.toNat default).Ins).getD v14480.2.toNat default).A)) ∧ (v14480.1.length + ([(((((((a0_p.Funcs.getD v12078.2.toNat default).Blocks).getD v14086.2.toNat default).Phis).getD v14450.2.toNat default).Ins).getD v14480.2.toNat default).Block, (Lt.rWord ((((((((a0_p.Funcs.getD v12078.2.toNat default).Blocks).getD v14086.2.toNat default).Phis).getD v14450.2.toNat default).Ins).getD v14480.2.toNat default).A))] : List (List UInt8)).length ≤ 4611686018427387904 ∧ (v14480.1.length + ([(((((((a0_p.Funcs.getD v12078.2.toNat default).Blocks).getD v14086.2.toNat default).Phis).getD v14450.2.toNat default).Ins).getD v14480.2.toNat default).Block, (Lt.rWord ((((((((a0_p.Funcs.getD v12078.2.toNat default).Blocks).getD v14086.2.toNat default).Phis).getD v14450.2.toNat default).Ins).getD v14480.2.toNat default).A))] : List (List UInt8)).length) * 16 ≤ 140737488355328) ∧ J14481 (v14480.1 ++ ([(((((((a0_p.Funcs.getD v12078.2.toNat default).Blocks).getD v14086.2.toNat default).Phis).getD v14450.2.toNat default).Ins).getD v14480.2.toNat default).Block, (Lt.rWord ((((((((a0_p.Funcs.getD v12078.2.toNat default).Blocks).getD v14086.2.toNat default).Phis).getD v14450.2.toNat default).Ins).getD v14480.2.toNat default).A))] : List (List UInt8)))) ∧ ((Lt.prePut ((((((((a0_p.Funcs.getD v12078.2.toNat default).Blocks).getD v14086.2.toNat default).Phis).getD v14450.2.toNat default).Ins).getD v14480.2.toNat default).A)) ∧ ((0 : Int) ≤ v14450.2 ∧ v14450.2.toNat < ((((a0_p.Funcs.getD v12078.2.toNat default).Blocks).getD v14086.2.toNat default).Phis).length) ∧ ((0 : Int) ≤ v14480.2 ∧ v14480.2.toNat < ((((((a0_p.Funcs.getD v12078.2.toNat default).Blocks).getD v14086.2.toNat default).Phis).getD v14450.2.toNat default).Ins).length) ∧ (v14480.1.length + ([(((((((a0_p.Funcs.getD v12078.2.toNat default).Blocks).getD v14086.2.toNat default).Phis).getD v14450.2.toNat default).Ins).getD v14480.2.toNat default).Block, (Lt.rWord ((((((((a0_p.Funcs.getD v12078.2.toNat default).Blocks).getD v14086.2.toNat default).Phis).getD v14450.2.toNat default).Ins).getD v14480.2.toNat default).A))] : List (List UInt8)).length ≤ 4611686018427387904 ∧ (v14480.1.length + ([(((((((a0_p.Funcs.getD v12078.2.toNat default).Blocks).getD v14086.2.toNat default).Phis).getD v14450.2.toNat default).Ins).getD v14480.2.toNat default).Block, (Lt.rWord ((((((((a0_p.Funcs.getD v12078.2.toNat default).Blocks).getD v14086.2.toNat default).Phis).getD v14450.2.toNat default).Ins).getD v14480.2.toNat default).A))] : List (List UInt8)).length) * 16 ≤ 140737488355328) ∧ J14481 (v14480.1 ++ ([(((((((a0_p.Funcs.getD v12078.2.toNat default).Blocks).getD v14086.2.toNat default).Phis).getD v14450.2.toNat default).Ins).getD v14480.2.toNat default).Block, (Lt.rWord ((((((((a0_p.Funcs.getD v12078.2.toNat default).Blocks).getD v14086.2.toNat default).Phis).getD v14450.2.toNat default).Ins).getD v14480.2.toNat default).A))] : List (List UInt8))))) (fun v14482 => R14479 (v14482, (IntKind.i64.wrap (v14480.2 + 1))))) else ((Lt.preRPut v14450.1 v14480.1) ∧ R14449 ((Lt.rPut v14450.1 v14480.1), (IntKind.i64.wrap (v14450.2 + 1)))))) ([[112, 104, 105], (((((a0_p.Funcs.getD v12078.2.toNat default).Blocks).getD v14086.2.toNat default).Phis).getD v14450.2.toNat default).Dst], 0)) else (loopP (α := List UInt8 × Int) (fun R14485 v14486 => (((((a0_p.Funcs.getD v12078.2.toNat default).Blocks).getD v14086.2.toNat default).Code).length ≤ 4611686018427387904 → if (decide (v14486.2 < (((((a0_p.Funcs.getD v12078.2.toNat default).Blocks).getD v14086.2.toNat default).Code).length : Int))) = true then (((0 : Int) ≤ v14486.2 ∧ v14486.2.toNat < ((((a0_p.Funcs.getD v12078.2.toNat default).Blocks).getD v14086.2.toNat default).Code).length) ∧ (Lt.preRCode v14486.1 (((((a0_p.Funcs.getD v12078.2.toNat default).Blocks).getD v14086.2.toNat default).Code).getD v14486.2.toNat default)) ∧ R14485 ((Lt.rCode v14486.1 (((((a0_p.Funcs.getD v12078.2.toNat default).Blocks).getD v14086.2.toNat default).Code).getD v14486.2.toNat default)), (IntKind.i64.wrap (v14486.2 + 1)))) else ((Lt.preREnds v14486.1 (Lt.Term.mk (((((a0_p.Funcs.getD v12078.2.toNat default).Blocks).getD v14086.2.toNat default).End).Kind) (((((a0_p.Funcs.getD v12078.2.toNat default).Blocks).getD v14086.2.toNat default).End).A) (((((a0_p.Funcs.getD v12078.2.toNat default).Blocks).getD v14086.2.toNat default).End).To) (((((a0_p.Funcs.getD v12078.2.toNat default).Blocks).getD v14086.2.toNat default).End).N))) ∧ R14085 ((Lt.rEnds v14486.1 (Lt.Term.mk (((((a0_p.Funcs.getD v12078.2.toNat default).Blocks).getD v14086.2.toNat default).End).Kind) (((((a0_p.Funcs.getD v12078.2.toNat default).Blocks).getD v14086.2.toNat default).End).A) (((((a0_p.Funcs.getD v12078.2.toNat default).Blocks).getD v14086.2.toNat default).End).To) (((((a0_p.Funcs.getD v12078.2.toNat default).Blocks).getD v14086.2.toNat default).End).N))), (IntKind.i64.wrap (v14086.2 + 1)))))) (v14450.1, 0)))) ((Lt.rPut v14086.1 [[98, 108, 111, 99, 107], (((a0_p.Funcs.getD v12078.2.toNat default).Blocks).getD v14086.2.toNat default).Name]), 0)) else (R12077 (v14086.1, (IntKind.i64.wrap (v12078.2 + 1)))))) (v13284, 0))) else (KK v12078.1))) (v32.1, 0)))) ((Lt.rVars v16.1 [103, 108, 111, 98, 97, 108] a0_p.Globals), 0)))) (v2, 0))
def F_example6 (a0_end : Lt.Term) (KK : Lt.Program → Prop) : Prop :=
  KK (Lt.Program.mk false [] [] [] [(Lt.Func.mk [102] [105, 110, 116] [] [] [(Lt.Block.mk [98] [] [] a0_end)])])
def F_countVars (a0_l : List Lt.Var) (a1_most : Int) (KK : Int → Prop) : Prop :=
  (a0_l.length ≤ 4611686018427387904 → if (decide (a1_most < (a0_l.length : Int))) = true then (KK (IntKind.i64.wrap (a1_most + 1))) else ((a0_l.length ≤ 4611686018427387904 → loopP (α := Int × Int) (fun R33 v34 => joinP (α := Bool) (fun J37 => (a0_l.length ≤ 4611686018427387904 → if (decide (v34.2 < (a0_l.length : Int))) = true then (J37 (decide (v34.1 ≤ a1_most))) else (J37 false))) (fun v38 => if v38 = true then (joinP (α := Int) (fun J39 => ((0 : Int) ≤ v34.2 ∧ v34.2.toNat < a0_l.length) ∧ (((a0_l.getD v34.2.toNat default).Name).length ≤ 4611686018427387904 → if (decide ((IntKind.i64.wrap (v34.1 + (((a0_l.getD v34.2.toNat default).Name).length : Int))) ≤ a1_most)) = true then (((0 : Int) ≤ v34.2 ∧ v34.2.toNat < a0_l.length) ∧ (((a0_l.getD v34.2.toNat default).Type_).length ≤ 4611686018427387904 → J39 (IntKind.i64.wrap ((IntKind.i64.wrap (v34.1 + (((a0_l.getD v34.2.toNat default).Name).length : Int))) + (((a0_l.getD v34.2.toNat default).Type_).length : Int))))) else (J39 (IntKind.i64.wrap (v34.1 + (((a0_l.getD v34.2.toNat default).Name).length : Int)))))) (fun v40 => R33 (v40, (IntKind.i64.wrap (v34.2 + 1))))) else (KK v34.1))) ((a0_l.length : Int), 0))))
def F_FewFunc (a0_f : Lt.Func) (a1_most : Int) (KK : Int → Prop) : Prop :=
  (a0_f.Blocks.length ≤ 4611686018427387904 → if (decide (a1_most < (a0_f.Blocks.length : Int))) = true then (KK (IntKind.i64.wrap (a1_most + 1))) else ((a0_f.Name.length ≤ 4611686018427387904 → joinP (α := Int) (fun J1 => if (decide ((IntKind.i64.wrap (1 + (a0_f.Name.length : Int))) ≤ a1_most)) = true then ((a0_f.Result.length ≤ 4611686018427387904 → J1 (IntKind.i64.wrap ((IntKind.i64.wrap (1 + (a0_f.Name.length : Int))) + (a0_f.Result.length : Int))))) else (J1 (IntKind.i64.wrap (1 + (a0_f.Name.length : Int))))) (fun v2 => joinP (α := Int) (fun J3 => if (decide (v2 ≤ a1_most)) = true then (J3 (IntKind.i64.wrap (v2 + (Lt.countVars a0_f.Params a1_most)))) else (J3 v2)) (fun v4 => joinP (α := Int) (fun J5 => if (decide (v4 ≤ a1_most)) = true then (J5 (IntKind.i64.wrap (v4 + (Lt.countVars a0_f.Vars a1_most)))) else (J5 v4)) (fun v6 => loopP (α := Int × Int) (fun R29 v30 => joinP (α := Bool) (fun J33 => (a0_f.Blocks.length ≤ 4611686018427387904 → if (decide (v30.2 < (a0_f.Blocks.length : Int))) = true then (J33 (decide (v30.1 ≤ a1_most))) else (J33 false))) (fun v34 => if v34 = true then (((0 : Int) ≤ v30.2 ∧ v30.2.toNat < a0_f.Blocks.length) ∧ (Lt.preCB (Lt.Block.mk ((a0_f.Blocks.getD v30.2.toNat default).Name) ((a0_f.Blocks.getD v30.2.toNat default).Phis) ((a0_f.Blocks.getD v30.2.toNat default).Code) (Lt.Term.mk (((a0_f.Blocks.getD v30.2.toNat default).End).Kind) (((a0_f.Blocks.getD v30.2.toNat default).End).A) (((a0_f.Blocks.getD v30.2.toNat default).End).To) (((a0_f.Blocks.getD v30.2.toNat default).End).N))) a1_most) ∧ R29 ((IntKind.i64.wrap (v30.1 + (Lt.countBlock (Lt.Block.mk ((a0_f.Blocks.getD v30.2.toNat default).Name) ((a0_f.Blocks.getD v30.2.toNat default).Phis) ((a0_f.Blocks.getD v30.2.toNat default).Code) (Lt.Term.mk (((a0_f.Blocks.getD v30.2.toNat default).End).Kind) (((a0_f.Blocks.getD v30.2.toNat default).End).A) (((a0_f.Blocks.getD v30.2.toNat default).End).To) (((a0_f.Blocks.getD v30.2.toNat default).End).N))) a1_most))), (IntKind.i64.wrap (v30.2 + 1)))) else (KK v30.1))) (v6, 0)))))))
def F_sheetLine (a0_s : Lt.Sheet) (a1_words : List (List UInt8)) (KK : ((Unit) × Lt.Sheet) → Prop) : Prop :=
  (a0_s.l.length + ([(Lt.Line.mk 0 a1_words)] : List Lt.Line).length ≤ 4611686018427387904 ∧ (a0_s.l.length + ([(Lt.Line.mk 0 a1_words)] : List Lt.Line).length) * 32 ≤ 140737488355328) ∧ KK ((), (Lt.Sheet.mk (a0_s.l ++ ([(Lt.Line.mk 0 a1_words)] : List Lt.Line))))
def F_sheetVars (a0_s : Lt.Sheet) (a1_first : List UInt8) (a2_l : List Lt.Var) (KK : ((Unit) × Lt.Sheet) → Prop) : Prop :=
  (a2_l.length ≤ 4611686018427387904 → loopP (α := Int × Lt.Sheet) (fun R1 v2 => if (decide (v2.1 < (a2_l.length : Int))) = true then (((0 : Int) ≤ v2.1 ∧ v2.1.toNat < a2_l.length) ∧ (Lt.preLine v2.2 [a1_first, (a2_l.getD v2.1.toNat default).Name, (a2_l.getD v2.1.toNat default).Type_]) ∧ R1 ((IntKind.i64.wrap (v2.1 + 1)), ((Lt.sheetLine v2.2 [a1_first, (a2_l.getD v2.1.toNat default).Name, (a2_l.getD v2.1.toNat default).Type_]).2))) else (KK ((), v2.2))) (0, a0_s))
def F_number (a0_n : Int) (KK : (List UInt8) → Prop) : Prop :=
  (Lt.preNum a0_n) ∧ KK (Lt.numPut a0_n)
def F_sheetFunction (a0_s : Lt.Sheet) (a1_f : Lt.Func) (KK : ((Unit) × Lt.Sheet) → Prop) : Prop :=
  (Lt.preLine a0_s [[102, 117, 110, 99], a1_f.Name, a1_f.Result]) ∧ (Lt.preVars ((Lt.sheetLine a0_s [[102, 117, 110, 99], a1_f.Name, a1_f.Result]).2) [112, 97, 114, 97, 109] a1_f.Params) ∧ (Lt.preVars ((Lt.sheetVars ((Lt.sheetLine a0_s [[102, 117, 110, 99], a1_f.Name, a1_f.Result]).2) [112, 97, 114, 97, 109] a1_f.Params).2) [118, 97, 114] a1_f.Vars) ∧ (a1_f.Blocks.length ≤ 4611686018427387904 → loopP (α := Int × Lt.Sheet) (fun R801 v802 => if (decide (v802.1 < (a1_f.Blocks.length : Int))) = true then (((0 : Int) ≤ v802.1 ∧ v802.1.toNat < a1_f.Blocks.length) ∧ (Lt.preLine v802.2 [[98, 108, 111, 99, 107], (a1_f.Blocks.getD v802.1.toNat default).Name]) ∧ (((a1_f.Blocks.getD v802.1.toNat default).Phis).length ≤ 4611686018427387904 → loopP (α := Int × Lt.Sheet) (fun R1165 v1166 => if (decide (v1166.1 < (((a1_f.Blocks.getD v802.1.toNat default).Phis).length : Int))) = true then (((0 : Int) ≤ v1166.1 ∧ v1166.1.toNat < ((a1_f.Blocks.getD v802.1.toNat default).Phis).length) ∧ (((((a1_f.Blocks.getD v802.1.toNat default).Phis).getD v1166.1.toNat default).Ins).length ≤ 4611686018427387904 → loopP (α := List (List UInt8) × Int) (fun R1195 v1196 => if (decide (v1196.2 < (((((a1_f.Blocks.getD v802.1.toNat default).Phis).getD v1166.1.toNat default).Ins).length : Int))) = true then (joinP (α := List (List UInt8)) (fun J1197 => ((0 : Int) ≤ v1196.2 ∧ v1196.2.toNat < ((((a1_f.Blocks.getD v802.1.toNat default).Phis).getD v1166.1.toNat default).Ins).length) ∧ ((Lt.prePut ((((((a1_f.Blocks.getD v802.1.toNat default).Phis).getD v1166.1.toNat default).Ins).getD v1196.2.toNat default).A)) ∧ (v1196.1.length + ([(((((a1_f.Blocks.getD v802.1.toNat default).Phis).getD v1166.1.toNat default).Ins).getD v1196.2.toNat default).Block, (Lt.wordPut ((((((a1_f.Blocks.getD v802.1.toNat default).Phis).getD v1166.1.toNat default).Ins).getD v1196.2.toNat default).A))] : List (List UInt8)).length ≤ 4611686018427387904 ∧ (v1196.1.length + ([(((((a1_f.Blocks.getD v802.1.toNat default).Phis).getD v1166.1.toNat default).Ins).getD v1196.2.toNat default).Block, (Lt.wordPut ((((((a1_f.Blocks.getD v802.1.toNat default).Phis).getD v1166.1.toNat default).Ins).getD v1196.2.toNat default).A))] : List (List UInt8)).length) * 16 ≤ 140737488355328) ∧ J1197 (v1196.1 ++ ([(((((a1_f.Blocks.getD v802.1.toNat default).Phis).getD v1166.1.toNat default).Ins).getD v1196.2.toNat default).Block, (Lt.wordPut ((((((a1_f.Blocks.getD v802.1.toNat default).Phis).getD v1166.1.toNat default).Ins).getD v1196.2.toNat default).A))] : List (List UInt8)))) ∧ ((Lt.prePut ((((((a1_f.Blocks.getD v802.1.toNat default).Phis).getD v1166.1.toNat default).Ins).getD v1196.2.toNat default).A)) ∧ (v1196.1.length + ([(((((a1_f.Blocks.getD v802.1.toNat default).Phis).getD v1166.1.toNat default).Ins).getD v1196.2.toNat default).Block, (Lt.wordPut ((((((a1_f.Blocks.getD v802.1.toNat default).Phis).getD v1166.1.toNat default).Ins).getD v1196.2.toNat default).A))] : List (List UInt8)).length ≤ 4611686018427387904 ∧ (v1196.1.length + ([(((((a1_f.Blocks.getD v802.1.toNat default).Phis).getD v1166.1.toNat default).Ins).getD v1196.2.toNat default).Block, (Lt.wordPut ((((((a1_f.Blocks.getD v802.1.toNat default).Phis).getD v1166.1.toNat default).Ins).getD v1196.2.toNat default).A))] : List (List UInt8)).length) * 16 ≤ 140737488355328) ∧ J1197 (v1196.1 ++ ([(((((a1_f.Blocks.getD v802.1.toNat default).Phis).getD v1166.1.toNat default).Ins).getD v1196.2.toNat default).Block, (Lt.wordPut ((((((a1_f.Blocks.getD v802.1.toNat default).Phis).getD v1166.1.toNat default).Ins).getD v1196.2.toNat default).A))] : List (List UInt8))))) (fun v1198 => R1195 (v1198, (IntKind.i64.wrap (v1196.2 + 1))))) else ((Lt.preLine v1166.2 v1196.1) ∧ R1165 ((IntKind.i64.wrap (v1166.1 + 1)), ((Lt.sheetLine v1166.2 v1196.1).2)))) ([[112, 104, 105], (((a1_f.Blocks.getD v802.1.toNat default).Phis).getD v1166.1.toNat default).Dst], 0))) else ((((a1_f.Blocks.getD v802.1.toNat default).Code).length ≤ 4611686018427387904 → loopP (α := Int × Lt.Sheet) (fun R1201 v1202 => if (decide (v1202.1 < (((a1_f.Blocks.getD v802.1.toNat default).Code).length : Int))) = true then (((0 : Int) ≤ v1202.1 ∧ v1202.1.toNat < ((a1_f.Blocks.getD v802.1.toNat default).Code).length) ∧ (Lt.preCode v1202.2 (((a1_f.Blocks.getD v802.1.toNat default).Code).getD v1202.1.toNat default)) ∧ R1201 ((IntKind.i64.wrap (v1202.1 + 1)), ((Lt.sheetCode v1202.2 (((a1_f.Blocks.getD v802.1.toNat default).Code).getD v1202.1.toNat default)).2))) else ((Lt.preEnd v1202.2 (Lt.Term.mk (((a1_f.Blocks.getD v802.1.toNat default).End).Kind) (((a1_f.Blocks.getD v802.1.toNat default).End).A) (((a1_f.Blocks.getD v802.1.toNat default).End).To) (((a1_f.Blocks.getD v802.1.toNat default).End).N))) ∧ R801 ((IntKind.i64.wrap (v802.1 + 1)), ((Lt.sheetEnd v1202.2 (Lt.Term.mk (((a1_f.Blocks.getD v802.1.toNat default).End).Kind) (((a1_f.Blocks.getD v802.1.toNat default).End).A) (((a1_f.Blocks.getD v802.1.toNat default).End).To) (((a1_f.Blocks.getD v802.1.toNat default).End).N))).2)))) (0, v1166.2)))) (0, ((Lt.sheetLine v802.2 [[98, 108, 111, 99, 107], (a1_f.Blocks.getD v802.1.toNat default).Name]).2)))) else (KK ((), v802.2))) (0, ((Lt.sheetVars ((Lt.sheetVars ((Lt.sheetLine a0_s [[102, 117, 110, 99], a1_f.Name, a1_f.Result]).2) [112, 97, 114, 97, 109] a1_f.Params).2) [118, 97, 114] a1_f.Vars).2)))
def F_typed (a0_l : List Lt.Var) (a1_most : Int) (KK : Bool → Prop) : Prop :=
  (a0_l.length ≤ 4611686018427387904 → if (decide (a1_most < (a0_l.length : Int))) = true then (KK false) else ((a0_l.length ≤ 4611686018427387904 → loopP (α := Int) (fun R23 v24 => if (decide (v24 < (a0_l.length : Int))) = true then (((0 : Int) ≤ v24 ∧ v24.toNat < a0_l.length) ∧ joinP (α := Bool) (fun J27 => if (!(Lt.Name ((a0_l.getD v24.toNat default).Name))) = true then (J27 true) else (J27 (!(Lt.kind ((a0_l.getD v24.toNat default).Type_))))) (fun v28 => if v28 = true then (KK false) else (R23 (IntKind.i64.wrap (v24 + 1))))) else (KK true)) 0)))
def F_Name (a0_s : List UInt8) (KK : Bool → Prop) : Prop :=
  joinP (α := Bool) (fun J3 => if (decide (a0_s = ([] : List UInt8))) = true then (J3 true) else (if (decide (16 < (a0_s.length : Int))) = true then (J3 true) else (((0 : Int) ≤ 0 ∧ 0 < a0_s.length) ∧ if (!(Lt.letter (a0_s.getD 0 0))) = true then (J3 true) else (J3 (Lt.kept a0_s))))) (fun v4 => if v4 = true then (KK false) else ((a0_s.length ≤ 4611686018427387904 → loopP (α := Int) (fun R27 v28 => if (decide (v28 < (a0_s.length : Int))) = true then (joinP (α := Bool) (fun J31 => ((0 : Int) ≤ v28 ∧ v28.toNat < a0_s.length) ∧ if (!(Lt.letter (a0_s.getD v28.toNat 0))) = true then (((0 : Int) ≤ v28 ∧ v28.toNat < a0_s.length) ∧ J31 (!(Lt.wordDigit (a0_s.getD v28.toNat 0)))) else (J31 false)) (fun v32 => if v32 = true then (KK false) else (R27 (IntKind.i64.wrap (v28 + 1))))) else (KK true)) 0)))
def F_showFunction (a0_f : Lt.Func) (KK : Bool → Prop) : Prop :=
  joinP (α := Bool) (fun J3 => if (!(Lt.Name a0_f.Name)) = true then (J3 true) else (if (!(Lt.kind a0_f.Result)) = true then (J3 true) else (if (!(Lt.typed a0_f.Params 6)) = true then (J3 true) else (if (!(Lt.typed a0_f.Vars 1024)) = true then (J3 true) else (if (decide ((a0_f.Blocks.length : Int) = 0)) = true then (J3 true) else (J3 (decide (256 < (a0_f.Blocks.length : Int))))))))) (fun v4 => if v4 = true then (KK false) else ((a0_f.Blocks.length ≤ 4611686018427387904 → loopP (α := Int × Int) (fun R67 v68 => if (decide (v68.2 < (a0_f.Blocks.length : Int))) = true then (((0 : Int) ≤ v68.2 ∧ v68.2.toNat < a0_f.Blocks.length) ∧ joinP (α := Bool) (fun J77 => (((a0_f.Blocks.getD v68.2.toNat default).Phis).length ≤ 4611686018427387904 → if (decide (1024 < (((a0_f.Blocks.getD v68.2.toNat default).Phis).length : Int))) = true then (J77 true) else (J77 (decide (1024 < (((a0_f.Blocks.getD v68.2.toNat default).Code).length : Int)))))) (fun v78 => if v78 = true then (KK false) else ((((a0_f.Blocks.getD v68.2.toNat default).Phis).length ≤ 4611686018427387904 → (((a0_f.Blocks.getD v68.2.toNat default).Code).length ≤ 4611686018427387904 → joinP (α := Bool) (fun J79 => if (decide (1024 < (IntKind.i64.wrap (v68.1 + (IntKind.i64.wrap ((((a0_f.Blocks.getD v68.2.toNat default).Phis).length : Int) + (((a0_f.Blocks.getD v68.2.toNat default).Code).length : Int))))))) = true then (J79 true) else (J79 (!(Lt.block (Lt.Block.mk ((a0_f.Blocks.getD v68.2.toNat default).Name) ((a0_f.Blocks.getD v68.2.toNat default).Phis) ((a0_f.Blocks.getD v68.2.toNat default).Code) (Lt.Term.mk (((a0_f.Blocks.getD v68.2.toNat default).End).Kind) (((a0_f.Blocks.getD v68.2.toNat default).End).A) (((a0_f.Blocks.getD v68.2.toNat default).End).To) (((a0_f.Blocks.getD v68.2.toNat default).End).N))))))) (fun v80 => if v80 = true then (KK false) else (R67 ((IntKind.i64.wrap (v68.1 + (IntKind.i64.wrap ((((a0_f.Blocks.getD v68.2.toNat default).Phis).length : Int) + (((a0_f.Blocks.getD v68.2.toNat default).Code).length : Int))))), (IntKind.i64.wrap (v68.2 + 1)))))))))) else (KK true)) (0, 0))))
def F_rPut (a0_out : List UInt8) (a1_l : List (List UInt8)) (KK : (List UInt8) → Prop) : Prop :=
  loopP (α := List UInt8 × Int) (fun R23 v24 => (a1_l.length ≤ 4611686018427387904 → if (decide (v24.2 < (a1_l.length : Int))) = true then (joinP (α := List UInt8) (fun J27 => if (decide (0 < v24.2)) = true then ((v24.1.length + ([(32 : UInt8)] : List UInt8).length ≤ 4611686018427387904 ∧ (v24.1.length + ([(32 : UInt8)] : List UInt8).length) * 1 ≤ 140737488355328) ∧ J27 (v24.1 ++ ([(32 : UInt8)] : List UInt8))) else (J27 v24.1)) (fun v28 => ((0 : Int) ≤ v24.2 ∧ v24.2.toNat < a1_l.length) ∧ (v28.length + (a1_l.getD v24.2.toNat default).length ≤ 4611686018427387904 ∧ (v28.length + (a1_l.getD v24.2.toNat default).length) * 1 ≤ 140737488355328) ∧ R23 ((v28 ++ (a1_l.getD v24.2.toNat default)), (IntKind.i64.wrap (v24.2 + 1))))) else ((v24.1.length + ([(10 : UInt8)] : List UInt8).length ≤ 4611686018427387904 ∧ (v24.1.length + ([(10 : UInt8)] : List UInt8).length) * 1 ≤ 140737488355328) ∧ KK (v24.1 ++ ([(10 : UInt8)] : List UInt8))))) (a0_out, 0)
def F_rVars (a0_out : List UInt8) (a1_first : List UInt8) (a2_l : List Lt.Var) (KK : (List UInt8) → Prop) : Prop :=
  loopP (α := List UInt8 × Int) (fun R3 v4 => (a2_l.length ≤ 4611686018427387904 → if (decide (v4.2 < (a2_l.length : Int))) = true then (((0 : Int) ≤ v4.2 ∧ v4.2.toNat < a2_l.length) ∧ ((0 : Int) ≤ v4.2 ∧ v4.2.toNat < a2_l.length) ∧ (Lt.preRPut v4.1 [a1_first, (a2_l.getD v4.2.toNat default).Name, (a2_l.getD v4.2.toNat default).Type_]) ∧ R3 ((Lt.rPut v4.1 [a1_first, (a2_l.getD v4.2.toNat default).Name, (a2_l.getD v4.2.toNat default).Type_]), (IntKind.i64.wrap (v4.2 + 1)))) else (KK v4.1))) (a0_out, 0)
def F_rNum (a0_n : Int) (KK : (List UInt8) → Prop) : Prop :=
  joinP (α := List UInt8) (fun J3 => loopP (α := List UInt8 × Int) (fun R5 v6 => (10 : Int) ≠ 0 ∧ (([(UInt8.ofNat (IntKind.u8.wrap (IntKind.u64.wrap (48 + (Int.tmod v6.2 10)))).toNat)] : List UInt8).length + v6.1.length ≤ 4611686018427387904 ∧ (([(UInt8.ofNat (IntKind.u8.wrap (IntKind.u64.wrap (48 + (Int.tmod v6.2 10)))).toNat)] : List UInt8).length + v6.1.length) * 1 ≤ 140737488355328) ∧ (10 : Int) ≠ 0 ∧ if (decide ((IntKind.u64.wrap (Int.tdiv v6.2 10)) = 0)) = true then (J3 (([(UInt8.ofNat (IntKind.u8.wrap (IntKind.u64.wrap (48 + (Int.tmod v6.2 10)))).toNat)] : List UInt8) ++ v6.1)) else (R5 ((([(UInt8.ofNat (IntKind.u8.wrap (IntKind.u64.wrap (48 + (Int.tmod v6.2 10)))).toNat)] : List UInt8) ++ v6.1), (IntKind.u64.wrap (Int.tdiv v6.2 10))))) ([], (Lt.rSize a0_n))) (fun v4 => if (decide (a0_n < 0)) = true then ([45].length + v4.length ≤ 4611686018427387904 ∧ KK ([45] ++ v4)) else (KK v4))
def F_rWord (a0_a : Lt.Arg) (KK : (List UInt8) → Prop) : Prop :=
  if (!(Lt.rRight a0_a)) = true then (KK ([] : List UInt8)) else (if (decide (a0_a.Kind = 1)) = true then (KK a0_a.S) else (if (decide (a0_a.Kind = 2)) = true then ((Lt.preNum a0_a.N) ∧ KK (Lt.rNum a0_a.N)) else (if (decide (a0_a.Kind = 3)) = true then (KK (Lt.rFlo a0_a.N)) else (if (decide (a0_a.Kind = 4)) = true then (KK [110, 117, 108, 108]) else ((Lt.preNum a0_a.N) ∧ [35].length + (Lt.rNum a0_a.N).length ≤ 4611686018427387904 ∧ KK ([35] ++ (Lt.rNum a0_a.N)))))))
def F_rCode (a0_out : List UInt8) (a1_x : Lt.Instr) (KK : (List UInt8) → Prop) : Prop :=
  joinP (α := List (List UInt8)) (fun J1 => if (((Lt.rOf a1_x.Op).1).Dst) = true then ((([] : List (List UInt8)).length + ([a1_x.Dst, [61]] : List (List UInt8)).length ≤ 4611686018427387904 ∧ (([] : List (List UInt8)).length + ([a1_x.Dst, [61]] : List (List UInt8)).length) * 16 ≤ 140737488355328) ∧ J1 [a1_x.Dst, [61]]) else (J1 [])) (fun v2 => (v2.length + ([((Lt.rOf a1_x.Op).1).Word] : List (List UInt8)).length ≤ 4611686018427387904 ∧ (v2.length + ([((Lt.rOf a1_x.Op).1).Word] : List (List UInt8)).length) * 16 ≤ 140737488355328) ∧ joinP (α := List (List UInt8)) (fun J7 => joinP (α := Bool) (fun J9 => if (decide (a1_x.Op = 26)) = true then (J9 (decide (0 < (a1_x.Args.length : Int)))) else (if (decide (a1_x.Op = 27)) = true then (J9 (decide (0 < (a1_x.Args.length : Int)))) else (J9 false))) (fun v10 => if v10 = true then ((0 : Int) ≤ 1 ∧ (0 ≤ 1 ∧ 1 ≤ a1_x.Args.length) ∧ (Lt.preRArgs (v2 ++ ([((Lt.rOf a1_x.Op).1).Word] : List (List UInt8))) ((a1_x.Args.drop 0).take (1 - 0))) ∧ ((Lt.rArgs (v2 ++ ([((Lt.rOf a1_x.Op).1).Word] : List (List UInt8))) ((a1_x.Args.drop 0).take (1 - 0))).length + ([a1_x.Name] : List (List UInt8)).length ≤ 4611686018427387904 ∧ ((Lt.rArgs (v2 ++ ([((Lt.rOf a1_x.Op).1).Word] : List (List UInt8))) ((a1_x.Args.drop 0).take (1 - 0))).length + ([a1_x.Name] : List (List UInt8)).length) * 16 ≤ 140737488355328) ∧ (0 : Int) ≤ 1 ∧ (1 ≤ a1_x.Args.length ∧ a1_x.Args.length ≤ a1_x.Args.length) ∧ (Lt.preRArgs ((Lt.rArgs (v2 ++ ([((Lt.rOf a1_x.Op).1).Word] : List (List UInt8))) ((a1_x.Args.drop 0).take (1 - 0))) ++ ([a1_x.Name] : List (List UInt8))) ((a1_x.Args.drop 1).take (a1_x.Args.length - 1))) ∧ J7 (Lt.rArgs ((Lt.rArgs (v2 ++ ([((Lt.rOf a1_x.Op).1).Word] : List (List UInt8))) ((a1_x.Args.drop 0).take (1 - 0))) ++ ([a1_x.Name] : List (List UInt8))) ((a1_x.Args.drop 1).take (a1_x.Args.length - 1)))) else (joinP (α := List (List UInt8)) (fun J11 => if (((Lt.rOf a1_x.Op).1).Named) = true then (((v2 ++ ([((Lt.rOf a1_x.Op).1).Word] : List (List UInt8))).length + ([a1_x.Name] : List (List UInt8)).length ≤ 4611686018427387904 ∧ ((v2 ++ ([((Lt.rOf a1_x.Op).1).Word] : List (List UInt8))).length + ([a1_x.Name] : List (List UInt8)).length) * 16 ≤ 140737488355328) ∧ J11 ((v2 ++ ([((Lt.rOf a1_x.Op).1).Word] : List (List UInt8))) ++ ([a1_x.Name] : List (List UInt8)))) else (J11 (v2 ++ ([((Lt.rOf a1_x.Op).1).Word] : List (List UInt8))))) (fun v12 => (Lt.preRArgs v12 a1_x.Args) ∧ J7 (Lt.rArgs v12 a1_x.Args))))) (fun v8 => (Lt.preRPut a0_out v8) ∧ loopP (α := List UInt8 × Int) (fun R195 v196 => (a1_x.Frames.length ≤ 4611686018427387904 → if (decide (v196.2 < (a1_x.Frames.length : Int))) = true then (joinP (α := List (List UInt8)) (fun J215 => ((0 : Int) ≤ v196.2 ∧ v196.2.toNat < a1_x.Frames.length) ∧ (((0 : Int) ≤ v196.2 ∧ v196.2.toNat < a1_x.Frames.length) ∧ (((0 : Int) ≤ v196.2 ∧ v196.2.toNat < a1_x.Frames.length) ∧ (Lt.preNum ((a1_x.Frames.getD v196.2.toNat default).At)) ∧ J215 [[97, 116], (a1_x.Frames.getD v196.2.toNat default).Func, (a1_x.Frames.getD v196.2.toNat default).Block, (Lt.rNum ((a1_x.Frames.getD v196.2.toNat default).At))]) ∧ ((Lt.preNum ((a1_x.Frames.getD v196.2.toNat default).At)) ∧ ((0 : Int) ≤ v196.2 ∧ v196.2.toNat < a1_x.Frames.length) ∧ J215 [[97, 116], (a1_x.Frames.getD v196.2.toNat default).Func, (a1_x.Frames.getD v196.2.toNat default).Block, (Lt.rNum ((a1_x.Frames.getD v196.2.toNat default).At))])) ∧ (((0 : Int) ≤ v196.2 ∧ v196.2.toNat < a1_x.Frames.length) ∧ (((0 : Int) ≤ v196.2 ∧ v196.2.toNat < a1_x.Frames.length) ∧ (Lt.preNum ((a1_x.Frames.getD v196.2.toNat default).At)) ∧ J215 [[97, 116], (a1_x.Frames.getD v196.2.toNat default).Func, (a1_x.Frames.getD v196.2.toNat default).Block, (Lt.rNum ((a1_x.Frames.getD v196.2.toNat default).At))]) ∧ ((Lt.preNum ((a1_x.Frames.getD v196.2.toNat default).At)) ∧ ((0 : Int) ≤ v196.2 ∧ v196.2.toNat < a1_x.Frames.length) ∧ J215 [[97, 116], (a1_x.Frames.getD v196.2.toNat default).Func, (a1_x.Frames.getD v196.2.toNat default).Block, (Lt.rNum ((a1_x.Frames.getD v196.2.toNat default).At))])) ∧ ((Lt.preNum ((a1_x.Frames.getD v196.2.toNat default).At)) ∧ ((0 : Int) ≤ v196.2 ∧ v196.2.toNat < a1_x.Frames.length) ∧ ((0 : Int) ≤ v196.2 ∧ v196.2.toNat < a1_x.Frames.length) ∧ J215 [[97, 116], (a1_x.Frames.getD v196.2.toNat default).Func, (a1_x.Frames.getD v196.2.toNat default).Block, (Lt.rNum ((a1_x.Frames.getD v196.2.toNat default).At))])) (fun v216 => loopP (α := List (List UInt8) × Int) (fun R229 v230 => ((0 : Int) ≤ v196.2 ∧ v196.2.toNat < a1_x.Frames.length) ∧ (((a1_x.Frames.getD v196.2.toNat default).Vars).length ≤ 4611686018427387904 → if (decide (v230.2 < (((a1_x.Frames.getD v196.2.toNat default).Vars).length : Int))) = true then (joinP (α := List (List UInt8)) (fun J231 => ((0 : Int) ≤ v196.2 ∧ v196.2.toNat < a1_x.Frames.length) ∧ ((0 : Int) ≤ v230.2 ∧ v230.2.toNat < ((a1_x.Frames.getD v196.2.toNat default).Vars).length) ∧ (((0 : Int) ≤ v196.2 ∧ v196.2.toNat < a1_x.Frames.length) ∧ ((0 : Int) ≤ v230.2 ∧ v230.2.toNat < ((a1_x.Frames.getD v196.2.toNat default).Vars).length) ∧ (Lt.prePut ((((a1_x.Frames.getD v196.2.toNat default).Vars).getD v230.2.toNat default).A)) ∧ (v230.1.length + ([(((a1_x.Frames.getD v196.2.toNat default).Vars).getD v230.2.toNat default).Name, (Lt.rWord ((((a1_x.Frames.getD v196.2.toNat default).Vars).getD v230.2.toNat default).A))] : List (List UInt8)).length ≤ 4611686018427387904 ∧ (v230.1.length + ([(((a1_x.Frames.getD v196.2.toNat default).Vars).getD v230.2.toNat default).Name, (Lt.rWord ((((a1_x.Frames.getD v196.2.toNat default).Vars).getD v230.2.toNat default).A))] : List (List UInt8)).length) * 16 ≤ 140737488355328) ∧ J231 (v230.1 ++ ([(((a1_x.Frames.getD v196.2.toNat default).Vars).getD v230.2.toNat default).Name, (Lt.rWord ((((a1_x.Frames.getD v196.2.toNat default).Vars).getD v230.2.toNat default).A))] : List (List UInt8)))) ∧ ((Lt.prePut ((((a1_x.Frames.getD v196.2.toNat default).Vars).getD v230.2.toNat default).A)) ∧ ((0 : Int) ≤ v196.2 ∧ v196.2.toNat < a1_x.Frames.length) ∧ ((0 : Int) ≤ v230.2 ∧ v230.2.toNat < ((a1_x.Frames.getD v196.2.toNat default).Vars).length) ∧ (v230.1.length + ([(((a1_x.Frames.getD v196.2.toNat default).Vars).getD v230.2.toNat default).Name, (Lt.rWord ((((a1_x.Frames.getD v196.2.toNat default).Vars).getD v230.2.toNat default).A))] : List (List UInt8)).length ≤ 4611686018427387904 ∧ (v230.1.length + ([(((a1_x.Frames.getD v196.2.toNat default).Vars).getD v230.2.toNat default).Name, (Lt.rWord ((((a1_x.Frames.getD v196.2.toNat default).Vars).getD v230.2.toNat default).A))] : List (List UInt8)).length) * 16 ≤ 140737488355328) ∧ J231 (v230.1 ++ ([(((a1_x.Frames.getD v196.2.toNat default).Vars).getD v230.2.toNat default).Name, (Lt.rWord ((((a1_x.Frames.getD v196.2.toNat default).Vars).getD v230.2.toNat default).A))] : List (List UInt8))))) (fun v232 => R229 (v232, (IntKind.i64.wrap (v230.2 + 1))))) else ((Lt.preRPut v196.1 v230.1) ∧ R195 ((Lt.rPut v196.1 v230.1), (IntKind.i64.wrap (v196.2 + 1)))))) (v216, 0))) else (loopP (α := List UInt8 × Int) (fun R245 v246 => (a1_x.Objs.length ≤ 4611686018427387904 → if (decide (v246.2 < (a1_x.Objs.length : Int))) = true then (joinP (α := List UInt8) (fun J247 => ((0 : Int) ≤ v246.2 ∧ v246.2.toNat < a1_x.Objs.length) ∧ (((0 : Int) ≤ v246.2 ∧ v246.2.toNat < a1_x.Objs.length) ∧ (Lt.preRArgs [[111, 98, 106], (a1_x.Objs.getD v246.2.toNat default).Class] ((a1_x.Objs.getD v246.2.toNat default).Vals)) ∧ (Lt.preRPut v246.1 (Lt.rArgs [[111, 98, 106], (a1_x.Objs.getD v246.2.toNat default).Class] ((a1_x.Objs.getD v246.2.toNat default).Vals))) ∧ J247 (Lt.rPut v246.1 (Lt.rArgs [[111, 98, 106], (a1_x.Objs.getD v246.2.toNat default).Class] ((a1_x.Objs.getD v246.2.toNat default).Vals)))) ∧ (((0 : Int) ≤ v246.2 ∧ v246.2.toNat < a1_x.Objs.length) ∧ (Lt.preRArgs [[111, 98, 106], (a1_x.Objs.getD v246.2.toNat default).Class] ((a1_x.Objs.getD v246.2.toNat default).Vals)) ∧ (Lt.preRPut v246.1 (Lt.rArgs [[111, 98, 106], (a1_x.Objs.getD v246.2.toNat default).Class] ((a1_x.Objs.getD v246.2.toNat default).Vals))) ∧ J247 (Lt.rPut v246.1 (Lt.rArgs [[111, 98, 106], (a1_x.Objs.getD v246.2.toNat default).Class] ((a1_x.Objs.getD v246.2.toNat default).Vals))))) (fun v248 => R245 (v248, (IntKind.i64.wrap (v246.2 + 1))))) else (KK v246.1))) (v196.1, 0)))) ((Lt.rPut a0_out v8), 0)))
def F_rEnds (a0_out : List UInt8) (a1_t : Lt.Term) (KK : (List UInt8) → Prop) : Prop :=
  joinP (α := Bool) (fun J3 => if (decide (a1_t.Kind < 1)) = true then (J3 true) else (J3 (decide (4 < a1_t.Kind)))) (fun v4 => if v4 = true then (KK a0_out) else (((0 : Int) ≤ a1_t.Kind ∧ a1_t.Kind < (([([] : List UInt8), [106, 117, 109, 112], [98, 114, 97, 110, 99, 104], [114, 101, 116], [116, 114, 97, 112]].length : Nat) : Int)) ∧ joinP (α := List (List UInt8)) (fun J7 => joinP (α := Bool) (fun J9 => if (decide (a1_t.Kind = 2)) = true then (J9 true) else (J9 (decide (a1_t.Kind = 3)))) (fun v10 => if v10 = true then ((Lt.prePut a1_t.A) ∧ (([([([] : List UInt8), [106, 117, 109, 112], [98, 114, 97, 110, 99, 104], [114, 101, 116], [116, 114, 97, 112]].getD a1_t.Kind.toNat default)] : List (List UInt8)).length + ([(Lt.rWord a1_t.A)] : List (List UInt8)).length ≤ 4611686018427387904 ∧ (([([([] : List UInt8), [106, 117, 109, 112], [98, 114, 97, 110, 99, 104], [114, 101, 116], [116, 114, 97, 112]].getD a1_t.Kind.toNat default)] : List (List UInt8)).length + ([(Lt.rWord a1_t.A)] : List (List UInt8)).length) * 16 ≤ 140737488355328) ∧ J7 [([([] : List UInt8), [106, 117, 109, 112], [98, 114, 97, 110, 99, 104], [114, 101, 116], [116, 114, 97, 112]].getD a1_t.Kind.toNat default), (Lt.rWord a1_t.A)]) else (J7 [([([] : List UInt8), [106, 117, 109, 112], [98, 114, 97, 110, 99, 104], [114, 101, 116], [116, 114, 97, 112]].getD a1_t.Kind.toNat default)]))) (fun v8 => (v8.length + a1_t.To.length ≤ 4611686018427387904 ∧ (v8.length + a1_t.To.length) * 16 ≤ 140737488355328) ∧ joinP (α := List (List UInt8)) (fun J11 => if (decide (a1_t.Kind = 4)) = true then ((Lt.preNum a1_t.N) ∧ ((v8 ++ a1_t.To).length + ([(Lt.rNum a1_t.N)] : List (List UInt8)).length ≤ 4611686018427387904 ∧ ((v8 ++ a1_t.To).length + ([(Lt.rNum a1_t.N)] : List (List UInt8)).length) * 16 ≤ 140737488355328) ∧ J11 ((v8 ++ a1_t.To) ++ ([(Lt.rNum a1_t.N)] : List (List UInt8)))) else (J11 (v8 ++ a1_t.To))) (fun v12 => (Lt.preRPut a0_out v12) ∧ KK (Lt.rPut a0_out v12)))))
def F_countBlock (a0_b : Lt.Block) (a1_most : Int) (KK : Int → Prop) : Prop :=
  joinP (α := Bool) (fun J3 => (a0_b.Phis.length ≤ 4611686018427387904 → if (decide (a1_most < (a0_b.Phis.length : Int))) = true then (J3 true) else (if (decide (a1_most < (a0_b.Code.length : Int))) = true then (J3 true) else (J3 (decide (a1_most < (a0_b.End.To.length : Int))))))) (fun v4 => if v4 = true then (KK (IntKind.i64.wrap (a1_most + 1))) else ((a0_b.Name.length ≤ 4611686018427387904 → joinP (α := Int) (fun J5 => if (decide ((IntKind.i64.wrap (1 + (a0_b.Name.length : Int))) ≤ a1_most)) = true then ((a0_b.End.A.S.length ≤ 4611686018427387904 → J5 (IntKind.i64.wrap ((IntKind.i64.wrap (1 + (a0_b.Name.length : Int))) + (a0_b.End.A.S.length : Int))))) else (J5 (IntKind.i64.wrap (1 + (a0_b.Name.length : Int))))) (fun v6 => loopP (α := Int × Int) (fun R29 v30 => joinP (α := Bool) (fun J33 => (a0_b.End.To.length ≤ 4611686018427387904 → if (decide (v30.2 < (a0_b.End.To.length : Int))) = true then (J33 (decide (v30.1 ≤ a1_most))) else (J33 false))) (fun v34 => if v34 = true then (((0 : Int) ≤ v30.2 ∧ v30.2.toNat < a0_b.End.To.length) ∧ ((a0_b.End.To.getD v30.2.toNat default).length ≤ 4611686018427387904 → R29 ((IntKind.i64.wrap ((IntKind.i64.wrap (v30.1 + 1)) + ((a0_b.End.To.getD v30.2.toNat default).length : Int))), (IntKind.i64.wrap (v30.2 + 1))))) else (loopP (α := Int × Int) (fun R257 v258 => joinP (α := Bool) (fun J261 => (a0_b.Phis.length ≤ 4611686018427387904 → if (decide (v258.2 < (a0_b.Phis.length : Int))) = true then (J261 (decide (v258.1 ≤ a1_most))) else (J261 false))) (fun v262 => if v262 = true then (((0 : Int) ≤ v258.2 ∧ v258.2.toNat < a0_b.Phis.length) ∧ (((a0_b.Phis.getD v258.2.toNat default).Dst).length ≤ 4611686018427387904 → loopP (α := Int × Int) (fun R295 v296 => joinP (α := Bool) (fun J299 => ((0 : Int) ≤ v258.2 ∧ v258.2.toNat < a0_b.Phis.length) ∧ (((a0_b.Phis.getD v258.2.toNat default).Ins).length ≤ 4611686018427387904 → if (decide (v296.2 < (((a0_b.Phis.getD v258.2.toNat default).Ins).length : Int))) = true then (J299 (decide (v296.1 ≤ a1_most))) else (J299 false))) (fun v300 => if v300 = true then (joinP (α := Int) (fun J301 => ((0 : Int) ≤ v258.2 ∧ v258.2.toNat < a0_b.Phis.length) ∧ ((0 : Int) ≤ v296.2 ∧ v296.2.toNat < ((a0_b.Phis.getD v258.2.toNat default).Ins).length) ∧ (((((a0_b.Phis.getD v258.2.toNat default).Ins).getD v296.2.toNat default).Block).length ≤ 4611686018427387904 → if (decide ((IntKind.i64.wrap ((IntKind.i64.wrap (v296.1 + 1)) + (((((a0_b.Phis.getD v258.2.toNat default).Ins).getD v296.2.toNat default).Block).length : Int))) ≤ a1_most)) = true then (((0 : Int) ≤ v258.2 ∧ v258.2.toNat < a0_b.Phis.length) ∧ ((0 : Int) ≤ v296.2 ∧ v296.2.toNat < ((a0_b.Phis.getD v258.2.toNat default).Ins).length) ∧ ((((((a0_b.Phis.getD v258.2.toNat default).Ins).getD v296.2.toNat default).A).S).length ≤ 4611686018427387904 → J301 (IntKind.i64.wrap ((IntKind.i64.wrap ((IntKind.i64.wrap (v296.1 + 1)) + (((((a0_b.Phis.getD v258.2.toNat default).Ins).getD v296.2.toNat default).Block).length : Int))) + ((((((a0_b.Phis.getD v258.2.toNat default).Ins).getD v296.2.toNat default).A).S).length : Int))))) else (J301 (IntKind.i64.wrap ((IntKind.i64.wrap (v296.1 + 1)) + (((((a0_b.Phis.getD v258.2.toNat default).Ins).getD v296.2.toNat default).Block).length : Int)))))) (fun v302 => R295 (v302, (IntKind.i64.wrap (v296.2 + 1))))) else (R257 (v296.1, (IntKind.i64.wrap (v258.2 + 1)))))) ((IntKind.i64.wrap ((IntKind.i64.wrap (v258.1 + 1)) + (((a0_b.Phis.getD v258.2.toNat default).Dst).length : Int))), 0))) else (loopP (α := Int × Int) (fun R325 v326 => joinP (α := Bool) (fun J329 => (a0_b.Code.length ≤ 4611686018427387904 → if (decide (v326.2 < (a0_b.Code.length : Int))) = true then (J329 (decide (v326.1 ≤ a1_most))) else (J329 false))) (fun v330 => if v330 = true then (((0 : Int) ≤ v326.2 ∧ v326.2.toNat < a0_b.Code.length) ∧ (Lt.preCI (a0_b.Code.getD v326.2.toNat default) a1_most) ∧ R325 ((IntKind.i64.wrap (v326.1 + (Lt.countInstr (a0_b.Code.getD v326.2.toNat default) a1_most))), (IntKind.i64.wrap (v326.2 + 1)))) else (KK v326.1))) (v258.1, 0)))) (v30.1, 0)))) (v6, 0)))))
def F_wordPut (a0_a : Lt.Arg) (KK : (List UInt8) → Prop) : Prop :=
  if (!(Lt.wordRight a0_a)) = true then (KK ([] : List UInt8)) else (if (decide (a0_a.Kind = 2)) = true then ((Lt.preNum a0_a.N) ∧ KK (Lt.numPut a0_a.N)) else (if (decide (a0_a.Kind = 3)) = true then (KK (Lt.floPut a0_a.N)) else (if (decide (a0_a.Kind = 4)) = true then (KK [110, 117, 108, 108]) else (if (decide (a0_a.Kind = 5)) = true then ((Lt.preNum a0_a.N) ∧ [35].length + (Lt.numPut a0_a.N).length ≤ 4611686018427387904 ∧ KK ([35] ++ (Lt.numPut a0_a.N))) else (KK a0_a.S)))))
def F_sheetCode (a0_s : Lt.Sheet) (a1_i : Lt.Instr) (KK : ((Unit) × Lt.Sheet) → Prop) : Prop :=
  joinP (α := List (List UInt8)) (fun J1 => if (((Lt.Of a1_i.Op).1).Dst) = true then ((([] : List (List UInt8)).length + ([a1_i.Dst, [61]] : List (List UInt8)).length ≤ 4611686018427387904 ∧ (([] : List (List UInt8)).length + ([a1_i.Dst, [61]] : List (List UInt8)).length) * 16 ≤ 140737488355328) ∧ J1 [a1_i.Dst, [61]]) else (J1 [])) (fun v2 => (v2.length + ([((Lt.Of a1_i.Op).1).Word] : List (List UInt8)).length ≤ 4611686018427387904 ∧ (v2.length + ([((Lt.Of a1_i.Op).1).Word] : List (List UInt8)).length) * 16 ≤ 140737488355328) ∧ (Lt.prePuts a1_i.Args) ∧ joinP (α := List (List UInt8) × List (List UInt8)) (fun J5 => joinP (α := Bool) (fun J7 => if (decide (a1_i.Op = 26)) = true then (J7 true) else (J7 (decide (a1_i.Op = 27)))) (fun v8 => if v8 = true then (((0 : Int) ≤ 0 ∧ 0 < (Lt.puts a1_i.Args).length) ∧ ((v2 ++ ([((Lt.Of a1_i.Op).1).Word] : List (List UInt8))).length + ([((Lt.puts a1_i.Args).getD 0 default), a1_i.Name] : List (List UInt8)).length ≤ 4611686018427387904 ∧ ((v2 ++ ([((Lt.Of a1_i.Op).1).Word] : List (List UInt8))).length + ([((Lt.puts a1_i.Args).getD 0 default), a1_i.Name] : List (List UInt8)).length) * 16 ≤ 140737488355328) ∧ (0 : Int) ≤ 1 ∧ (1 ≤ (Lt.puts a1_i.Args).length ∧ (Lt.puts a1_i.Args).length ≤ (Lt.puts a1_i.Args).length) ∧ J5 (((v2 ++ ([((Lt.Of a1_i.Op).1).Word] : List (List UInt8))) ++ ([((Lt.puts a1_i.Args).getD 0 default), a1_i.Name] : List (List UInt8))), (((Lt.puts a1_i.Args).drop 1).take ((Lt.puts a1_i.Args).length - 1)))) else (if (((Lt.Of a1_i.Op).1).Named) = true then (((v2 ++ ([((Lt.Of a1_i.Op).1).Word] : List (List UInt8))).length + ([a1_i.Name] : List (List UInt8)).length ≤ 4611686018427387904 ∧ ((v2 ++ ([((Lt.Of a1_i.Op).1).Word] : List (List UInt8))).length + ([a1_i.Name] : List (List UInt8)).length) * 16 ≤ 140737488355328) ∧ J5 (((v2 ++ ([((Lt.Of a1_i.Op).1).Word] : List (List UInt8))) ++ ([a1_i.Name] : List (List UInt8))), (Lt.puts a1_i.Args))) else (J5 ((v2 ++ ([((Lt.Of a1_i.Op).1).Word] : List (List UInt8))), (Lt.puts a1_i.Args)))))) (fun v6 => (v6.1.length + v6.2.length ≤ 4611686018427387904 ∧ (v6.1.length + v6.2.length) * 16 ≤ 140737488355328) ∧ (Lt.preLine a0_s (v6.1 ++ v6.2)) ∧ (a1_i.Frames.length ≤ 4611686018427387904 → loopP (α := Int × Lt.Sheet) (fun R191 v192 => if (decide (v192.1 < (a1_i.Frames.length : Int))) = true then (((0 : Int) ≤ v192.1 ∧ v192.1.toNat < a1_i.Frames.length) ∧ joinP (α := List (List UInt8)) (fun J211 => (((Lt.preNum ((a1_i.Frames.getD v192.1.toNat default).At)) ∧ J211 [[97, 116], (a1_i.Frames.getD v192.1.toNat default).Func, (a1_i.Frames.getD v192.1.toNat default).Block, (Lt.number ((a1_i.Frames.getD v192.1.toNat default).At))]) ∧ ((Lt.preNum ((a1_i.Frames.getD v192.1.toNat default).At)) ∧ J211 [[97, 116], (a1_i.Frames.getD v192.1.toNat default).Func, (a1_i.Frames.getD v192.1.toNat default).Block, (Lt.number ((a1_i.Frames.getD v192.1.toNat default).At))])) ∧ (((Lt.preNum ((a1_i.Frames.getD v192.1.toNat default).At)) ∧ J211 [[97, 116], (a1_i.Frames.getD v192.1.toNat default).Func, (a1_i.Frames.getD v192.1.toNat default).Block, (Lt.number ((a1_i.Frames.getD v192.1.toNat default).At))]) ∧ ((Lt.preNum ((a1_i.Frames.getD v192.1.toNat default).At)) ∧ J211 [[97, 116], (a1_i.Frames.getD v192.1.toNat default).Func, (a1_i.Frames.getD v192.1.toNat default).Block, (Lt.number ((a1_i.Frames.getD v192.1.toNat default).At))])) ∧ ((Lt.preNum ((a1_i.Frames.getD v192.1.toNat default).At)) ∧ J211 [[97, 116], (a1_i.Frames.getD v192.1.toNat default).Func, (a1_i.Frames.getD v192.1.toNat default).Block, (Lt.number ((a1_i.Frames.getD v192.1.toNat default).At))])) (fun v212 => (((a1_i.Frames.getD v192.1.toNat default).Vars).length ≤ 4611686018427387904 → loopP (α := List (List UInt8) × Int) (fun R225 v226 => if (decide (v226.2 < (((a1_i.Frames.getD v192.1.toNat default).Vars).length : Int))) = true then (joinP (α := List (List UInt8)) (fun J227 => ((0 : Int) ≤ v226.2 ∧ v226.2.toNat < ((a1_i.Frames.getD v192.1.toNat default).Vars).length) ∧ ((Lt.prePut ((((a1_i.Frames.getD v192.1.toNat default).Vars).getD v226.2.toNat default).A)) ∧ (v226.1.length + ([(((a1_i.Frames.getD v192.1.toNat default).Vars).getD v226.2.toNat default).Name, (Lt.wordPut ((((a1_i.Frames.getD v192.1.toNat default).Vars).getD v226.2.toNat default).A))] : List (List UInt8)).length ≤ 4611686018427387904 ∧ (v226.1.length + ([(((a1_i.Frames.getD v192.1.toNat default).Vars).getD v226.2.toNat default).Name, (Lt.wordPut ((((a1_i.Frames.getD v192.1.toNat default).Vars).getD v226.2.toNat default).A))] : List (List UInt8)).length) * 16 ≤ 140737488355328) ∧ J227 (v226.1 ++ ([(((a1_i.Frames.getD v192.1.toNat default).Vars).getD v226.2.toNat default).Name, (Lt.wordPut ((((a1_i.Frames.getD v192.1.toNat default).Vars).getD v226.2.toNat default).A))] : List (List UInt8)))) ∧ ((Lt.prePut ((((a1_i.Frames.getD v192.1.toNat default).Vars).getD v226.2.toNat default).A)) ∧ (v226.1.length + ([(((a1_i.Frames.getD v192.1.toNat default).Vars).getD v226.2.toNat default).Name, (Lt.wordPut ((((a1_i.Frames.getD v192.1.toNat default).Vars).getD v226.2.toNat default).A))] : List (List UInt8)).length ≤ 4611686018427387904 ∧ (v226.1.length + ([(((a1_i.Frames.getD v192.1.toNat default).Vars).getD v226.2.toNat default).Name, (Lt.wordPut ((((a1_i.Frames.getD v192.1.toNat default).Vars).getD v226.2.toNat default).A))] : List (List UInt8)).length) * 16 ≤ 140737488355328) ∧ J227 (v226.1 ++ ([(((a1_i.Frames.getD v192.1.toNat default).Vars).getD v226.2.toNat default).Name, (Lt.wordPut ((((a1_i.Frames.getD v192.1.toNat default).Vars).getD v226.2.toNat default).A))] : List (List UInt8))))) (fun v228 => R225 (v228, (IntKind.i64.wrap (v226.2 + 1))))) else ((Lt.preLine v192.2 v226.1) ∧ R191 ((IntKind.i64.wrap (v192.1 + 1)), ((Lt.sheetLine v192.2 v226.1).2)))) (v212, 0)))) else ((a1_i.Objs.length ≤ 4611686018427387904 → loopP (α := Int × Lt.Sheet) (fun R233 v234 => if (decide (v234.1 < (a1_i.Objs.length : Int))) = true then (joinP (α := Lt.Sheet) (fun J235 => ((0 : Int) ≤ v234.1 ∧ v234.1.toNat < a1_i.Objs.length) ∧ (((Lt.prePuts ((a1_i.Objs.getD v234.1.toNat default).Vals)) ∧ (([[111, 98, 106], (a1_i.Objs.getD v234.1.toNat default).Class] : List (List UInt8)).length + (Lt.puts ((a1_i.Objs.getD v234.1.toNat default).Vals)).length ≤ 4611686018427387904 ∧ (([[111, 98, 106], (a1_i.Objs.getD v234.1.toNat default).Class] : List (List UInt8)).length + (Lt.puts ((a1_i.Objs.getD v234.1.toNat default).Vals)).length) * 16 ≤ 140737488355328) ∧ (Lt.preLine v234.2 (([[111, 98, 106], (a1_i.Objs.getD v234.1.toNat default).Class] : List (List UInt8)) ++ (Lt.puts ((a1_i.Objs.getD v234.1.toNat default).Vals)))) ∧ J235 ((Lt.sheetLine v234.2 (([[111, 98, 106], (a1_i.Objs.getD v234.1.toNat default).Class] : List (List UInt8)) ++ (Lt.puts ((a1_i.Objs.getD v234.1.toNat default).Vals)))).2)) ∧ (((Lt.prePuts ((a1_i.Objs.getD v234.1.toNat default).Vals)) ∧ (([[111, 98, 106], (a1_i.Objs.getD v234.1.toNat default).Class] : List (List UInt8)).length + (Lt.puts ((a1_i.Objs.getD v234.1.toNat default).Vals)).length ≤ 4611686018427387904 ∧ (([[111, 98, 106], (a1_i.Objs.getD v234.1.toNat default).Class] : List (List UInt8)).length + (Lt.puts ((a1_i.Objs.getD v234.1.toNat default).Vals)).length) * 16 ≤ 140737488355328) ∧ (Lt.preLine v234.2 (([[111, 98, 106], (a1_i.Objs.getD v234.1.toNat default).Class] : List (List UInt8)) ++ (Lt.puts ((a1_i.Objs.getD v234.1.toNat default).Vals)))) ∧ J235 ((Lt.sheetLine v234.2 (([[111, 98, 106], (a1_i.Objs.getD v234.1.toNat default).Class] : List (List UInt8)) ++ (Lt.puts ((a1_i.Objs.getD v234.1.toNat default).Vals)))).2)) ∧ ((Lt.prePuts ((a1_i.Objs.getD v234.1.toNat default).Vals)) ∧ (([[111, 98, 106], (a1_i.Objs.getD v234.1.toNat default).Class] : List (List UInt8)).length + (Lt.puts ((a1_i.Objs.getD v234.1.toNat default).Vals)).length ≤ 4611686018427387904 ∧ (([[111, 98, 106], (a1_i.Objs.getD v234.1.toNat default).Class] : List (List UInt8)).length + (Lt.puts ((a1_i.Objs.getD v234.1.toNat default).Vals)).length) * 16 ≤ 140737488355328) ∧ (Lt.preLine v234.2 (([[111, 98, 106], (a1_i.Objs.getD v234.1.toNat default).Class] : List (List UInt8)) ++ (Lt.puts ((a1_i.Objs.getD v234.1.toNat default).Vals)))) ∧ J235 ((Lt.sheetLine v234.2 (([[111, 98, 106], (a1_i.Objs.getD v234.1.toNat default).Class] : List (List UInt8)) ++ (Lt.puts ((a1_i.Objs.getD v234.1.toNat default).Vals)))).2)))) ∧ ((((Lt.prePuts ((a1_i.Objs.getD v234.1.toNat default).Vals)) ∧ (([[111, 98, 106], (a1_i.Objs.getD v234.1.toNat default).Class] : List (List UInt8)).length + (Lt.puts ((a1_i.Objs.getD v234.1.toNat default).Vals)).length ≤ 4611686018427387904 ∧ (([[111, 98, 106], (a1_i.Objs.getD v234.1.toNat default).Class] : List (List UInt8)).length + (Lt.puts ((a1_i.Objs.getD v234.1.toNat default).Vals)).length) * 16 ≤ 140737488355328) ∧ (Lt.preLine v234.2 (([[111, 98, 106], (a1_i.Objs.getD v234.1.toNat default).Class] : List (List UInt8)) ++ (Lt.puts ((a1_i.Objs.getD v234.1.toNat default).Vals)))) ∧ J235 ((Lt.sheetLine v234.2 (([[111, 98, 106], (a1_i.Objs.getD v234.1.toNat default).Class] : List (List UInt8)) ++ (Lt.puts ((a1_i.Objs.getD v234.1.toNat default).Vals)))).2)) ∧ ((Lt.prePuts ((a1_i.Objs.getD v234.1.toNat default).Vals)) ∧ (([[111, 98, 106], (a1_i.Objs.getD v234.1.toNat default).Class] : List (List UInt8)).length + (Lt.puts ((a1_i.Objs.getD v234.1.toNat default).Vals)).length ≤ 4611686018427387904 ∧ (([[111, 98, 106], (a1_i.Objs.getD v234.1.toNat default).Class] : List (List UInt8)).length + (Lt.puts ((a1_i.Objs.getD v234.1.toNat default).Vals)).length) * 16 ≤ 140737488355328) ∧ (Lt.preLine v234.2 (([[111, 98, 106], (a1_i.Objs.getD v234.1.toNat default).Class] : List (List UInt8)) ++ (Lt.puts ((a1_i.Objs.getD v234.1.toNat default).Vals)))) ∧ J235 ((Lt.sheetLine v234.2 (([[111, 98, 106], (a1_i.Objs.getD v234.1.toNat default).Class] : List (List UInt8)) ++ (Lt.puts ((a1_i.Objs.getD v234.1.toNat default).Vals)))).2))) ∧ ((Lt.prePuts ((a1_i.Objs.getD v234.1.toNat default).Vals)) ∧ (([[111, 98, 106], (a1_i.Objs.getD v234.1.toNat default).Class] : List (List UInt8)).length + (Lt.puts ((a1_i.Objs.getD v234.1.toNat default).Vals)).length ≤ 4611686018427387904 ∧ (([[111, 98, 106], (a1_i.Objs.getD v234.1.toNat default).Class] : List (List UInt8)).length + (Lt.puts ((a1_i.Objs.getD v234.1.toNat default).Vals)).length) * 16 ≤ 140737488355328) ∧ (Lt.preLine v234.2 (([[111, 98, 106], (a1_i.Objs.getD v234.1.toNat default).Class] : List (List UInt8)) ++ (Lt.puts ((a1_i.Objs.getD v234.1.toNat default).Vals)))) ∧ J235 ((Lt.sheetLine v234.2 (([[111, 98, 106], (a1_i.Objs.getD v234.1.toNat default).Class] : List (List UInt8)) ++ (Lt.puts ((a1_i.Objs.getD v234.1.toNat default).Vals)))).2)))) (fun v236 => R233 ((IntKind.i64.wrap (v234.1 + 1)), v236))) else (KK ((), v234.2))) (0, v192.2)))) (0, ((Lt.sheetLine a0_s (v6.1 ++ v6.2)).2)))))
def F_sheetEnd (a0_s : Lt.Sheet) (a1_t : Lt.Term) (KK : ((Unit) × Lt.Sheet) → Prop) : Prop :=
  if (decide (a1_t.Kind = 1)) = true then (((0 : Int) ≤ 0 ∧ 0 < a1_t.To.length) ∧ (Lt.preLine a0_s [[106, 117, 109, 112], (a1_t.To.getD 0 default)]) ∧ KK ((), ((Lt.sheetLine a0_s [[106, 117, 109, 112], (a1_t.To.getD 0 default)]).2))) else (if (decide (a1_t.Kind = 2)) = true then (((Lt.prePut a1_t.A) ∧ ((0 : Int) ≤ 0 ∧ 0 < a1_t.To.length) ∧ ((0 : Int) ≤ 1 ∧ 1 < a1_t.To.length) ∧ (Lt.preLine a0_s [[98, 114, 97, 110, 99, 104], (Lt.wordPut a1_t.A), (a1_t.To.getD 0 default), (a1_t.To.getD 1 default)]) ∧ KK ((), ((Lt.sheetLine a0_s [[98, 114, 97, 110, 99, 104], (Lt.wordPut a1_t.A), (a1_t.To.getD 0 default), (a1_t.To.getD 1 default)]).2))) ∧ (((0 : Int) ≤ 0 ∧ 0 < a1_t.To.length) ∧ ((Lt.prePut a1_t.A) ∧ ((0 : Int) ≤ 1 ∧ 1 < a1_t.To.length) ∧ (Lt.preLine a0_s [[98, 114, 97, 110, 99, 104], (Lt.wordPut a1_t.A), (a1_t.To.getD 0 default), (a1_t.To.getD 1 default)]) ∧ KK ((), ((Lt.sheetLine a0_s [[98, 114, 97, 110, 99, 104], (Lt.wordPut a1_t.A), (a1_t.To.getD 0 default), (a1_t.To.getD 1 default)]).2))) ∧ (((0 : Int) ≤ 1 ∧ 1 < a1_t.To.length) ∧ (Lt.prePut a1_t.A) ∧ (Lt.preLine a0_s [[98, 114, 97, 110, 99, 104], (Lt.wordPut a1_t.A), (a1_t.To.getD 0 default), (a1_t.To.getD 1 default)]) ∧ KK ((), ((Lt.sheetLine a0_s [[98, 114, 97, 110, 99, 104], (Lt.wordPut a1_t.A), (a1_t.To.getD 0 default), (a1_t.To.getD 1 default)]).2)))) ∧ (((0 : Int) ≤ 1 ∧ 1 < a1_t.To.length) ∧ ((Lt.prePut a1_t.A) ∧ ((0 : Int) ≤ 0 ∧ 0 < a1_t.To.length) ∧ (Lt.preLine a0_s [[98, 114, 97, 110, 99, 104], (Lt.wordPut a1_t.A), (a1_t.To.getD 0 default), (a1_t.To.getD 1 default)]) ∧ KK ((), ((Lt.sheetLine a0_s [[98, 114, 97, 110, 99, 104], (Lt.wordPut a1_t.A), (a1_t.To.getD 0 default), (a1_t.To.getD 1 default)]).2))) ∧ (((0 : Int) ≤ 0 ∧ 0 < a1_t.To.length) ∧ (Lt.prePut a1_t.A) ∧ (Lt.preLine a0_s [[98, 114, 97, 110, 99, 104], (Lt.wordPut a1_t.A), (a1_t.To.getD 0 default), (a1_t.To.getD 1 default)]) ∧ KK ((), ((Lt.sheetLine a0_s [[98, 114, 97, 110, 99, 104], (Lt.wordPut a1_t.A), (a1_t.To.getD 0 default), (a1_t.To.getD 1 default)]).2))))) else (if (decide (a1_t.Kind = 3)) = true then ((Lt.prePut a1_t.A) ∧ (Lt.preLine a0_s [[114, 101, 116], (Lt.wordPut a1_t.A)]) ∧ KK ((), ((Lt.sheetLine a0_s [[114, 101, 116], (Lt.wordPut a1_t.A)]).2))) else ((Lt.preNum a1_t.N) ∧ (Lt.preLine a0_s [[116, 114, 97, 112], (Lt.numPut a1_t.N)]) ∧ KK ((), ((Lt.sheetLine a0_s [[116, 114, 97, 112], (Lt.numPut a1_t.N)]).2)))))
def F_Same (a0_a : Lt.Program) (a1_b : Lt.Program) (KK : Bool → Prop) : Prop :=
  joinP (α := Bool) (fun J3 => if (!(a0_a.SSA == a1_b.SSA)) = true then (J3 true) else (if (!decide ((a0_a.Classes.length : Int) = (a1_b.Classes.length : Int))) = true then (J3 true) else (if (!(Lt.sameVars a0_a.Globals a1_b.Globals)) = true then (J3 true) else (if (!decide ((a0_a.Externs.length : Int) = (a1_b.Externs.length : Int))) = true then (J3 true) else (J3 (!decide ((a0_a.Funcs.length : Int) = (a1_b.Funcs.length : Int)))))))) (fun v4 => if v4 = true then (KK false) else (loopP (α := Int) (fun R27 v28 => (a0_a.Classes.length ≤ 4611686018427387904 → if (decide (v28 < (a0_a.Classes.length : Int))) = true then (joinP (α := Bool) (fun J31 => ((0 : Int) ≤ v28 ∧ v28.toNat < a0_a.Classes.length) ∧ ((0 : Int) ≤ v28 ∧ v28.toNat < a1_b.Classes.length) ∧ if (!decide ((a0_a.Classes.getD v28.toNat default).Name = (a1_b.Classes.getD v28.toNat default).Name)) = true then (J31 true) else (((0 : Int) ≤ v28 ∧ v28.toNat < a0_a.Classes.length) ∧ ((0 : Int) ≤ v28 ∧ v28.toNat < a1_b.Classes.length) ∧ J31 (!(Lt.sameVars ((a0_a.Classes.getD v28.toNat default).Fields) ((a1_b.Classes.getD v28.toNat default).Fields))))) (fun v32 => if v32 = true then (KK false) else (R27 (IntKind.i64.wrap (v28 + 1))))) else (loopP (α := Int) (fun R35 v36 => (a0_a.Externs.length ≤ 4611686018427387904 → if (decide (v36 < (a0_a.Externs.length : Int))) = true then (((0 : Int) ≤ v36 ∧ v36.toNat < a0_a.Externs.length) ∧ ((0 : Int) ≤ v36 ∧ v36.toNat < a1_b.Externs.length) ∧ if (!(decide ((a0_a.Externs.getD v36.toNat default).Name = (a1_b.Externs.getD v36.toNat default).Name) && decide ((a0_a.Externs.getD v36.toNat default).N = (a1_b.Externs.getD v36.toNat default).N))) = true then (KK false) else (R35 (IntKind.i64.wrap (v36 + 1)))) else (loopP (α := Int) (fun R39 v40 => (a0_a.Funcs.length ≤ 4611686018427387904 → if (decide (v40 < (a0_a.Funcs.length : Int))) = true then (((0 : Int) ≤ v40 ∧ v40.toNat < a0_a.Funcs.length) ∧ ((0 : Int) ≤ v40 ∧ v40.toNat < a1_b.Funcs.length) ∧ if (!(Lt.SameFunc (a0_a.Funcs.getD v40.toNat default) (a1_b.Funcs.getD v40.toNat default))) = true then (KK false) else (R39 (IntKind.i64.wrap (v40 + 1)))) else (KK true))) 0))) 0))) 0))
def F_kind (a0_s : List UInt8) (KK : Bool → Prop) : Prop :=
  joinP (α := Bool) (fun J1 => if (decide (a0_s = [105, 110, 116])) = true then (J1 true) else (if (decide (a0_s = [102, 108, 111, 97, 116])) = true then (J1 true) else (J1 (Lt.Name a0_s)))) (fun v2 => KK v2)
def F_letter (a0_c : UInt8) (KK : Bool → Prop) : Prop :=
  joinP (α := Bool) (fun J1 => if (decide ((((97 : UInt8).toNat : Nat) : Int) ≤ ((a0_c.toNat : Nat) : Int))) = true then (if (decide (((a0_c.toNat : Nat) : Int) ≤ (((122 : UInt8).toNat : Nat) : Int))) = true then (J1 true) else (if (decide ((((65 : UInt8).toNat : Nat) : Int) ≤ ((a0_c.toNat : Nat) : Int))) = true then (if (decide (((a0_c.toNat : Nat) : Int) ≤ (((90 : UInt8).toNat : Nat) : Int))) = true then (J1 true) else (J1 (decide (((a0_c.toNat : Nat) : Int) = (((95 : UInt8).toNat : Nat) : Int))))) else (J1 (decide (((a0_c.toNat : Nat) : Int) = (((95 : UInt8).toNat : Nat) : Int)))))) else (if (decide ((((65 : UInt8).toNat : Nat) : Int) ≤ ((a0_c.toNat : Nat) : Int))) = true then (if (decide (((a0_c.toNat : Nat) : Int) ≤ (((90 : UInt8).toNat : Nat) : Int))) = true then (J1 true) else (J1 (decide (((a0_c.toNat : Nat) : Int) = (((95 : UInt8).toNat : Nat) : Int))))) else (J1 (decide (((a0_c.toNat : Nat) : Int) = (((95 : UInt8).toNat : Nat) : Int)))))) (fun v2 => KK v2)
def F_kept (a0_s : List UInt8) (KK : Bool → Prop) : Prop :=
  joinP (α := Bool) (fun J1 => if (decide (a0_s = [110, 117, 108, 108])) = true then (J1 true) else (if (decide (a0_s = [105, 110, 116])) = true then (J1 true) else (J1 (decide (a0_s = [102, 108, 111, 97, 116]))))) (fun v2 => KK v2)
def F_wordDigit (a0_c : UInt8) (KK : Bool → Prop) : Prop :=
  if (decide ((((48 : UInt8).toNat : Nat) : Int) ≤ ((a0_c.toNat : Nat) : Int))) = true then (KK (decide (((a0_c.toNat : Nat) : Int) ≤ (((57 : UInt8).toNat : Nat) : Int)))) else (KK false)
def F_block (a0_b : Lt.Block) (KK : Bool → Prop) : Prop :=
  joinP (α := Bool) (fun J3 => if (!(Lt.Name a0_b.Name)) = true then (J3 true) else (J3 (!(Lt.showEnd a0_b.End)))) (fun v4 => if v4 = true then (KK false) else ((a0_b.Phis.length ≤ 4611686018427387904 → loopP (α := Int) (fun R7 v8 => if (decide (v8 < (a0_b.Phis.length : Int))) = true then (((0 : Int) ≤ v8 ∧ v8.toNat < a0_b.Phis.length) ∧ if (!(Lt.phi (a0_b.Phis.getD v8.toNat default))) = true then (KK false) else (R7 (IntKind.i64.wrap (v8 + 1)))) else ((a0_b.Code.length ≤ 4611686018427387904 → loopP (α := Int) (fun R11 v12 => if (decide (v12 < (a0_b.Code.length : Int))) = true then (((0 : Int) ≤ v12 ∧ v12.toNat < a0_b.Code.length) ∧ if (!(Lt.instr (a0_b.Code.getD v12.toNat default))) = true then (KK false) else (R11 (IntKind.i64.wrap (v12 + 1)))) else (KK true)) 0))) 0)))
def F_rSize (a0_n : Int) (KK : Int → Prop) : Prop :=
  if (decide (a0_n < 0)) = true then (KK (IntKind.u64.wrap (0 - (IntKind.u64.wrap a0_n)))) else (KK (IntKind.u64.wrap a0_n))
def F_rRight (a0_a : Lt.Arg) (KK : Bool → Prop) : Prop :=
  if (decide (a0_a.Kind = 1)) = true then (if (Lt.rName a0_a.S) = true then (KK (decide (a0_a.N = 0))) else (KK false)) else (joinP (α := Bool) (fun J3 => if (decide (a0_a.Kind < 1)) = true then (J3 true) else (if (decide (5 < a0_a.Kind)) = true then (J3 true) else (J3 (!decide (a0_a.S = ([] : List UInt8)))))) (fun v4 => if v4 = true then (KK false) else (joinP (α := Bool) (fun J5 => if (decide (a0_a.Kind = 2)) = true then ((J5 true) ∧ (J5 true)) else (if (decide (a0_a.Kind = 3)) = true then ((if (decide ((Lt.rPlain a0_a.N) = a0_a.N)) = true then (J5 true) else (if (decide (a0_a.Kind = 4)) = true then (if (decide (a0_a.N = 0)) = true then (J5 true) else (if (decide (a0_a.Kind = 5)) = true then (if (decide (0 ≤ a0_a.N)) = true then (J5 (decide (a0_a.N ≤ 999))) else (J5 false)) else (J5 false))) else (if (decide (a0_a.Kind = 5)) = true then (if (decide (0 ≤ a0_a.N)) = true then (J5 (decide (a0_a.N ≤ 999))) else (J5 false)) else (J5 false)))) ∧ (if (decide ((Lt.rPlain a0_a.N) = a0_a.N)) = true then (J5 true) else (if (decide (a0_a.Kind = 4)) = true then (if (decide (a0_a.N = 0)) = true then (J5 true) else (if (decide (a0_a.Kind = 5)) = true then (if (decide (0 ≤ a0_a.N)) = true then (J5 (decide (a0_a.N ≤ 999))) else (J5 false)) else (J5 false))) else (if (decide (a0_a.Kind = 5)) = true then (if (decide (0 ≤ a0_a.N)) = true then (J5 (decide (a0_a.N ≤ 999))) else (J5 false)) else (J5 false))))) else ((if (decide (a0_a.Kind = 4)) = true then (if (decide (a0_a.N = 0)) = true then (J5 true) else (if (decide (a0_a.Kind = 5)) = true then (if (decide (0 ≤ a0_a.N)) = true then (J5 (decide (a0_a.N ≤ 999))) else (J5 false)) else (J5 false))) else (if (decide (a0_a.Kind = 5)) = true then (if (decide (0 ≤ a0_a.N)) = true then (J5 (decide (a0_a.N ≤ 999))) else (J5 false)) else (J5 false))) ∧ (if (decide (a0_a.Kind = 4)) = true then (if (decide (a0_a.N = 0)) = true then (J5 true) else (if (decide (a0_a.Kind = 5)) = true then (if (decide (0 ≤ a0_a.N)) = true then (J5 (decide (a0_a.N ≤ 999))) else (J5 false)) else (J5 false))) else (if (decide (a0_a.Kind = 5)) = true then (if (decide (0 ≤ a0_a.N)) = true then (J5 (decide (a0_a.N ≤ 999))) else (J5 false)) else (J5 false)))))) (fun v6 => KK v6))))
def F_rFlo (a0_n : Int) (KK : (List UInt8) → Prop) : Prop :=
  loopP (α := Int × List UInt8 × Int) (fun R23 v24 => if (decide (v24.2.2 < 16)) = true then ((16 : Int) ≠ 0 ∧ joinP (α := UInt8) (fun J27 => if (decide ((((UInt8.ofNat (IntKind.u8.wrap (Int.tmod v24.1 16)).toNat).toNat : Nat) : Int) < (((10 : UInt8).toNat : Nat) : Int))) = true then (J27 (UInt8.ofNat (IntKind.u8.wrap ((((UInt8.ofNat (IntKind.u8.wrap (Int.tmod v24.1 16)).toNat).toNat : Nat) : Int) + (((48 : UInt8).toNat : Nat) : Int))).toNat)) else (J27 (UInt8.ofNat (IntKind.u8.wrap ((((UInt8.ofNat (IntKind.u8.wrap (Int.tmod v24.1 16)).toNat).toNat : Nat) : Int) + (((87 : UInt8).toNat : Nat) : Int))).toNat))) (fun v28 => (([v28] : List UInt8).length + v24.2.1.length ≤ 4611686018427387904 ∧ (([v28] : List UInt8).length + v24.2.1.length) * 1 ≤ 140737488355328) ∧ (16 : Int) ≠ 0 ∧ R23 ((IntKind.u64.wrap (Int.tdiv v24.1 16)), (([v28] : List UInt8) ++ v24.2.1), (IntKind.i64.wrap (v24.2.2 + 1))))) else ([48, 102].length + v24.2.1.length ≤ 4611686018427387904 ∧ KK ([48, 102] ++ v24.2.1))) ((IntKind.u64.wrap (Lt.rPlain a0_n)), [], 0)
def F_rOf (a0_op : Int) (KK : (Lt.RForm × Bool) → Prop) : Prop :=
  joinP (α := Bool) (fun J3 => if (decide (a0_op < 1)) = true then (J3 true) else (J3 (decide (34 < a0_op)))) (fun v4 => if v4 = true then (KK ((Lt.RForm.mk ([] : List UInt8) false false 0 0), false)) else (joinP (α := Lt.RForm) (fun J5 => ((0 : Int) ≤ a0_op ∧ a0_op < ((35 : Nat) : Int)) ∧ a0_op.toNat < gw.length ∧ if (!decide (a0_op = 27)) = true then (if (!decide (a0_op = 30)) = true then (if (!decide (a0_op = 33)) = true then (if (decide (a0_op = 25)) = true then (J5 (Lt.RForm.mk (gw.getD a0_op.toNat default) (!decide (a0_op = 34)) true 0 0)) else (if (decide (a0_op = 26)) = true then (J5 (Lt.RForm.mk (gw.getD a0_op.toNat default) (!decide (a0_op = 34)) true 0 0)) else (if (decide (a0_op = 27)) = true then (J5 (Lt.RForm.mk (gw.getD a0_op.toNat default) (!decide (a0_op = 34)) true 0 0)) else (if (decide (29 ≤ a0_op)) = true then (J5 (Lt.RForm.mk (gw.getD a0_op.toNat default) (!decide (a0_op = 34)) (decide (a0_op ≤ 32)) 0 0)) else (J5 (Lt.RForm.mk (gw.getD a0_op.toNat default) (!decide (a0_op = 34)) false 0 0)))))) else (if (decide (a0_op = 25)) = true then (J5 (Lt.RForm.mk (gw.getD a0_op.toNat default) false true 0 0)) else (if (decide (a0_op = 26)) = true then (J5 (Lt.RForm.mk (gw.getD a0_op.toNat default) false true 0 0)) else (if (decide (a0_op = 27)) = true then (J5 (Lt.RForm.mk (gw.getD a0_op.toNat default) false true 0 0)) else (if (decide (29 ≤ a0_op)) = true then (J5 (Lt.RForm.mk (gw.getD a0_op.toNat default) false (decide (a0_op ≤ 32)) 0 0)) else (J5 (Lt.RForm.mk (gw.getD a0_op.toNat default) false false 0 0))))))) else (if (decide (a0_op = 25)) = true then (J5 (Lt.RForm.mk (gw.getD a0_op.toNat default) false true 0 0)) else (if (decide (a0_op = 26)) = true then (J5 (Lt.RForm.mk (gw.getD a0_op.toNat default) false true 0 0)) else (if (decide (a0_op = 27)) = true then (J5 (Lt.RForm.mk (gw.getD a0_op.toNat default) false true 0 0)) else (if (decide (29 ≤ a0_op)) = true then (J5 (Lt.RForm.mk (gw.getD a0_op.toNat default) false (decide (a0_op ≤ 32)) 0 0)) else (J5 (Lt.RForm.mk (gw.getD a0_op.toNat default) false false 0 0))))))) else (if (decide (a0_op = 25)) = true then (J5 (Lt.RForm.mk (gw.getD a0_op.toNat default) false true 0 0)) else (if (decide (a0_op = 26)) = true then (J5 (Lt.RForm.mk (gw.getD a0_op.toNat default) false true 0 0)) else (if (decide (a0_op = 27)) = true then (J5 (Lt.RForm.mk (gw.getD a0_op.toNat default) false true 0 0)) else (if (decide (29 ≤ a0_op)) = true then (J5 (Lt.RForm.mk (gw.getD a0_op.toNat default) false (decide (a0_op ≤ 32)) 0 0)) else (J5 (Lt.RForm.mk (gw.getD a0_op.toNat default) false false 0 0))))))) (fun v6 => joinP (α := Lt.RForm) (fun J13 => joinP (α := Bool) (fun J15 => if (decide (a0_op = 22)) = true then (J15 (decide (a0_op = 22))) else (if (decide (a0_op = 23)) = true then (J15 (decide (a0_op = 23))) else (if (decide (a0_op = 24)) = true then (J15 (decide (a0_op = 24))) else (if (decide (a0_op = 26)) = true then (J15 (decide (a0_op = 26))) else (if (decide (a0_op = 30)) = true then (J15 (decide (a0_op = 30))) else (J15 (decide (a0_op = 33)))))))) (fun v16 => if v16 = true then (J13 (Lt.RForm.mk v6.Word v6.Dst v6.Named 1 1)) else (joinP (α := Bool) (fun J17 => if (decide (a0_op = 25)) = true then (J17 (decide (a0_op = 25))) else (if (decide (a0_op = 31)) = true then (J17 (decide (a0_op = 31))) else (J17 (decide (a0_op = 32))))) (fun v18 => if v18 = true then (J13 (Lt.RForm.mk v6.Word v6.Dst v6.Named v6.Least 8)) else (joinP (α := Bool) (fun J19 => if (decide (a0_op = 29)) = true then (J19 (decide (a0_op = 29))) else (J19 (decide (a0_op = 34)))) (fun v20 => if v20 = true then (J13 (Lt.RForm.mk v6.Word v6.Dst v6.Named v6.Least 0)) else (J13 (Lt.RForm.mk v6.Word v6.Dst v6.Named 2 2)))))))) (fun v14 => KK (v14, true)))))
def F_rArgs (a0_l : List (List UInt8)) (a1_a : List Lt.Arg) (KK : (List (List UInt8)) → Prop) : Prop :=
  loopP (α := List (List UInt8) × Int) (fun R3 v4 => (a1_a.length ≤ 4611686018427387904 → if (decide (v4.2 < (a1_a.length : Int))) = true then (((0 : Int) ≤ v4.2 ∧ v4.2.toNat < a1_a.length) ∧ (Lt.prePut (a1_a.getD v4.2.toNat default)) ∧ (v4.1.length + ([(Lt.rWord (a1_a.getD v4.2.toNat default))] : List (List UInt8)).length ≤ 4611686018427387904 ∧ (v4.1.length + ([(Lt.rWord (a1_a.getD v4.2.toNat default))] : List (List UInt8)).length) * 16 ≤ 140737488355328) ∧ R3 ((v4.1 ++ ([(Lt.rWord (a1_a.getD v4.2.toNat default))] : List (List UInt8))), (IntKind.i64.wrap (v4.2 + 1)))) else (KK v4.1))) (a0_l, 0)
def F_countInstr (a0_x : Lt.Instr) (a1_most : Int) (KK : Int → Prop) : Prop :=
  joinP (α := Bool) (fun J3 => (a0_x.Frames.length ≤ 4611686018427387904 → if (decide (a1_most < (a0_x.Frames.length : Int))) = true then (J3 true) else (J3 (decide (a1_most < (a0_x.Objs.length : Int)))))) (fun v4 => if v4 = true then (KK (IntKind.i64.wrap (a1_most + 1))) else ((a0_x.Dst.length ≤ 4611686018427387904 → (a0_x.Frames.length ≤ 4611686018427387904 → (a0_x.Objs.length ≤ 4611686018427387904 → joinP (α := Int) (fun J5 => if (decide ((IntKind.i64.wrap ((IntKind.i64.wrap ((IntKind.i64.wrap (1 + (a0_x.Dst.length : Int))) + (a0_x.Frames.length : Int))) + (a0_x.Objs.length : Int))) ≤ a1_most)) = true then ((a0_x.Name.length ≤ 4611686018427387904 → J5 (IntKind.i64.wrap ((IntKind.i64.wrap ((IntKind.i64.wrap ((IntKind.i64.wrap (1 + (a0_x.Dst.length : Int))) + (a0_x.Frames.length : Int))) + (a0_x.Objs.length : Int))) + (a0_x.Name.length : Int))))) else (J5 (IntKind.i64.wrap ((IntKind.i64.wrap ((IntKind.i64.wrap (1 + (a0_x.Dst.length : Int))) + (a0_x.Frames.length : Int))) + (a0_x.Objs.length : Int))))) (fun v6 => joinP (α := Int) (fun J7 => if (decide (v6 ≤ a1_most)) = true then (J7 (IntKind.i64.wrap (v6 + (Lt.countArgs a0_x.Args a1_most)))) else (J7 v6)) (fun v8 => loopP (α := Int × Int) (fun R251 v252 => joinP (α := Bool) (fun J255 => (a0_x.Frames.length ≤ 4611686018427387904 → if (decide (v252.2 < (a0_x.Frames.length : Int))) = true then (J255 (decide (v252.1 ≤ a1_most))) else (J255 false))) (fun v256 => if v256 = true then (((0 : Int) ≤ v252.2 ∧ v252.2.toNat < a0_x.Frames.length) ∧ (((a0_x.Frames.getD v252.2.toNat default).Func).length ≤ 4611686018427387904 → joinP (α := Int) (fun J279 => if (decide ((IntKind.i64.wrap (v252.1 + (((a0_x.Frames.getD v252.2.toNat default).Func).length : Int))) ≤ a1_most)) = true then (((0 : Int) ≤ v252.2 ∧ v252.2.toNat < a0_x.Frames.length) ∧ (((a0_x.Frames.getD v252.2.toNat default).Block).length ≤ 4611686018427387904 → J279 (IntKind.i64.wrap ((IntKind.i64.wrap (v252.1 + (((a0_x.Frames.getD v252.2.toNat default).Func).length : Int))) + (((a0_x.Frames.getD v252.2.toNat default).Block).length : Int))))) else (J279 (IntKind.i64.wrap (v252.1 + (((a0_x.Frames.getD v252.2.toNat default).Func).length : Int))))) (fun v280 => loopP (α := Int × Int) (fun R293 v294 => joinP (α := Bool) (fun J297 => ((0 : Int) ≤ v252.2 ∧ v252.2.toNat < a0_x.Frames.length) ∧ (((a0_x.Frames.getD v252.2.toNat default).Vars).length ≤ 4611686018427387904 → if (decide (v294.2 < (((a0_x.Frames.getD v252.2.toNat default).Vars).length : Int))) = true then (J297 (decide (v294.1 ≤ a1_most))) else (J297 false))) (fun v298 => if v298 = true then (joinP (α := Int) (fun J299 => ((0 : Int) ≤ v252.2 ∧ v252.2.toNat < a0_x.Frames.length) ∧ ((0 : Int) ≤ v294.2 ∧ v294.2.toNat < ((a0_x.Frames.getD v252.2.toNat default).Vars).length) ∧ (((((a0_x.Frames.getD v252.2.toNat default).Vars).getD v294.2.toNat default).Name).length ≤ 4611686018427387904 → if (decide ((IntKind.i64.wrap ((IntKind.i64.wrap (v294.1 + 1)) + (((((a0_x.Frames.getD v252.2.toNat default).Vars).getD v294.2.toNat default).Name).length : Int))) ≤ a1_most)) = true then (((0 : Int) ≤ v252.2 ∧ v252.2.toNat < a0_x.Frames.length) ∧ ((0 : Int) ≤ v294.2 ∧ v294.2.toNat < ((a0_x.Frames.getD v252.2.toNat default).Vars).length) ∧ ((((((a0_x.Frames.getD v252.2.toNat default).Vars).getD v294.2.toNat default).A).S).length ≤ 4611686018427387904 → J299 (IntKind.i64.wrap ((IntKind.i64.wrap ((IntKind.i64.wrap (v294.1 + 1)) + (((((a0_x.Frames.getD v252.2.toNat default).Vars).getD v294.2.toNat default).Name).length : Int))) + ((((((a0_x.Frames.getD v252.2.toNat default).Vars).getD v294.2.toNat default).A).S).length : Int))))) else (J299 (IntKind.i64.wrap ((IntKind.i64.wrap (v294.1 + 1)) + (((((a0_x.Frames.getD v252.2.toNat default).Vars).getD v294.2.toNat default).Name).length : Int)))))) (fun v300 => R293 (v300, (IntKind.i64.wrap (v294.2 + 1))))) else (R251 (v294.1, (IntKind.i64.wrap (v252.2 + 1)))))) (v280, 0)))) else (loopP (α := Int × Int) (fun R333 v334 => joinP (α := Bool) (fun J337 => (a0_x.Objs.length ≤ 4611686018427387904 → if (decide (v334.2 < (a0_x.Objs.length : Int))) = true then (J337 (decide (v334.1 ≤ a1_most))) else (J337 false))) (fun v338 => if v338 = true then (joinP (α := Int) (fun J339 => ((0 : Int) ≤ v334.2 ∧ v334.2.toNat < a0_x.Objs.length) ∧ (((a0_x.Objs.getD v334.2.toNat default).Class).length ≤ 4611686018427387904 → if (decide ((IntKind.i64.wrap (v334.1 + (((a0_x.Objs.getD v334.2.toNat default).Class).length : Int))) ≤ a1_most)) = true then (((0 : Int) ≤ v334.2 ∧ v334.2.toNat < a0_x.Objs.length) ∧ J339 (IntKind.i64.wrap ((IntKind.i64.wrap (v334.1 + (((a0_x.Objs.getD v334.2.toNat default).Class).length : Int))) + (Lt.countArgs ((a0_x.Objs.getD v334.2.toNat default).Vals) a1_most)))) else (J339 (IntKind.i64.wrap (v334.1 + (((a0_x.Objs.getD v334.2.toNat default).Class).length : Int)))))) (fun v340 => R333 (v340, (IntKind.i64.wrap (v334.2 + 1))))) else (KK v334.1))) (v252.1, 0)))) (v8, 0))))))))
def F_wordRight (a0_a : Lt.Arg) (KK : Bool → Prop) : Prop :=
  if (decide (a0_a.Kind = 1)) = true then (if (Lt.Name a0_a.S) = true then (KK (decide (a0_a.N = 0))) else (KK false)) else (if (decide (a0_a.Kind = 2)) = true then (KK (decide (a0_a.S = ([] : List UInt8)))) else (if (decide (a0_a.Kind = 3)) = true then (joinP (α := Bool) (fun J5 => if (decide (a0_a.S = ([] : List UInt8))) = true then ((J5 (decide ((Lt.Plain a0_a.N) = a0_a.N))) ∧ (J5 (decide ((Lt.Plain a0_a.N) = a0_a.N)))) else ((J5 false) ∧ (J5 false))) (fun v6 => KK v6)) else (if (decide (a0_a.Kind = 4)) = true then (if (decide (a0_a.S = ([] : List UInt8))) = true then (KK (decide (a0_a.N = 0))) else (KK false)) else (if (decide (a0_a.Kind = 5)) = true then (joinP (α := Bool) (fun J7 => if (decide (a0_a.S = ([] : List UInt8))) = true then (if (decide (0 ≤ a0_a.N)) = true then (J7 (decide (a0_a.N ≤ 999))) else (J7 false)) else (J7 false)) (fun v8 => KK v8)) else (KK false)))))
def F_floPut (a0_n : Int) (KK : (List UInt8) → Prop) : Prop :=
  loopP (α := List UInt8 × Int) (fun R3 v4 => if (decide (0 ≤ v4.2)) = true then ((0 : Int) ≤ (IntKind.u64.wrap v4.2) ∧ ((0 : Int) ≤ (IntKind.u64.wrap ((BitVec.ofInt IntKind.u64.bits (Int.fdiv (IntKind.u64.wrap (Lt.Plain a0_n)) (2 ^ (min (IntKind.u64.wrap v4.2).toNat IntKind.u64.bits))) &&& BitVec.ofInt IntKind.u64.bits 15).toNat : Nat)) ∧ (IntKind.u64.wrap ((BitVec.ofInt IntKind.u64.bits (Int.fdiv (IntKind.u64.wrap (Lt.Plain a0_n)) (2 ^ (min (IntKind.u64.wrap v4.2).toNat IntKind.u64.bits))) &&& BitVec.ofInt IntKind.u64.bits 15).toNat : Nat)).toNat < ([48, 49, 50, 51, 52, 53, 54, 55, 56, 57, 97, 98, 99, 100, 101, 102] : List UInt8).length) ∧ (v4.1.length + ([(([48, 49, 50, 51, 52, 53, 54, 55, 56, 57, 97, 98, 99, 100, 101, 102] : List UInt8).getD (IntKind.u64.wrap ((BitVec.ofInt IntKind.u64.bits (Int.fdiv (IntKind.u64.wrap (Lt.Plain a0_n)) (2 ^ (min (IntKind.u64.wrap v4.2).toNat IntKind.u64.bits))) &&& BitVec.ofInt IntKind.u64.bits 15).toNat : Nat)).toNat 0)] : List UInt8).length ≤ 4611686018427387904 ∧ (v4.1.length + ([(([48, 49, 50, 51, 52, 53, 54, 55, 56, 57, 97, 98, 99, 100, 101, 102] : List UInt8).getD (IntKind.u64.wrap ((BitVec.ofInt IntKind.u64.bits (Int.fdiv (IntKind.u64.wrap (Lt.Plain a0_n)) (2 ^ (min (IntKind.u64.wrap v4.2).toNat IntKind.u64.bits))) &&& BitVec.ofInt IntKind.u64.bits 15).toNat : Nat)).toNat 0)] : List UInt8).length) * 1 ≤ 140737488355328) ∧ R3 ((v4.1 ++ ([(([48, 49, 50, 51, 52, 53, 54, 55, 56, 57, 97, 98, 99, 100, 101, 102] : List UInt8).getD (IntKind.u64.wrap ((BitVec.ofInt IntKind.u64.bits (Int.fdiv (IntKind.u64.wrap (Lt.Plain a0_n)) (2 ^ (min (IntKind.u64.wrap v4.2).toNat IntKind.u64.bits))) &&& BitVec.ofInt IntKind.u64.bits 15).toNat : Nat)).toNat 0)] : List UInt8)), (IntKind.i64.wrap (v4.2 - 4)))) else (KK v4.1)) ([(48 : UInt8), (102 : UInt8)], 60)
def F_Of (a0_op : Int) (KK : (Lt.Form × Bool) → Prop) : Prop :=
  joinP (α := Bool) (fun J5 => if (decide (1 ≤ a0_op)) = true then (J5 (decide (a0_op ≤ 21))) else (J5 false)) (fun v6 => if v6 = true then (KK ((Lt.Form.mk (Lt.nth (32 :: 97 :: 100 :: 100 :: 32 :: 115 :: 117 :: 98 :: 32 :: 109 :: 117 :: 108 :: 32 :: 100 :: 105 :: 118 :: 32 :: 114 :: 101 :: 109 :: 32 :: 97 :: 110 :: 100 :: 32 :: 111 :: 114 :: 32 :: 120 :: 111 :: 114 :: 32 :: 115 :: 104 :: 108 :: 32 :: 115 :: 104 :: 114 :: 32 :: 101 :: 113 :: 32 :: 110 :: 101 :: 32 :: 108 :: 116 :: 32 :: 108 :: 101 :: 32 :: 102 :: 97 :: 100 :: 100 :: 32 :: 102 :: 115 :: 117 :: 98 :: 32 :: 102 :: 109 :: 117 :: 108 :: 32 :: 102 :: 100 :: 105 :: 118 :: 32 :: 102 :: 101 :: 113 :: 32 :: 102 :: 108 :: 116 :: 32 :: 102 :: 108 :: 101 :: 32 :: ([] : List UInt8)) a0_op) true false 2 2), true)) else (joinP (α := Bool) (fun J7 => if (decide (22 ≤ a0_op)) = true then (J7 (decide (a0_op ≤ 24))) else (J7 false)) (fun v8 => if v8 = true then (KK ((Lt.Form.mk (Lt.nth [32, 105, 116, 111, 102, 32, 102, 116, 111, 105, 32, 109, 111, 118, 32] (IntKind.i64.wrap (a0_op - 21))) true false 1 1), true)) else (if (decide (a0_op = 25)) = true then (KK ((Lt.Form.mk [110, 101, 119] true true 0 8), true)) else (if (decide (a0_op = 26)) = true then (KK ((Lt.Form.mk [108, 111, 97, 100] true true 1 1), true)) else (if (decide (a0_op = 27)) = true then (KK ((Lt.Form.mk [115, 116, 111, 114, 101] false true 2 2), true)) else (if (decide (a0_op = 28)) = true then (KK ((Lt.Form.mk [115, 97, 109, 101] true false 2 2), true)) else (if (decide (a0_op = 29)) = true then (KK ((Lt.Form.mk [103, 108, 111, 97, 100] true true 0 0), true)) else (if (decide (a0_op = 30)) = true then (KK ((Lt.Form.mk [103, 115, 116, 111, 114, 101] false true 1 1), true)) else (if (decide (a0_op = 31)) = true then (KK ((Lt.Form.mk [99, 97, 108, 108] true true 0 8), true)) else (if (decide (a0_op = 32)) = true then (KK ((Lt.Form.mk [101, 120, 116] true true 0 8), true)) else (if (decide (a0_op = 33)) = true then (KK ((Lt.Form.mk [111, 117, 116] false false 1 1), true)) else (if (decide (a0_op = 34)) = true then (KK ((Lt.Form.mk [103, 117, 97, 114, 100] false false 0 0), true)) else (KK ((Lt.Form.mk ([] : List UInt8) false false 0 0), false)))))))))))))))
def F_puts (a0_l : List Lt.Arg) (KK : (List (List UInt8)) → Prop) : Prop :=
  (a0_l.length ≤ 4611686018427387904 → loopP (α := List (List UInt8) × Int) (fun R3 v4 => if (decide (v4.2 < (a0_l.length : Int))) = true then (((0 : Int) ≤ v4.2 ∧ v4.2.toNat < a0_l.length) ∧ (Lt.prePut (a0_l.getD v4.2.toNat default)) ∧ (v4.1.length + ([(Lt.wordPut (a0_l.getD v4.2.toNat default))] : List (List UInt8)).length ≤ 4611686018427387904 ∧ (v4.1.length + ([(Lt.wordPut (a0_l.getD v4.2.toNat default))] : List (List UInt8)).length) * 16 ≤ 140737488355328) ∧ R3 ((v4.1 ++ ([(Lt.wordPut (a0_l.getD v4.2.toNat default))] : List (List UInt8))), (IntKind.i64.wrap (v4.2 + 1)))) else (KK v4.1)) ([], 0))
def F_sameVars (a0_a : List Lt.Var) (a1_b : List Lt.Var) (KK : Bool → Prop) : Prop :=
  (a0_a.length ≤ 4611686018427387904 → (a1_b.length ≤ 4611686018427387904 → if (!decide ((a0_a.length : Int) = (a1_b.length : Int))) = true then (KK false) else (loopP (α := Int) (fun R3 v4 => (a0_a.length ≤ 4611686018427387904 → if (decide (v4 < (a0_a.length : Int))) = true then (((0 : Int) ≤ v4 ∧ v4.toNat < a0_a.length) ∧ ((0 : Int) ≤ v4 ∧ v4.toNat < a1_b.length) ∧ if (!(decide ((a0_a.getD v4.toNat default).Name = (a1_b.getD v4.toNat default).Name) && decide ((a0_a.getD v4.toNat default).Type_ = (a1_b.getD v4.toNat default).Type_))) = true then (KK false) else (R3 (IntKind.i64.wrap (v4 + 1)))) else (KK true))) 0)))
def F_SameFunc (a0_a : Lt.Func) (a1_b : Lt.Func) (KK : Bool → Prop) : Prop :=
  joinP (α := Bool) (fun J3 => if (!decide (a0_a.Name = a1_b.Name)) = true then (J3 true) else (if (!decide (a0_a.Result = a1_b.Result)) = true then (J3 true) else (if (!(Lt.sameVars a0_a.Params a1_b.Params)) = true then (J3 true) else (if (!(Lt.sameVars a0_a.Vars a1_b.Vars)) = true then (J3 true) else (J3 (!decide ((a0_a.Blocks.length : Int) = (a1_b.Blocks.length : Int)))))))) (fun v4 => if v4 = true then (KK false) else (loopP (α := Int) (fun R7 v8 => (a0_a.Blocks.length ≤ 4611686018427387904 → if (decide (v8 < (a0_a.Blocks.length : Int))) = true then (((0 : Int) ≤ v8 ∧ v8.toNat < a0_a.Blocks.length) ∧ ((0 : Int) ≤ v8 ∧ v8.toNat < a1_b.Blocks.length) ∧ if (!(Lt.sameBlock (Lt.Block.mk ((a0_a.Blocks.getD v8.toNat default).Name) ((a0_a.Blocks.getD v8.toNat default).Phis) ((a0_a.Blocks.getD v8.toNat default).Code) (Lt.Term.mk (((a0_a.Blocks.getD v8.toNat default).End).Kind) (((a0_a.Blocks.getD v8.toNat default).End).A) (((a0_a.Blocks.getD v8.toNat default).End).To) (((a0_a.Blocks.getD v8.toNat default).End).N))) (Lt.Block.mk ((a1_b.Blocks.getD v8.toNat default).Name) ((a1_b.Blocks.getD v8.toNat default).Phis) ((a1_b.Blocks.getD v8.toNat default).Code) (Lt.Term.mk (((a1_b.Blocks.getD v8.toNat default).End).Kind) (((a1_b.Blocks.getD v8.toNat default).End).A) (((a1_b.Blocks.getD v8.toNat default).End).To) (((a1_b.Blocks.getD v8.toNat default).End).N))))) = true then (KK false) else (R7 (IntKind.i64.wrap (v8 + 1)))) else (KK true))) 0))
def F_showEnd (a0_t : Lt.Term) (KK : Bool → Prop) : Prop :=
  (a0_t.To.length ≤ 4611686018427387904 → loopP (α := Int) (fun R3 v4 => if (decide (v4 < (a0_t.To.length : Int))) = true then (((0 : Int) ≤ v4 ∧ v4.toNat < a0_t.To.length) ∧ if (!(Lt.Name (a0_t.To.getD v4.toNat default))) = true then (KK false) else (R3 (IntKind.i64.wrap (v4 + 1)))) else (if (decide (a0_t.Kind = 1)) = true then (joinP (α := Bool) (fun J11 => if (decide (a0_t.A.Kind = 0) && (decide (a0_t.A.S = ([] : List UInt8)) && decide (a0_t.A.N = 0))) = true then (if (decide ((a0_t.To.length : Int) = 1)) = true then (J11 (decide (a0_t.N = 0))) else (J11 false)) else (J11 false)) (fun v12 => KK v12)) else (if (decide (a0_t.Kind = 2)) = true then (joinP (α := Bool) (fun J13 => if (Lt.showArgs [a0_t.A] false) = true then (if (decide ((a0_t.To.length : Int) = 2)) = true then (J13 (decide (a0_t.N = 0))) else (J13 false)) else (J13 false)) (fun v14 => KK v14)) else (if (decide (a0_t.Kind = 3)) = true then (joinP (α := Bool) (fun J15 => if (Lt.showArgs [a0_t.A] false) = true then (if (decide ((a0_t.To.length : Int) = 0)) = true then (J15 (decide (a0_t.N = 0))) else (J15 false)) else (J15 false)) (fun v16 => KK v16)) else (if (decide (a0_t.Kind = 4)) = true then (if (decide (a0_t.A.Kind = 0) && (decide (a0_t.A.S = ([] : List UInt8)) && decide (a0_t.A.N = 0))) = true then (KK (decide ((a0_t.To.length : Int) = 0))) else (KK false)) else (KK false)))))) 0)
def F_phi (a0_x : Lt.Phi) (KK : Bool → Prop) : Prop :=
  joinP (α := Bool) (fun J3 => if (!(Lt.Name a0_x.Dst)) = true then (J3 true) else (if (decide ((a0_x.Ins.length : Int) = 0)) = true then (J3 true) else (J3 (decide (256 < (a0_x.Ins.length : Int)))))) (fun v4 => if v4 = true then (KK false) else ((a0_x.Ins.length ≤ 4611686018427387904 → loopP (α := Int) (fun R27 v28 => if (decide (v28 < (a0_x.Ins.length : Int))) = true then (((0 : Int) ≤ v28 ∧ v28.toNat < a0_x.Ins.length) ∧ joinP (α := Bool) (fun J31 => if (!(Lt.Name ((a0_x.Ins.getD v28.toNat default).Block))) = true then (J31 true) else (J31 (!(Lt.showArgs [((a0_x.Ins.getD v28.toNat default).A)] false)))) (fun v32 => if v32 = true then (KK false) else (R27 (IntKind.i64.wrap (v28 + 1))))) else (KK true)) 0)))
def F_instr (a0_i : Lt.Instr) (KK : Bool → Prop) : Prop :=
  joinP (α := Bool) (fun J3 => if (!((Lt.Of a0_i.Op).2)) = true then (J3 true) else (if (!(((Lt.Of a0_i.Op).1).Dst == (!decide (a0_i.Dst = ([] : List UInt8))))) = true then (J3 true) else (if (!(((Lt.Of a0_i.Op).1).Named == (!decide (a0_i.Name = ([] : List UInt8))))) = true then (J3 true) else (if (((Lt.Of a0_i.Op).1).Dst) = true then (if (!(Lt.Name a0_i.Dst)) = true then (J3 true) else (if (((Lt.Of a0_i.Op).1).Named) = true then (J3 (!(Lt.Name a0_i.Name))) else (J3 false))) else (if (((Lt.Of a0_i.Op).1).Named) = true then (J3 (!(Lt.Name a0_i.Name))) else (J3 false)))))) (fun v4 => if v4 = true then (KK false) else (joinP (α := Bool) (fun J7 => (a0_i.Args.length ≤ 4611686018427387904 → if (decide ((a0_i.Args.length : Int) < ((Lt.Of a0_i.Op).1).Least)) = true then (J7 true) else (if (decide (((Lt.Of a0_i.Op).1).Most < (a0_i.Args.length : Int))) = true then (J7 true) else (if (!(Lt.showArgs a0_i.Args false)) = true then (J7 true) else (if (decide (16 < (a0_i.Frames.length : Int))) = true then (J7 true) else (J7 (decide (99 < (a0_i.Objs.length : Int))))))))) (fun v8 => if v8 = true then (KK false) else (joinP (α := Bool) (fun J11 => if (!decide (a0_i.Op = 31)) = true then (J11 (!decide (a0_i.Op = 34))) else (J11 false)) (fun v12 => if v12 = true then ((a0_i.Frames.length ≤ 4611686018427387904 → if (decide ((a0_i.Frames.length : Int) = 0)) = true then (KK (decide ((a0_i.Objs.length : Int) = 0))) else (KK false))) else ((a0_i.Frames.length ≤ 4611686018427387904 → loopP (α := Int) (fun R15 v16 => if (decide (v16 < (a0_i.Frames.length : Int))) = true then (((0 : Int) ≤ v16 ∧ v16.toNat < a0_i.Frames.length) ∧ if (!(Lt.frame (a0_i.Frames.getD v16.toNat default))) = true then (KK false) else (R15 (IntKind.i64.wrap (v16 + 1)))) else ((a0_i.Objs.length ≤ 4611686018427387904 → loopP (α := Int) (fun R39 v40 => if (decide (v40 < (a0_i.Objs.length : Int))) = true then (((0 : Int) ≤ v40 ∧ v40.toNat < a0_i.Objs.length) ∧ joinP (α := Bool) (fun J43 => if (!(Lt.Name ((a0_i.Objs.getD v40.toNat default).Class))) = true then (J43 true) else (if (decide (8 < (((a0_i.Objs.getD v40.toNat default).Vals).length : Int))) = true then (J43 true) else (J43 (!(Lt.showArgs ((a0_i.Objs.getD v40.toNat default).Vals) true))))) (fun v44 => if v44 = true then (KK false) else (R39 (IntKind.i64.wrap (v40 + 1))))) else (KK true)) 0))) 0)))))))
def F_rName (a0_s : List UInt8) (KK : Bool → Prop) : Prop :=
  loopP (α := Int) (fun R43 v44 => (a0_s.length ≤ 4611686018427387904 → if (decide (v44 < (a0_s.length : Int))) = true then (((0 : Int) ≤ v44 ∧ v44.toNat < a0_s.length) ∧ joinP (α := Bool) (fun J49 => if (decide ((((48 : UInt8).toNat : Nat) : Int) ≤ (((a0_s.getD v44.toNat 0).toNat : Nat) : Int))) = true then (J49 (decide ((((a0_s.getD v44.toNat 0).toNat : Nat) : Int) ≤ (((57 : UInt8).toNat : Nat) : Int)))) else (J49 false)) (fun v50 => joinP (α := Bool) (fun J51 => if v50 = true then (if (!(decide (0 < v44))) = true then (if (!decide ((((a0_s.getD v44.toNat 0).toNat : Nat) : Int) = (((95 : UInt8).toNat : Nat) : Int))) = true then (if (decide ((((a0_s.getD v44.toNat 0).toNat : Nat) : Int) < (((65 : UInt8).toNat : Nat) : Int))) = true then (if (decide ((((a0_s.getD v44.toNat 0).toNat : Nat) : Int) < (((97 : UInt8).toNat : Nat) : Int))) = true then (J51 true) else (J51 (decide ((((122 : UInt8).toNat : Nat) : Int) < (((a0_s.getD v44.toNat 0).toNat : Nat) : Int))))) else (if (decide ((((90 : UInt8).toNat : Nat) : Int) < (((a0_s.getD v44.toNat 0).toNat : Nat) : Int))) = true then (if (decide ((((a0_s.getD v44.toNat 0).toNat : Nat) : Int) < (((97 : UInt8).toNat : Nat) : Int))) = true then (J51 true) else (J51 (decide ((((122 : UInt8).toNat : Nat) : Int) < (((a0_s.getD v44.toNat 0).toNat : Nat) : Int))))) else (J51 false))) else (J51 false)) else (J51 false)) else (if (!false) = true then (if (!decide ((((a0_s.getD v44.toNat 0).toNat : Nat) : Int) = (((95 : UInt8).toNat : Nat) : Int))) = true then (if (decide ((((a0_s.getD v44.toNat 0).toNat : Nat) : Int) < (((65 : UInt8).toNat : Nat) : Int))) = true then (if (decide ((((a0_s.getD v44.toNat 0).toNat : Nat) : Int) < (((97 : UInt8).toNat : Nat) : Int))) = true then (J51 true) else (J51 (decide ((((122 : UInt8).toNat : Nat) : Int) < (((a0_s.getD v44.toNat 0).toNat : Nat) : Int))))) else (if (decide ((((90 : UInt8).toNat : Nat) : Int) < (((a0_s.getD v44.toNat 0).toNat : Nat) : Int))) = true then (if (decide ((((a0_s.getD v44.toNat 0).toNat : Nat) : Int) < (((97 : UInt8).toNat : Nat) : Int))) = true then (J51 true) else (J51 (decide ((((122 : UInt8).toNat : Nat) : Int) < (((a0_s.getD v44.toNat 0).toNat : Nat) : Int))))) else (J51 false))) else (J51 false)) else (J51 false))) (fun v52 => if v52 = true then (KK false) else (R43 (IntKind.i64.wrap (v44 + 1)))))) else (joinP (α := Bool) (fun J53 => (a0_s.length ≤ 4611686018427387904 → if (decide (1 ≤ (a0_s.length : Int))) = true then (if (decide ((a0_s.length : Int) ≤ 16)) = true then (if (!decide (a0_s = [110, 117, 108, 108])) = true then (if (!decide (a0_s = [105, 110, 116])) = true then (J53 (!decide (a0_s = [102, 108, 111, 97, 116]))) else (J53 false)) else (J53 false)) else (J53 false)) else (J53 false))) (fun v54 => KK v54)))) 0
def F_rPlain (a0_n : Int) (KK : Int → Prop) : Prop :=
  if (Lt.rIsNan a0_n) = true then (KK 9221120237041090560) else (KK a0_n)
def F_countArgs (a0_l : List Lt.Arg) (a1_most : Int) (KK : Int → Prop) : Prop :=
  (a0_l.length ≤ 4611686018427387904 → if (decide (a1_most < (a0_l.length : Int))) = true then (KK (IntKind.i64.wrap (a1_most + 1))) else ((a0_l.length ≤ 4611686018427387904 → loopP (α := Int × Int) (fun R23 v24 => joinP (α := Bool) (fun J27 => (a0_l.length ≤ 4611686018427387904 → if (decide (v24.2 < (a0_l.length : Int))) = true then (J27 (decide (v24.1 ≤ a1_most))) else (J27 false))) (fun v28 => if v28 = true then (((0 : Int) ≤ v24.2 ∧ v24.2.toNat < a0_l.length) ∧ (((a0_l.getD v24.2.toNat default).S).length ≤ 4611686018427387904 → R23 ((IntKind.i64.wrap (v24.1 + (((a0_l.getD v24.2.toNat default).S).length : Int))), (IntKind.i64.wrap (v24.2 + 1))))) else (KK v24.1))) ((a0_l.length : Int), 0))))
def F_Plain (a0_n : Int) (KK : Int → Prop) : Prop :=
  joinP (α := Bool) (fun J3 => if (decide ((IntKind.i64.wrap ((BitVec.ofInt IntKind.i64.bits a0_n &&& BitVec.ofInt IntKind.i64.bits 9218868437227405312).toNat : Nat)) = 9218868437227405312)) = true then (J3 (!decide ((IntKind.i64.wrap ((BitVec.ofInt IntKind.i64.bits a0_n &&& BitVec.ofInt IntKind.i64.bits 4503599627370495).toNat : Nat)) = 0))) else (J3 false)) (fun v4 => if v4 = true then (KK 9221120237041090560) else (KK a0_n))
def F_nth (a0_list : List UInt8) (a1_n : Int) (KK : (List UInt8) → Prop) : Prop :=
  loopP (α := Int × Int × Int) (fun R13 v14 => (a0_list.length ≤ 4611686018427387904 → if (decide (v14.2.2 < (a0_list.length : Int))) = true then (joinP (α := Int × Int) (fun J15 => ((0 : Int) ≤ v14.2.2 ∧ v14.2.2.toNat < a0_list.length) ∧ if (!decide ((((a0_list.getD v14.2.2.toNat 0).toNat : Nat) : Int) = (((32 : UInt8).toNat : Nat) : Int))) = true then (J15 (v14.1, v14.2.1)) else (if (decide ((IntKind.i64.wrap (v14.1 - 1)) = 0)) = true then ((0 : Int) ≤ (IntKind.i64.wrap (v14.2.1 + 1)) ∧ (0 : Int) ≤ v14.2.2 ∧ ((IntKind.i64.wrap (v14.2.1 + 1)).toNat ≤ v14.2.2.toNat ∧ v14.2.2.toNat ≤ a0_list.length) ∧ KK ((a0_list.drop (IntKind.i64.wrap (v14.2.1 + 1)).toNat).take (v14.2.2.toNat - (IntKind.i64.wrap (v14.2.1 + 1)).toNat))) else (J15 ((IntKind.i64.wrap (v14.1 - 1)), v14.2.2)))) (fun v16 => R13 (v16.1, v16.2, (IntKind.i64.wrap (v14.2.2 + 1))))) else (KK ([] : List UInt8)))) (a1_n, 0, 1)
def F_sameBlock (a0_a : Lt.Block) (a1_b : Lt.Block) (KK : Bool → Prop) : Prop :=
  joinP (α := Bool) (fun J3 => if (!decide (a0_a.Name = a1_b.Name)) = true then (J3 true) else (if (!decide ((a0_a.Phis.length : Int) = (a1_b.Phis.length : Int))) = true then (J3 true) else (if (!decide ((a0_a.Code.length : Int) = (a1_b.Code.length : Int))) = true then (J3 true) else (if (!decide (a0_a.End.Kind = a1_b.End.Kind)) = true then (J3 true) else (if (!(decide (a0_a.End.A.Kind = a1_b.End.A.Kind) && (decide (a0_a.End.A.S = a1_b.End.A.S) && decide (a0_a.End.A.N = a1_b.End.A.N)))) = true then (J3 true) else (if (!decide (a0_a.End.N = a1_b.End.N)) = true then (J3 true) else (J3 (!decide ((a0_a.End.To.length : Int) = (a1_b.End.To.length : Int)))))))))) (fun v4 => if v4 = true then (KK false) else (loopP (α := Int) (fun R7 v8 => (a0_a.End.To.length ≤ 4611686018427387904 → if (decide (v8 < (a0_a.End.To.length : Int))) = true then (((0 : Int) ≤ v8 ∧ v8.toNat < a0_a.End.To.length) ∧ ((0 : Int) ≤ v8 ∧ v8.toNat < a1_b.End.To.length) ∧ if (!decide ((a0_a.End.To.getD v8.toNat default) = (a1_b.End.To.getD v8.toNat default))) = true then (KK false) else (R7 (IntKind.i64.wrap (v8 + 1)))) else (loopP (α := Int) (fun R71 v72 => (a0_a.Phis.length ≤ 4611686018427387904 → if (decide (v72 < (a0_a.Phis.length : Int))) = true then (joinP (α := Bool) (fun J81 => ((0 : Int) ≤ v72 ∧ v72.toNat < a0_a.Phis.length) ∧ ((0 : Int) ≤ v72 ∧ v72.toNat < a1_b.Phis.length) ∧ if (!decide ((a0_a.Phis.getD v72.toNat default).Dst = (a1_b.Phis.getD v72.toNat default).Dst)) = true then (J81 true) else (((0 : Int) ≤ v72 ∧ v72.toNat < a0_a.Phis.length) ∧ ((0 : Int) ≤ v72 ∧ v72.toNat < a1_b.Phis.length) ∧ J81 (!decide ((((a0_a.Phis.getD v72.toNat default).Ins).length : Int) = (((a1_b.Phis.getD v72.toNat default).Ins).length : Int))))) (fun v82 => if v82 = true then (KK false) else (loopP (α := Int) (fun R83 v84 => ((0 : Int) ≤ v72 ∧ v72.toNat < a0_a.Phis.length) ∧ (((a0_a.Phis.getD v72.toNat default).Ins).length ≤ 4611686018427387904 → if (decide (v84 < (((a0_a.Phis.getD v72.toNat default).Ins).length : Int))) = true then (((0 : Int) ≤ v72 ∧ v72.toNat < a0_a.Phis.length) ∧ ((0 : Int) ≤ v84 ∧ v84.toNat < ((a0_a.Phis.getD v72.toNat default).Ins).length) ∧ ((0 : Int) ≤ v72 ∧ v72.toNat < a1_b.Phis.length) ∧ ((0 : Int) ≤ v84 ∧ v84.toNat < ((a1_b.Phis.getD v72.toNat default).Ins).length) ∧ if (!(decide ((((a0_a.Phis.getD v72.toNat default).Ins).getD v84.toNat default).Block = (((a1_b.Phis.getD v72.toNat default).Ins).getD v84.toNat default).Block) && (decide (((((a0_a.Phis.getD v72.toNat default).Ins).getD v84.toNat default).A).Kind = ((((a1_b.Phis.getD v72.toNat default).Ins).getD v84.toNat default).A).Kind) && (decide (((((a0_a.Phis.getD v72.toNat default).Ins).getD v84.toNat default).A).S = ((((a1_b.Phis.getD v72.toNat default).Ins).getD v84.toNat default).A).S) && decide (((((a0_a.Phis.getD v72.toNat default).Ins).getD v84.toNat default).A).N = ((((a1_b.Phis.getD v72.toNat default).Ins).getD v84.toNat default).A).N))))) = true then (KK false) else (R83 (IntKind.i64.wrap (v84 + 1)))) else (R71 (IntKind.i64.wrap (v72 + 1))))) 0))) else (loopP (α := Int) (fun R87 v88 => (a0_a.Code.length ≤ 4611686018427387904 → if (decide (v88 < (a0_a.Code.length : Int))) = true then (((0 : Int) ≤ v88 ∧ v88.toNat < a0_a.Code.length) ∧ ((0 : Int) ≤ v88 ∧ v88.toNat < a1_b.Code.length) ∧ if (!(Lt.SameInstr (a0_a.Code.getD v88.toNat default) (a1_b.Code.getD v88.toNat default))) = true then (KK false) else (R87 (IntKind.i64.wrap (v88 + 1)))) else (KK true))) 0))) 0))) 0))
def F_showArgs (a0_l : List Lt.Arg) (a1_objs : Bool) (KK : Bool → Prop) : Prop :=
  (a0_l.length ≤ 4611686018427387904 → loopP (α := Int) (fun R23 v24 => if (decide (v24 < (a0_l.length : Int))) = true then (((0 : Int) ≤ v24 ∧ v24.toNat < a0_l.length) ∧ joinP (α := Bool) (fun J27 => if (!(Lt.wordRight (a0_l.getD v24.toNat default))) = true then (J27 true) else (if (decide ((a0_l.getD v24.toNat default).Kind = 5)) = true then (J27 (!a1_objs)) else (J27 false))) (fun v28 => if v28 = true then (KK false) else (R23 (IntKind.i64.wrap (v24 + 1))))) else (KK true)) 0)
def F_frame (a0_f : Lt.Frame) (KK : Bool → Prop) : Prop :=
  joinP (α := Bool) (fun J3 => if (!(Lt.Name a0_f.Func)) = true then (J3 true) else (if (!(Lt.Name a0_f.Block)) = true then (J3 true) else (if (decide (a0_f.At < 0)) = true then (J3 true) else (if (decide (1024 < a0_f.At)) = true then (J3 true) else (J3 (decide (16 < (a0_f.Vars.length : Int)))))))) (fun v4 => if v4 = true then (KK false) else ((a0_f.Vars.length ≤ 4611686018427387904 → loopP (α := Int) (fun R27 v28 => if (decide (v28 < (a0_f.Vars.length : Int))) = true then (((0 : Int) ≤ v28 ∧ v28.toNat < a0_f.Vars.length) ∧ joinP (α := Bool) (fun J31 => if (!(Lt.Name ((a0_f.Vars.getD v28.toNat default).Name))) = true then (J31 true) else (J31 (!(Lt.showArgs [((a0_f.Vars.getD v28.toNat default).A)] true)))) (fun v32 => if v32 = true then (KK false) else (R27 (IntKind.i64.wrap (v28 + 1))))) else (KK true)) 0)))
def F_rIsNan (a0_n : Int) (KK : Bool → Prop) : Prop :=
  (9223372036854775808 : Int) ≠ 0 ∧ KK (decide (9218868437227405312 < (Int.tmod (IntKind.u64.wrap a0_n) 9223372036854775808)))
def F_SameInstr (a0_a : Lt.Instr) (a1_b : Lt.Instr) (KK : Bool → Prop) : Prop :=
  joinP (α := Bool) (fun J3 => if (!decide (a0_a.Op = a1_b.Op)) = true then (J3 true) else (if (!decide (a0_a.Dst = a1_b.Dst)) = true then (J3 true) else (if (!decide (a0_a.Name = a1_b.Name)) = true then (J3 true) else (if (!(Lt.sameArgs a0_a.Args a1_b.Args)) = true then (J3 true) else (if (!decide ((a0_a.Frames.length : Int) = (a1_b.Frames.length : Int))) = true then (J3 true) else (J3 (!decide ((a0_a.Objs.length : Int) = (a1_b.Objs.length : Int))))))))) (fun v4 => if v4 = true then (KK false) else (loopP (α := Int) (fun R67 v68 => (a0_a.Frames.length ≤ 4611686018427387904 → if (decide (v68 < (a0_a.Frames.length : Int))) = true then (((0 : Int) ≤ v68 ∧ v68.toNat < a0_a.Frames.length) ∧ ((0 : Int) ≤ v68 ∧ v68.toNat < a1_b.Frames.length) ∧ joinP (α := Bool) (fun J77 => if (!decide ((a0_a.Frames.getD v68.toNat default).Func = (a1_b.Frames.getD v68.toNat default).Func)) = true then (J77 true) else (if (!decide ((a0_a.Frames.getD v68.toNat default).Block = (a1_b.Frames.getD v68.toNat default).Block)) = true then (J77 true) else (if (!decide ((a0_a.Frames.getD v68.toNat default).At = (a1_b.Frames.getD v68.toNat default).At)) = true then (J77 true) else (J77 (!decide ((((a0_a.Frames.getD v68.toNat default).Vars).length : Int) = (((a1_b.Frames.getD v68.toNat default).Vars).length : Int))))))) (fun v78 => if v78 = true then (KK false) else (loopP (α := Int) (fun R79 v80 => (((a0_a.Frames.getD v68.toNat default).Vars).length ≤ 4611686018427387904 → if (decide (v80 < (((a0_a.Frames.getD v68.toNat default).Vars).length : Int))) = true then (((0 : Int) ≤ v80 ∧ v80.toNat < ((a0_a.Frames.getD v68.toNat default).Vars).length) ∧ ((0 : Int) ≤ v80 ∧ v80.toNat < ((a1_b.Frames.getD v68.toNat default).Vars).length) ∧ if (!(decide ((((a0_a.Frames.getD v68.toNat default).Vars).getD v80.toNat default).Name = (((a1_b.Frames.getD v68.toNat default).Vars).getD v80.toNat default).Name) && (decide (((((a0_a.Frames.getD v68.toNat default).Vars).getD v80.toNat default).A).Kind = ((((a1_b.Frames.getD v68.toNat default).Vars).getD v80.toNat default).A).Kind) && (decide (((((a0_a.Frames.getD v68.toNat default).Vars).getD v80.toNat default).A).S = ((((a1_b.Frames.getD v68.toNat default).Vars).getD v80.toNat default).A).S) && decide (((((a0_a.Frames.getD v68.toNat default).Vars).getD v80.toNat default).A).N = ((((a1_b.Frames.getD v68.toNat default).Vars).getD v80.toNat default).A).N))))) = true then (KK false) else (R79 (IntKind.i64.wrap (v80 + 1)))) else (R67 (IntKind.i64.wrap (v68 + 1))))) 0))) else (loopP (α := Int) (fun R103 v104 => (a0_a.Objs.length ≤ 4611686018427387904 → if (decide (v104 < (a0_a.Objs.length : Int))) = true then (joinP (α := Bool) (fun J107 => ((0 : Int) ≤ v104 ∧ v104.toNat < a0_a.Objs.length) ∧ ((0 : Int) ≤ v104 ∧ v104.toNat < a1_b.Objs.length) ∧ if (!decide ((a0_a.Objs.getD v104.toNat default).Class = (a1_b.Objs.getD v104.toNat default).Class)) = true then (J107 true) else (((0 : Int) ≤ v104 ∧ v104.toNat < a0_a.Objs.length) ∧ ((0 : Int) ≤ v104 ∧ v104.toNat < a1_b.Objs.length) ∧ J107 (!(Lt.sameArgs ((a0_a.Objs.getD v104.toNat default).Vals) ((a1_b.Objs.getD v104.toNat default).Vals))))) (fun v108 => if v108 = true then (KK false) else (R103 (IntKind.i64.wrap (v104 + 1))))) else (KK true))) 0))) 0))
def F_sameArgs (a0_a : List Lt.Arg) (a1_b : List Lt.Arg) (KK : Bool → Prop) : Prop :=
  (a0_a.length ≤ 4611686018427387904 → (a1_b.length ≤ 4611686018427387904 → if (!decide ((a0_a.length : Int) = (a1_b.length : Int))) = true then (KK false) else (loopP (α := Int) (fun R3 v4 => (a0_a.length ≤ 4611686018427387904 → if (decide (v4 < (a0_a.length : Int))) = true then (((0 : Int) ≤ v4 ∧ v4.toNat < a0_a.length) ∧ ((0 : Int) ≤ v4 ∧ v4.toNat < a1_b.length) ∧ if (!(decide ((a0_a.getD v4.toNat default).Kind = (a1_b.getD v4.toNat default).Kind) && (decide ((a0_a.getD v4.toNat default).S = (a1_b.getD v4.toNat default).S) && decide ((a0_a.getD v4.toNat default).N = (a1_b.getD v4.toNat default).N)))) = true then (KK false) else (R3 (IntKind.i64.wrap (v4 + 1)))) else (KK true))) 0)))
end Go.Am
end

section
namespace Go.Am
open Go
set_option linter.unusedVariables false
set_option linter.unusedSimpArgs false

theorem ifk {c : Prop} [Decidable c] {A B : Prop} (h1 : c → A) (h2 : ¬ c → B) : if c then A else B := by
  by_cases hc : c
  · rw [if_pos hc]; exact h1 hc
  · rw [if_neg hc]; exact h2 hc
theorem kk {α : Type} {KK : α → Prop} {a b : α} (h : KK a) (e : a = b) : KK b := e ▸ h

theorem law_kept (s : List UInt8) (KK : Bool → Prop) (h : KK (Lt.kept s)) : F_kept s KK := by
  unfold F_kept; (try simp only [jn_app, jn_and, jn_imp, jval, bor, band, bnand, bimp, and_self]); unfold Lt.kept at h; simpa only [Bool.or_assoc] using h
theorem law_kind (s : List UInt8) (KK : Bool → Prop) (h : KK (Lt.kind s)) : F_kind s KK := by
  unfold F_kind; (try simp only [jn_app, jn_and, jn_imp, jval, bor, band, bnand, bimp, and_self]); unfold Lt.kind at h; simpa only [Bool.or_assoc] using h
theorem law_letter (c : UInt8) (KK : Bool → Prop) (h : KK (Lt.letter c)) : F_letter c KK := by
  unfold F_letter; (try simp only [jn_app, jn_and, jn_imp, jval, bor, band, bnand, bimp, and_self])
  refine kk h ?_
  unfold Lt.letter Lt.letterI
  grind
theorem law_wordDigit (c : UInt8) (KK : Bool → Prop) (h : KK (Lt.wordDigit c)) : F_wordDigit c KK := by
  unfold F_wordDigit; (try simp only [jn_app, jn_and, jn_imp, jval, bor, band, bnand, bimp, and_self]); exact h
theorem law_example6 (t : Lt.Term) (KK : Lt.Program → Prop) (h : KK (Lt.example6 t)) : F_example6 t KK := h
theorem law_number (n : Int) (hp : Lt.preNum n) (KK : List UInt8 → Prop) (h : KK (Lt.number n)) : F_number n KK := ⟨hp, h⟩

theorem law_Plain (n : Int) (KK : Int → Prop) (h : KK (Lt.Plain n)) : F_Plain n KK := by
  unfold F_Plain; (try simp only [jn_app, jn_and, jn_imp, jval, bor, band, bnand, bimp, and_self]); unfold Lt.Plain at h; exact h

theorem law_Name (s : List UInt8) (KK : Bool → Prop) (h : KK (Lt.Name s)) : F_Name s KK := by
  unfold F_Name; (try simp only [jn_app, jn_and, jn_imp, jval, bor, band, bnand, bimp, and_self, up_lr, up_l, up_r])
  have hn : ¬ s = [] → 0 < s.length := by cases s <;> simp
  refine ⟨fun h1 h2 => ⟨Int.le_refl _, by grind⟩, ?_⟩
  split
  · refine kk h ?_
    unfold Lt.Name; grind
  · intro hl
    refine all_loop (α := UInt8) s hl Lt.nameByte true KK _ (fun R i hi ih hF => ?_) (fun R h => ?_) (kk h ?_)
    · have hd : s.getD i 0 = s.getD i default := rfl
      simp only [lt_t hi, if_true, Int.toNat_natCast, hd]
      unfold Lt.nameByte at ih hF
      refine ⟨fun _ => ⟨Int.natCast_nonneg i, hi⟩, fun _ _ => ⟨Int.natCast_nonneg i, hi⟩, ?_⟩
      grind
    · simp only [lt_f, Bool.false_eq_true, if_false]; exact ⟨False.elim, False.elim, h⟩
    · unfold Lt.Name; grind

theorem law_typed (l : List Lt.Var) (most : Int) (KK : Bool → Prop) (h : KK (Lt.typed l most)) : F_typed l most KK := by
  unfold F_typed; (try simp only [jn_app, jn_and, jn_imp, jval, bor, band, bnand, bimp, and_self])
  unfold Lt.typed at h
  intro hl
  split
  · refine kk h ?_; grind
  · intro _
    refine all_loop l hl (fun v => Lt.Name v.Name && Lt.kind v.Type_) true KK _ (fun R i hi ih hF => ?_) (fun R h => ?_) (kk h ?_)
    · simp only [lt_t hi, if_true, Int.toNat_natCast]
      refine ⟨⟨Int.natCast_nonneg i, hi⟩, ?_⟩
      grind
    · simp only [lt_f, Bool.false_eq_true, if_false]; exact h
    · grind

theorem law_wordRight (a : Lt.Arg) (KK : Bool → Prop) (h : KK (Lt.wordRight a)) : F_wordRight a KK := by
  unfold F_wordRight; (try simp only [jn_app, jn_and, jn_imp, jval, bor, band, bnand, bimp, and_self])
  refine kk h ?_
  unfold Lt.wordRight
  grind

theorem law_showArgs (l : List Lt.Arg) (objs : Bool) (KK : Bool → Prop) (h : KK (Lt.showArgs l objs)) : F_showArgs l objs KK := by
  unfold F_showArgs; (try simp only [jn_app, jn_and, jn_imp, jval, bor, band, bnand, bimp, and_self])
  intro hl
  refine all_loop l hl (Lt.argRight objs) true KK _ (fun R i hi ih hF => ?_) (fun R h => ?_) (kk h ?_)
  · simp only [lt_t hi, if_true, Int.toNat_natCast]
    refine ⟨⟨Int.natCast_nonneg i, hi⟩, ?_⟩
    unfold Lt.argRight at ih hF
    grind
  · simp only [lt_f, Bool.false_eq_true, if_false]; exact h
  · simp [Lt.showArgs]

theorem args1 (a : Lt.Arg) (o : Bool) : Lt.showArgs [a] o = Lt.argRight o a := by simp [Lt.showArgs]

theorem law_frame (f : Lt.Frame) (KK : Bool → Prop) (h : KK (Lt.frame f)) : F_frame f KK := by
  unfold F_frame; (try simp only [jn_app, jn_and, jn_imp, jval, bor, band, bnand, bimp, and_self])
  unfold Lt.frame at h
  split
  · refine kk h ?_; grind
  · intro hl
    refine all_loop f.Vars hl Lt.bindRight true KK _ (fun R i hi ih hF => ?_) (fun R h => ?_) (kk h ?_)
    · simp only [lt_t hi, if_true, Int.toNat_natCast, args1]
      refine ⟨⟨Int.natCast_nonneg i, hi⟩, ?_⟩
      unfold Lt.bindRight at ih hF
      grind
    · simp only [lt_f, Bool.false_eq_true, if_false]; exact h
    · grind

theorem law_nth (l : List UInt8) (n : Int) (KK : List UInt8 → Prop) (h : KK (Lt.nth l n)) : F_nth l n KK := by
  unfold F_nth; (try simp only [jn_app, jn_and, jn_imp, jn_const, jn_ite, jval, bor, band, bnand, bimp, and_self])
  unfold Lt.nth at h
  by_cases hl : l.length ≤ LEN
  · refine nat_loop _ (l.length + 1) (fun k x => ∃ (n : Int) (f i : Nat), x = (n, (f : Int), (i : Int)) ∧ i = k + 1 ∧ f < i ∧ f ≤ l.length ∧ KK (Lt.nthG l (l.length + 1 - k) n f i)) (fun R k x hk hP hR => ?_) (fun R x hP => ?_) _ ⟨n, 0, 1, rfl, by omega, by omega, by omega, h⟩
    · obtain ⟨n, f, i, rfl, hi1, hf, hf2, h⟩ := hP
      intro _
      by_cases hi : i < l.length
      · simp only [lt_t hi, if_true, Int.toNat_natCast]
        refine ⟨⟨Int.natCast_nonneg i, hi⟩, ?_⟩
        rw [show l.length + 1 - k = (l.length + 1 - (k + 1)) + 1 by omega] at h
        simp only [Lt.nthG, hi, if_true] at h
        have w1 : IntKind.i64.wrap ((i : Int) + 1) = ((i + 1 : Nat) : Int) := wrap_succ (by unfold LEN at hl; omega)
        have w2 : IntKind.i64.wrap ((f : Int) + 1) = ((f + 1 : Nat) : Int) := wrap_succ (by unfold LEN at hl; omega)
        rw [w1, w2]
        dsimp +instances only [Int.toNat_natCast]
        split
        · rename_i hc
          have hc' : ¬ (((l.getD i 0).toNat : Nat) : Int) = 32 := by simpa using hc
          rw [if_neg hc'] at h
          exact hR _ ⟨n, f, i + 1, rfl, by omega, by omega, by omega, h⟩
        · rename_i hc
          have hc' : (((l.getD i 0).toNat : Nat) : Int) = 32 := by simpa using hc
          rw [if_pos hc'] at h
          split
          · rename_i hz
            have hz' : IntKind.i64.wrap (n - 1) = 0 := by simpa using hz
            rw [if_pos hz'] at h
            exact ⟨Int.natCast_nonneg _, Int.natCast_nonneg _, ⟨by omega, by omega⟩, h⟩
          · rename_i hz
            have hz' : ¬ IntKind.i64.wrap (n - 1) = 0 := by simpa using hz
            rw [if_neg hz'] at h
            exact hR _ ⟨_, i, i + 1, rfl, by omega, by omega, by omega, h⟩
      · have hf : decide ((i : Int) < (l.length : Int)) = false := by simp; omega
        simp only [hf, Bool.false_eq_true, if_false]
        rw [show l.length + 1 - k = (l.length + 1 - (k + 1)) + 1 by omega] at h
        simp only [Lt.nthG, hi, if_false] at h
        exact h
    · obtain ⟨n, f, i, rfl, hi1, hf, hf2, h⟩ := hP
      intro _
      have hf : decide ((i : Int) < (l.length : Int)) = false := by simp; omega
      simp only [hf, Bool.false_eq_true, if_false]
      rw [show l.length + 1 - (l.length + 1) = 0 by omega] at h
      exact h
  · exact ⟨1, fun h => absurd h hl⟩

theorem law_Of (op : Int) (KK : Lt.Form × Bool → Prop) (h : KK (Lt.Of op)) : F_Of op KK := by
  unfold F_Of; (try simp only [jn_app, jn_and, jn_imp, jval, bor, band, bnand, bimp, and_self])
  refine kk h ?_
  unfold Lt.Of Lt.two
  simp only [Bool.and_eq_true, decide_eq_true_eq]
end Go.Am
end

section
namespace Go.Am
open Go
set_option linter.unusedVariables false
set_option linter.unusedSimpArgs false

theorem wrap_small {n : Int} (h1 : -9223372036854775808 ≤ n) (h2 : n < 9223372036854775808) : IntKind.i64.wrap n = n := by
  simp only [IntKind.wrap, IntKind.signed, IntKind.bits]
  simp
  omega

theorem digs_small {n : Nat} (h : n < 10) : Lt.digs n = [UInt8.ofNat (48 + n)] := by
  rw [Lt.digs, if_pos h]
theorem digs_big {n : Nat} (h : ¬ n < 10) : Lt.digs n = Lt.digs (n / 10) ++ [UInt8.ofNat (48 + n % 10)] := by
  rw [Lt.digs, if_neg h]

theorem digs_len : ∀ (k n : Nat), n < 10 ^ (k + 1) → (Lt.digs n).length ≤ k + 1
  | 0, n, h => by rw [digs_small (by omega)]; simp
  | k + 1, n, h => by
    by_cases h10 : n < 10
    · rw [digs_small h10]; simp
    · rw [digs_big h10]
      have := digs_len k (n / 10) (by rw [Nat.pow_succ] at h; omega)
      simp only [List.length_append, List.length_cons, List.length_nil]
      omega

theorem numPut_len {n : Int} (h : Lt.inR n) : (Lt.numPut n).length ≤ 20 := by
  unfold Lt.inR at h
  have := digs_len 18 n.natAbs (by omega)
  unfold Lt.numPut
  simp only [List.length_append]
  split <;> simp <;> omega

theorem and15 (x : Int) : ((BitVec.ofInt IntKind.u64.bits x &&& BitVec.ofInt IntKind.u64.bits 15).toNat : Nat) < 16 := by
  have e : (BitVec.ofInt IntKind.u64.bits 15).toNat = 15 := by decide
  rw [BitVec.toNat_and, e]
  exact Nat.lt_of_le_of_lt Nat.and_le_right (by omega)

theorem wrapu_small {n : Nat} (h : n < 18446744073709551616) : IntKind.u64.wrap (n : Int) = (n : Int) := by
  simp only [IntKind.wrap, IntKind.signed, IntKind.bits]
  simp
  omega

theorem hexAt_ok (u x : Int) : (0 : Int) ≤ (IntKind.u64.wrap ((BitVec.ofInt IntKind.u64.bits (Int.fdiv (IntKind.u64.wrap u) (2 ^ (min (IntKind.u64.wrap x).toNat IntKind.u64.bits))) &&& BitVec.ofInt IntKind.u64.bits 15).toNat : Nat)) ∧
    (IntKind.u64.wrap ((BitVec.ofInt IntKind.u64.bits (Int.fdiv (IntKind.u64.wrap u) (2 ^ (min (IntKind.u64.wrap x).toNat IntKind.u64.bits))) &&& BitVec.ofInt IntKind.u64.bits 15).toNat : Nat)).toNat < ([48, 49, 50, 51, 52, 53, 54, 55, 56, 57, 97, 98, 99, 100, 101, 102] : List UInt8).length := by
  have h := and15 (Int.fdiv (IntKind.u64.wrap u) (2 ^ (min (IntKind.u64.wrap x).toNat IntKind.u64.bits)))
  rw [wrapu_small (by omega), Int.toNat_natCast]
  exact ⟨Int.natCast_nonneg _, h⟩

theorem law_floPut (n : Int) (KK : List UInt8 → Prop) (h : KK (Lt.floPut n)) : F_floPut n KK := by
  unfold F_floPut; (try simp only [jn_app, jn_and, jn_imp, jn_const, jn_ite, jval, bor, band, bnand, bimp, and_self])
  refine nat_loop _ 16 (fun i x => x = ([48, 102] ++ (List.range i).map fun (j : Nat) => Lt.hexAt (Lt.Plain n) (60 - 4 * (j : Int)), 60 - 4 * (i : Int))) (fun R i x hi hP hR => ?_) (fun R x hP => ?_) _ rfl
  · subst hP
    have hd : decide ((0 : Int) ≤ 60 - 4 * (i : Int)) = true := by simp; omega
    simp only [hd, if_true]
    have w : IntKind.i64.wrap (60 - 4 * (i : Int) - 4) = 60 - 4 * ((i + 1 : Nat) : Int) := by rw [wrap_small (by omega) (by omega)]; omega
    refine ⟨?_, hexAt_ok _ _, ?_, hR _ ?_⟩
    · have : IntKind.u64.wrap (60 - 4 * (i : Int)) = 60 - 4 * (i : Int) := by
        have := wrapu_small (n := 60 - 4 * i) (by omega)
        rw [show ((60 - 4 * i : Nat) : Int) = 60 - 4 * (i : Int) by omega] at this
        exact this
      rw [this]; omega
    · simp only [List.length_append, List.length_map, List.length_range, List.length_cons, List.length_nil]
      omega
    · rw [w, List.range_succ, List.map_append, ← List.append_assoc]; rfl
  · subst hP
    have : decide ((0 : Int) ≤ 60 - 4 * ((16 : Nat) : Int)) = false := by decide
    simp only [this, Bool.false_eq_true, if_false]
    exact h

theorem floPut_len (n : Int) : (Lt.floPut n).length = 18 := by simp [Lt.floPut]

theorem law_wordPut (a : Lt.Arg) (hp : Lt.prePut a) (KK : List UInt8 → Prop) (h : KK (Lt.wordPut a)) : F_wordPut a KK := by
  unfold F_wordPut; (try simp only [jn_app, jn_and, jn_imp, jval, bor, band, bnand, bimp, and_self]); unfold Lt.wordPut at h
  unfold Lt.prePut Lt.Arg.ok at hp
  have hq : Lt.preNum a.N := hp
  have := numPut_len hp
  have e : (35 :: Lt.numPut a.N).length ≤ 4611686018427387904 := by simp only [List.length_cons]; omega
  grind

theorem law_puts (l : List Lt.Arg) (hp : Lt.prePuts l) (KK : List (List UInt8) → Prop) (h : KK (Lt.puts l)) : F_puts l KK := by
  obtain ⟨hp, hl⟩ := hp
  unfold F_puts; (try simp only [jn_app, jn_and, jn_imp, jn_const, jn_ite, jval, bor, band, bnand, bimp, and_self])
  intro _
  refine idx_loop l.length (by unfold LEN; omega) (fun i => Lt.puts (l.take i)) _ (fun R i hi ih => ?_) (fun R => ?_) rfl
  · simp only [lt_t hi, if_true, Int.toNat_natCast]
    refine ⟨⟨Int.natCast_nonneg i, hi⟩, hp _ (mem_getD l hi), ?_, ?_⟩
    · simp only [Lt.puts, List.length_map, List.length_take, List.length_cons, List.length_nil]; omega
    · rw [take_snoc l hi] at ih
      simp only [Lt.puts, List.map_append, List.map_cons, List.map_nil] at ih ⊢
      exact ih
  · simp only [lt_f, Bool.false_eq_true, if_false, List.take_length]; exact h
end Go.Am
end

section
namespace Go.Am
open Go
set_option linter.unusedVariables false
set_option linter.unusedSimpArgs false

theorem len0 {α : Type} (l : List α) : ((l.length : Int) = 0) = (l = []) := by
  cases l <;> simp
  omega

theorem law_phi (x : Lt.Phi) (KK : Bool → Prop) (h : KK (Lt.phi x)) : F_phi x KK := by
  unfold F_phi; (try simp only [jn_app, jn_and, jn_imp, jn_const, jn_ite, jval, bor, band, bnand, bimp, and_self])
  have e0 := len0 x.Ins
  unfold Lt.phi at h
  split
  · refine kk h ?_; grind
  · intro hl
    refine all_loop x.Ins hl Lt.inRight true KK _ (fun R i hi ih hF => ?_) (fun R h => ?_) (kk h ?_)
    · simp only [lt_t hi, if_true, Int.toNat_natCast, args1]
      refine ⟨⟨Int.natCast_nonneg i, hi⟩, ?_⟩
      unfold Lt.inRight at ih hF
      grind
    · simp only [lt_f, Bool.false_eq_true, if_false]; exact h
    · grind

theorem noArg_eq (a : Lt.Arg) : (decide (a.Kind = 0) && (decide (a.S = ([] : List UInt8)) && decide (a.N = 0))) = Lt.noArg a := by
  obtain ⟨k, s, n⟩ := a
  simp only [Lt.noArg, Lt.Arg.mk.injEq]
  by_cases h1 : k = 0 <;> by_cases h2 : s = [] <;> by_cases h3 : n = 0 <;> simp [h1, h2, h3]

theorem law_showEnd (t : Lt.Term) (KK : Bool → Prop) (h : KK (Lt.showEnd t)) : F_showEnd t KK := by
  unfold F_showEnd; (try simp only [jn_app, jn_and, jn_imp, jn_const, jn_ite, jval, bor, band, bnand, bimp, and_self])
  intro hl
  unfold Lt.showEnd at h
  refine all_loop t.To hl Lt.Name _ KK _ (fun R i hi ih hF => ?_) (fun R h => ?_) h
  · simp only [lt_t hi, if_true, Int.toNat_natCast]
    refine ⟨⟨Int.natCast_nonneg i, hi⟩, ?_⟩
    grind
  · simp only [lt_f, Bool.false_eq_true, if_false, noArg_eq, args1]
    have e0 : ((t.To.length : Int) = 0) = (t.To.length = 0) := propext (by omega)
    have e1 : ((t.To.length : Int) = 1) = (t.To.length = 1) := propext (by omega)
    have e2 : ((t.To.length : Int) = 2) = (t.To.length = 2) := propext (by omega)
    refine kk h ?_
    simp only [e0, e1, e2]
    grind

theorem law_instr (x : Lt.Instr) (KK : Bool → Prop) (h : KK (Lt.instr x)) : F_instr x KK := by
  unfold F_instr; (try simp only [jn_app, jn_and, jn_imp, jval, bor, band, bnand, bimp, and_self])
  have e0 := len0 x.Frames
  have e1 := len0 x.Objs
  unfold Lt.instr at h
  refine ifk (fun hc => kk h (by grind)) (fun hA hl => ?_)
  refine ifk (fun hc => kk h (by grind)) (fun hB => ?_)
  refine ifk (fun hc hl => kk h (by grind)) (fun hC hl => ?_)
  refine all_loop x.Frames hl Lt.frame (x.Objs.all Lt.virt) KK _ (fun R i hi ih hF => ?_) (fun R h => ?_) (kk h ?_)
  · simp only [lt_t hi, if_true, Int.toNat_natCast]
    refine ⟨⟨Int.natCast_nonneg i, hi⟩, ?_⟩
    grind
  · simp only [lt_f, Bool.false_eq_true, if_false]
    intro hl2
    refine all_loop x.Objs hl2 Lt.virt true KK _ (fun R i hi ih hF => ?_) (fun R h => ?_) (kk h ?_)
    · simp only [lt_t hi, if_true, Int.toNat_natCast]
      refine ⟨⟨Int.natCast_nonneg i, hi⟩, ?_⟩
      unfold Lt.virt at ih hF
      grind
    · simp only [lt_f, Bool.false_eq_true, if_false]; exact h
    · simp
  · grind

theorem law_block (b : Lt.Block) (KK : Bool → Prop) (h : KK (Lt.block b)) : F_block b KK := by
  unfold F_block; (try simp only [jn_app, jn_and, jn_imp, jval, bor, band, bnand, bimp, and_self])
  unfold Lt.block at h
  split
  · refine kk h ?_; grind
  · intro hl
    refine all_loop b.Phis hl Lt.phi (b.Code.all Lt.instr) KK _ (fun R i hi ih hF => ?_) (fun R h => ?_) (kk h ?_)
    · simp only [lt_t hi, if_true, Int.toNat_natCast]
      refine ⟨⟨Int.natCast_nonneg i, hi⟩, ?_⟩
      grind
    · simp only [lt_f, Bool.false_eq_true, if_false]
      intro hl2
      refine all_loop b.Code hl2 Lt.instr true KK _ (fun R i hi ih hF => ?_) (fun R h => ?_) (kk h ?_)
      · simp only [lt_t hi, if_true, Int.toNat_natCast]
        refine ⟨⟨Int.natCast_nonneg i, hi⟩, ?_⟩
        grind
      · simp only [lt_f, Bool.false_eq_true, if_false]; exact h
      · simp
    · grind

theorem law_showFunction (f : Lt.Func) (KK : Bool → Prop) (h : KK (Lt.showFunction f)) : F_showFunction f KK := by
  unfold F_showFunction; (try simp only [jn_app, jn_and, jn_imp, jval, bor, band, bnand, bimp, and_self])
  have e0 := len0 f.Blocks
  unfold Lt.showFunction at h
  refine ifk (fun hc => kk h (by grind)) (fun hA hl => ?_)
  refine drop_loopS f.Blocks hl (fun (b : {b : Nat // b ≤ 1024}) i => ((b.1 : Int), i)) (fun t b => Lt.blocks t b.1) KK _ (fun R b i hi ih h => ?_) (fun R b h => ?_) ⟨0, by omega⟩ (kk h (by grind))
  · obtain ⟨b, hb⟩ := b
    simp only [lt_t hi, if_true, Int.toNat_natCast]
    try dsimp +instances only [Int.toNat_natCast]
    refine ⟨⟨Int.natCast_nonneg i, hi⟩, ?_⟩
    generalize f.Blocks.getD i default = x at h
    obtain ⟨bn, bp, bc, ⟨k, a, t, n⟩⟩ := x
    dsimp only at h ih ⊢
    simp only [Lt.blocks] at h
    intro _
    refine ifk (fun hc => kk h (by grind)) (fun hc _ _ => ?_)
    simp only [Bool.or_eq_true, decide_eq_true_eq, not_or] at hc
    have w1 : IntKind.i64.wrap ((bp.length : Int) + (bc.length : Int)) = ((bp.length + bc.length : Nat) : Int) := by rw [wrap_small (by omega) (by omega)]; omega
    have w2 : IntKind.i64.wrap ((b : Int) + ((bp.length + bc.length : Nat) : Int)) = ((b + (bp.length + bc.length) : Nat) : Int) := by rw [wrap_small (by omega) (by omega)]; omega
    rw [w1, w2]
    refine ifk (fun hc => kk h (by grind)) (fun hc => ?_)
    have hle : b + (bp.length + bc.length) ≤ 1024 := by grind
    exact ih ⟨_, hle⟩ (kk h (by grind))
  · simp only [lt_f, Bool.false_eq_true, if_false]
    simpa only [Lt.blocks] using h

theorem law_showRight (p : Lt.Program) (KK : Bool → Prop) (h : KK (Lt.showRight p)) : F_showRight p KK := by
  unfold F_showRight; (try simp only [jn_app, jn_and, jn_imp, jval, bor, band, bnand, bimp, and_self])
  unfold Lt.showRight at h
  intro _
  refine ifk (fun hc => kk h (by grind)) (fun hA hl => ?_)
  refine all_loop p.Classes hl Lt.classRight (p.Externs.all Lt.externRight && p.Funcs.all Lt.showFunction) KK _ (fun R i hi ih hF => ?_) (fun R h => ?_) (kk h (by grind))
  · simp only [lt_t hi, if_true, Int.toNat_natCast]
    refine ⟨⟨Int.natCast_nonneg i, hi⟩, ?_⟩
    unfold Lt.classRight at ih hF
    grind
  · simp only [lt_f, Bool.false_eq_true, if_false]
    intro hl2
    refine all_loop p.Externs hl2 Lt.externRight (p.Funcs.all Lt.showFunction) KK _ (fun R i hi ih hF => ?_) (fun R h => ?_) h
    · simp only [lt_t hi, if_true, Int.toNat_natCast]
      refine ⟨⟨Int.natCast_nonneg i, hi⟩, ?_⟩
      unfold Lt.externRight at ih hF
      grind
    · simp only [lt_f, Bool.false_eq_true, if_false]
      intro hl3
      refine all_loop p.Funcs hl3 Lt.showFunction true KK _ (fun R i hi ih hF => ?_) (fun R h => ?_) (kk h (by simp))
      · simp only [lt_t hi, if_true, Int.toNat_natCast]
        refine ⟨⟨Int.natCast_nonneg i, hi⟩, ?_⟩
        grind
      · simp only [lt_f, Bool.false_eq_true, if_false]; exact h
end Go.Am
end

section
namespace Go.Am
open Go
set_option linter.unusedVariables false
set_option linter.unusedSimpArgs false

theorem Of_most (op : Int) : (Lt.Of op).1.Most ≤ 8 := by
  unfold Lt.Of
  simp only [apply_ite Prod.fst, apply_ite Lt.Form.Most]
  repeat' split
  all_goals omega

theorem Of_least {op : Int} (h : op = 26 ∨ op = 27) : 1 ≤ (Lt.Of op).1.Least := by
  rcases h with rfl | rfl <;> decide

structure InstrOk (i : Lt.Instr) : Prop where
  args : i.Args.length ≤ 8
  frames : i.Frames.length ≤ 16
  objs : i.Objs.length ≤ 99
  fr : ∀ f ∈ i.Frames, Lt.frame f = true
  ob : ∀ o ∈ i.Objs, Lt.virt o = true
  least : i.Op = 26 ∨ i.Op = 27 → 1 ≤ i.Args.length
  aok : Lt.showArgs i.Args false = true
  of : (Lt.Of i.Op).2 = true
  dst : (Lt.Of i.Op).1.Dst = !decide (i.Dst = [])
  nm : (Lt.Of i.Op).1.Named = !decide (i.Name = [])
  dstN : (Lt.Of i.Op).1.Dst = true → Lt.Name i.Dst = true
  nmN : (Lt.Of i.Op).1.Named = true → Lt.Name i.Name = true
  lo : (Lt.Of i.Op).1.Least ≤ (i.Args.length : Int)
  hi : (i.Args.length : Int) ≤ (Lt.Of i.Op).1.Most
  none : i.Op ≠ 31 ∧ i.Op ≠ 34 → i.Frames = [] ∧ i.Objs = []

theorem instr_ok {i : Lt.Instr} (h : Lt.instr i = true) : InstrOk i := by
  unfold Lt.instr at h
  simp only [Bool.and_eq_true, decide_eq_true_eq, beq_iff_eq, Bool.not_eq_true', Bool.and_eq_false_iff] at h
  obtain ⟨⟨⟨⟨⟨⟨h1, h2⟩, h3⟩, h4⟩, h5⟩, ⟨⟨⟨h6, h7⟩, h8⟩, h9⟩, h10⟩, h11⟩ := h
  have hm := Of_most i.Op
  have hfo : (∀ f ∈ i.Frames, Lt.frame f = true) ∧ (∀ o ∈ i.Objs, Lt.virt o = true) := by
    split at h11
    · simp only [Bool.and_eq_true, decide_eq_true_eq] at h11
      rw [h11.1, h11.2]; simp
    · simpa [List.all_eq_true] using h11
  refine ⟨by omega, h9, h10, hfo.1, hfo.2, fun ho => ?_, h8, h1, h2, h3, fun hd => ?_, fun hd => ?_, h6, h7, fun ho => ?_⟩
  · have := Of_least ho
    omega
  · rcases h4 with h4 | h4
    · rw [h4] at hd; cases hd
    · simpa using h4
  · rcases h5 with h5 | h5
    · rw [h5] at hd; cases hd
    · simpa using h5
  · rw [if_pos ho] at h11
    simpa using h11

theorem frame_ok {f : Lt.Frame} (h : Lt.frame f = true) : Lt.Name f.Func = true ∧ Lt.Name f.Block = true ∧ 0 ≤ f.At ∧ f.At ≤ 1024 ∧ f.Vars.length ≤ 16 ∧ ∀ b ∈ f.Vars, Lt.bindRight b = true := by
  unfold Lt.frame at h
  simp only [Bool.and_eq_true, decide_eq_true_eq, List.all_eq_true] at h
  obtain ⟨⟨⟨⟨⟨h1, h2⟩, h3⟩, h4⟩, h5⟩, h6⟩ := h
  exact ⟨h1, h2, h3, h4, h5, h6⟩

theorem virt_ok {o : Lt.Virt} (h : Lt.virt o = true) : Lt.Name o.Class = true ∧ o.Vals.length ≤ 8 ∧ Lt.showArgs o.Vals true = true := by
  unfold Lt.virt at h
  simp only [Bool.and_eq_true, decide_eq_true_eq] at h
  exact ⟨h.1.1, h.1.2, h.2⟩

theorem phi_ok {x : Lt.Phi} (h : Lt.phi x = true) : Lt.Name x.Dst = true ∧ x.Ins ≠ [] ∧ x.Ins.length ≤ 256 ∧ ∀ i ∈ x.Ins, Lt.inRight i = true := by
  unfold Lt.phi at h
  simp only [Bool.and_eq_true, decide_eq_true_eq, Bool.not_eq_true', decide_eq_false_iff_not, List.all_eq_true] at h
  obtain ⟨⟨⟨h1, h2⟩, h3⟩, h4⟩ := h
  exact ⟨h1, h2, h3, h4⟩

theorem block_ok {b : Lt.Block} (h : Lt.block b = true) : Lt.Name b.Name = true ∧ Lt.showEnd b.End = true ∧ (∀ x ∈ b.Phis, Lt.phi x = true) ∧ ∀ i ∈ b.Code, Lt.instr i = true := by
  unfold Lt.block at h
  simp only [Bool.and_eq_true, List.all_eq_true] at h
  exact ⟨h.1.1, h.1.2, h.2.1, h.2.2⟩

/-- how long blocks' phis and instructions are in all -/
def longs (l : List Lt.Block) : Nat := (l.map fun b => b.Phis.length + b.Code.length).sum

theorem blocks_ok : ∀ (l : List Lt.Block) (n : Nat), n ≤ 1024 → Lt.blocks l n = true → n + longs l ≤ 1024 ∧ ∀ b ∈ l, Lt.block b = true
  | [], n, hn, _ => ⟨by simp [longs]; exact hn, by simp⟩
  | b :: r, n, hn, h => by
    simp only [Lt.blocks, Bool.and_eq_true, decide_eq_true_eq] at h
    obtain ⟨⟨h1, h2⟩, h3⟩ := h
    obtain ⟨k1, k2⟩ := blocks_ok r _ h1 h3
    refine ⟨?_, ?_⟩
    · simp only [longs, List.map_cons, List.sum_cons] at k1 ⊢; omega
    · intro x hx
      rcases List.mem_cons.1 hx with rfl | hx
      · exact h2
      · exact k2 x hx

structure FuncOk (f : Lt.Func) : Prop where
  name : Lt.Name f.Name = true
  res : Lt.kind f.Result = true
  params : Lt.typed f.Params 6 = true
  vars : Lt.typed f.Vars 1024 = true
  ne : f.Blocks ≠ []
  len : f.Blocks.length ≤ 256
  long : longs f.Blocks ≤ 1024
  bl : ∀ b ∈ f.Blocks, Lt.block b = true

theorem func_ok {f : Lt.Func} (h : Lt.showFunction f = true) : FuncOk f := by
  unfold Lt.showFunction at h
  simp only [Bool.and_eq_true, decide_eq_true_eq, Bool.not_eq_true', decide_eq_false_iff_not] at h
  obtain ⟨⟨⟨⟨⟨⟨h1, h2⟩, h3⟩, h4⟩, h5⟩, h6⟩, h7⟩ := h
  obtain ⟨k1, k2⟩ := blocks_ok _ 0 (by omega) h7
  exact ⟨h1, h2, h3, h4, h5, h6, by omega, k2⟩

theorem typed_len {l : List Lt.Var} {n : Int} (h : Lt.typed l n = true) : (l.length : Int) ≤ n := by
  unfold Lt.typed at h
  simp only [Bool.and_eq_true, decide_eq_true_eq] at h
  exact h.1

structure ProgOk (p : Lt.Program) : Prop where
  nc : p.Classes.length ≤ 8
  ne : p.Externs.length ≤ 8
  nf : p.Funcs.length ≤ 8
  glob : Lt.typed p.Globals 8 = true
  cl : ∀ c ∈ p.Classes, Lt.classRight c = true
  ex : ∀ x ∈ p.Externs, Lt.externRight x = true
  fn : ∀ f ∈ p.Funcs, Lt.showFunction f = true

theorem prog_ok {p : Lt.Program} (h : Lt.showRight p = true) : ProgOk p := by
  unfold Lt.showRight at h
  simp only [Bool.and_eq_true, decide_eq_true_eq, List.all_eq_true] at h
  obtain ⟨⟨⟨⟨h1, h2⟩, h3⟩, h4⟩, h5, h6, h7⟩ := h
  exact ⟨h1, h2, h3, h4, h5, h6, h7⟩

theorem flat2 {α : Type} (f g : α → List UInt8) (l : List α) : (l.flatMap fun b => [f b, g b]).length = 2 * l.length := by
  induction l with
  | nil => rfl
  | cons a l ih => rw [List.flatMap_cons, List.length_append, ih]; simp; omega

theorem flat_snoc {α β : Type} [Inhabited α] (f : α → List β) (l : List α) {i : Nat} (h : i < l.length) : (l.take (i + 1)).flatMap f = (l.take i).flatMap f ++ f (l.getD i default) := by
  rw [take_snoc l h, List.flatMap_append]; simp

theorem map_snoc {α β : Type} [Inhabited α] (f : α → β) (l : List α) {i : Nat} (h : i < l.length) : (l.take (i + 1)).map f = (l.take i).map f ++ [f (l.getD i default)] := by
  rw [take_snoc l h, List.map_append]; rfl

theorem law_sheetLine (s : Lt.Sheet) (w : List (List UInt8)) (hp : Lt.preLine s w) (KK : Unit × Lt.Sheet → Prop) (h : KK (Lt.sheetLine s w)) : F_sheetLine s w KK := by
  unfold Lt.preLine Lt.room at hp
  unfold F_sheetLine; (try simp only [jn_app, jn_and, jn_imp, jval, bor, band, bnand, bimp, and_self])
  exact ⟨⟨by simp only [List.length_cons, List.length_nil]; omega, by simp only [List.length_cons, List.length_nil]; omega⟩, h⟩

theorem law_sheetVars (s : Lt.Sheet) (first : List UInt8) (l : List Lt.Var) (hp : Lt.preVars s first l) (KK : Unit × Lt.Sheet → Prop) (h : KK (Lt.sheetVars s first l)) : F_sheetVars s first l KK := by
  unfold Lt.preVars Lt.room at hp
  unfold F_sheetVars; (try simp only [jn_app, jn_and, jn_imp, jn_const, jn_ite, jval, bor, band, bnand, bimp, and_self])
  intro hl
  refine idx_loopF l.length hl (fun i => (⟨s.l ++ Lt.varsL first (l.take i)⟩ : Lt.Sheet)) _ (fun R i hi ih => ?_) (fun R => ?_) (by simp [Lt.varsL])
  · simp only [lt_t hi, if_true, Int.toNat_natCast]
    try dsimp +instances only [Int.toNat_natCast]
    refine ⟨⟨Int.natCast_nonneg i, hi⟩, ?_, ?_⟩
    · unfold Lt.preLine Lt.room
      simp only [Lt.varsL, List.length_append, List.length_map, List.length_take]
      omega
    · simp only [Lt.varsL, map_snoc _ l hi, ← List.append_assoc] at ih
      exact ih
  · simp only [lt_f, Bool.false_eq_true, if_false]
    rw [List.take_length]
    exact h

theorem puts_len (l : List Lt.Arg) : (Lt.puts l).length = l.length := by simp [Lt.puts]

theorem getD_list {α : Type} [Inhabited α] {l : List α} {P : α → Prop} (h : ∀ x ∈ l, P x) {i : Nat} (hi : i < l.length) : P (l.getD i default) := h _ (mem_getD l hi)

theorem law_sheetCode (s : Lt.Sheet) (i : Lt.Instr) (hp : Lt.preCode s i) (KK : Unit × Lt.Sheet → Prop) (h : KK (Lt.sheetCode s i)) : F_sheetCode s i KK := by
  obtain ⟨hok, hi, hroom⟩ := hp
  unfold Lt.room at hroom
  obtain ⟨okA, okF, okO⟩ := hok
  have I := instr_ok hi
  have a8 := I.args; have f16 := I.frames; have o99 := I.objs
  have hpl := puts_len i.Args
  unfold F_sheetCode; (try simp only [jn_app, jn_and, jn_imp, jval, bor, band, bnand, bimp, and_self])
  intro J1 hJ1
  have j1 : ∀ x1 : List (List UInt8), x1 = (if (Lt.Of i.Op).1.Dst then [i.Dst, [61]] else []) → x1.length ≤ 2 → J1 x1 := by
    intro v2 e hlen
    refine hJ1 v2 ⟨⟨by simp only [List.length_cons, List.length_nil]; omega, by simp only [List.length_cons, List.length_nil]; omega⟩, ⟨okA, by omega⟩, ?_⟩
    intro J5 hJ5
    have j5 : ∀ x2 x3, x2 ++ x3 = Lt.words i → x2.length + x3.length ≤ 100 → J5 (x2, x3) := by
      intro x2 x3 e hlen
      refine hJ5 _ ⟨⟨by dsimp only; omega, by dsimp only; omega⟩, by unfold Lt.preLine Lt.room; omega, fun hl => ?_⟩
      dsimp only
      rw [e]
      refine idx_loopF i.Frames.length hl (fun k => (⟨s.l ++ [Lt.ln (Lt.words i)] ++ (i.Frames.take k).map (fun f => Lt.ln (Lt.frameW f))⟩ : Lt.Sheet)) _ (fun R k hk ih => ?_) (fun R => ?_) (by simp [Lt.sheetLine, Lt.ln])
      · simp only [lt_t hk, if_true, Int.toNat_natCast]
        try dsimp +instances only [Int.toNat_natCast]
        have V := frame_ok (getD_list I.fr hk)
        refine ⟨⟨Int.natCast_nonneg k, hk⟩, ?_, fun hl2 => ?_⟩
        · have := V.2.2.1; have := V.2.2.2.1
          exact ⟨by omega, by omega⟩
        · have v16 := V.2.2.2.2.1
          have okf : (i.Frames.getD k default).ok := getD_list okF hk
          refine idx_loop (i.Frames.getD k default).Vars.length hl2 (fun j => [[97, 116], (i.Frames.getD k default).Func, (i.Frames.getD k default).Block, Lt.number (i.Frames.getD k default).At] ++ ((i.Frames.getD k default).Vars.take j).flatMap fun b => [b.Name, Lt.wordPut b.A]) _
            (fun R2 j hj ih2 => ?_) (fun R2 => ?_) (by simp)
          · simp only [lt_t hj, if_true, Int.toNat_natCast]
            try dsimp +instances only [Int.toNat_natCast]
            refine ⟨⟨Int.natCast_nonneg j, hj⟩, okf.2 _ (mem_getD _ hj), ?_, ?_⟩
            · simp only [List.length_append, flat2, List.length_cons, List.length_nil, List.length_take]
              omega
            · simp only [flat_snoc _ _ hj, ← List.append_assoc] at ih2
              exact ih2
          · simp only [lt_f, Bool.false_eq_true, if_false]
            refine ⟨?_, ?_⟩
            · unfold Lt.preLine Lt.room
              simp only [List.length_append, List.length_map, List.length_take, List.length_cons, List.length_nil]
              omega
            · simp only [map_snoc _ i.Frames hk, ← List.append_assoc] at ih
              rw [List.take_length]
              exact ih
      · simp only [lt_f, Bool.false_eq_true, if_false]
        intro hl
        rw [List.take_length]
        refine idx_loopF i.Objs.length hl (fun k => (⟨s.l ++ [Lt.ln (Lt.words i)] ++ i.Frames.map (fun f => Lt.ln (Lt.frameW f)) ++ (i.Objs.take k).map (fun o => Lt.ln (Lt.virtW o))⟩ : Lt.Sheet)) _ (fun R k hk ih => ?_) (fun R => ?_) (by simp)
        · simp only [lt_t hk, if_true, Int.toNat_natCast]
          try dsimp +instances only [Int.toNat_natCast]
          have V := virt_ok (getD_list I.ob hk)
          have hlen : (Lt.puts (i.Objs.getD k default).Vals).length ≤ 8 := by rw [puts_len]; exact V.2.1
          refine ⟨⟨Int.natCast_nonneg k, hk⟩, ⟨getD_list okO hk, by omega⟩, ⟨by simp only [List.length_cons, List.length_nil]; omega, by simp only [List.length_cons, List.length_nil]; omega⟩, ?_, ?_⟩
          · unfold Lt.preLine Lt.room
            simp only [List.length_append, List.length_map, List.length_take, List.length_cons, List.length_nil]
            omega
          · simp only [map_snoc _ i.Objs hk, ← List.append_assoc] at ih
            exact ih
        · simp only [lt_f, Bool.false_eq_true, if_false]
          rw [List.take_length]
          simp only [Lt.sheetCode, Lt.codeL, ← List.append_assoc] at h
          exact h
    refine ifk (fun hc => ?_) (fun hc => ?_)
    · have hc' : i.Op = 26 ∨ i.Op = 27 := by simpa using hc
      have h1 := I.least hc'
      refine ⟨⟨Int.le_refl _, by omega⟩, ?_, by omega, ⟨by omega, by omega⟩, ?_⟩
      · simp only [List.length_append, List.length_cons, List.length_nil]; omega
      · refine j5 _ _ ?_ ?_
        · rw [Lt.words, if_pos hc', ← e, List.take_of_length_le (by simp)]
          simp
        · simp only [List.length_append, List.length_cons, List.length_nil, List.length_take, List.length_drop]; omega
    · have hc' : ¬ (i.Op = 26 ∨ i.Op = 27) := by simpa using hc
      refine ifk (fun hn => ?_) (fun hn => ?_)
      · refine ⟨?_, j5 _ _ ?_ ?_⟩
        · simp only [List.length_append, List.length_cons, List.length_nil]; omega
        · rw [Lt.words, if_neg hc', ← e, if_pos hn]
          simp
        · simp only [List.length_append, List.length_cons, List.length_nil]; omega
      · refine j5 _ _ ?_ ?_
        · rw [Lt.words, if_neg hc', ← e, if_neg hn]
          simp
        · simp only [List.length_append, List.length_cons, List.length_nil]; omega
  refine ifk (fun hd => ⟨by simp, j1 _ (by rw [if_pos hd]) (by simp)⟩) (fun hd => j1 _ (by rw [if_neg hd]) (by simp))

theorem law_sheetEnd (s : Lt.Sheet) (t : Lt.Term) (hp : Lt.preEnd s t) (KK : Unit × Lt.Sheet → Prop) (h : KK (Lt.sheetEnd s t)) : F_sheetEnd s t KK := by
  obtain ⟨⟨okA, okN⟩, ht, hroom⟩ := hp
  unfold Lt.room at hroom
  have hl : ∀ w, Lt.preLine s w := fun w => by unfold Lt.preLine Lt.room; omega
  unfold Lt.showEnd at ht
  rw [Bool.and_eq_true] at ht
  replace ht := ht.2
  unfold Lt.sheetEnd Lt.endW at h
  unfold F_sheetEnd; (try simp only [jn_app, jn_and, jn_imp, jval, bor, band, bnand, bimp, and_self])
  simp only [decide_eq_true_eq]
  refine ifk (fun hc => ?_) (fun hc => ?_)
  · rw [if_pos hc] at h ht
    simp only [Bool.and_eq_true, decide_eq_true_eq] at ht
    exact ⟨⟨Int.le_refl _, by omega⟩, hl _, h⟩
  rw [if_neg hc] at h ht
  refine ifk (fun hc => ?_) (fun hc => ?_)
  · rw [if_pos hc] at h ht
    simp only [Bool.and_eq_true, decide_eq_true_eq] at ht
    have a : (0 : Int) ≤ 0 ∧ 0 < t.To.length := ⟨Int.le_refl _, by omega⟩
    have b : (0 : Int) ≤ 1 ∧ 1 < t.To.length := ⟨by omega, by omega⟩
    exact ⟨⟨okA, a, b, hl _, h⟩, ⟨a, ⟨okA, b, hl _, h⟩, b, okA, hl _, h⟩, b, ⟨okA, a, hl _, h⟩, a, okA, hl _, h⟩
  rw [if_neg hc] at h ht
  refine ifk (fun hc => ?_) (fun hc => ?_)
  · rw [if_pos hc] at h
    exact ⟨okA, hl _, h⟩
  · rw [if_neg hc] at h
    exact ⟨okN, hl _, h⟩

theorem codeL_len {i : Lt.Instr} (h : Lt.instr i = true) : (Lt.codeL i).length ≤ 116 := by
  have I := instr_ok h
  have := I.frames; have := I.objs
  simp only [Lt.codeL, List.length_append, List.length_map, List.length_cons, List.length_nil]
  omega

theorem flatMap_le {α β : Type} (f : α → List β) (k : Nat) : ∀ (l : List α), (∀ x ∈ l, (f x).length ≤ k) → (l.flatMap f).length ≤ k * l.length
  | [], _ => by simp
  | a :: l, h => by
    have := flatMap_le f k l (fun x hx => h x (List.mem_cons_of_mem _ hx))
    have := h a (by simp)
    rw [List.flatMap_cons, List.length_append, List.length_cons, Nat.mul_add]
    omega

theorem mem_take {α : Type} {l : List α} {i : Nat} {x : α} (h : x ∈ l.take i) : x ∈ l := List.mem_of_mem_take h

theorem blockL_len {b : Lt.Block} (h : Lt.block b = true) : (Lt.blockL b).length ≤ 2 + 116 * (b.Phis.length + b.Code.length) := by
  have B := block_ok h
  have := flatMap_le Lt.codeL 116 b.Code (fun x hx => codeL_len (B.2.2.2 x hx))
  simp only [Lt.blockL, List.length_append, List.length_map, List.length_cons, List.length_nil]
  omega

theorem blocksL_len : ∀ (l : List Lt.Block), (∀ b ∈ l, Lt.block b = true) → (l.flatMap Lt.blockL).length ≤ 2 * l.length + 116 * longs l
  | [], _ => by simp
  | b :: l, h => by
    have h1 := blocksL_len l (fun x hx => h x (List.mem_cons_of_mem _ hx))
    have h2 := blockL_len (h b (by simp))
    rw [List.flatMap_cons, List.length_append, List.length_cons]
    simp only [longs, List.map_cons, List.sum_cons] at h1 ⊢
    omega

theorem longs_take (l : List Lt.Block) (i : Nat) : longs (l.take i) ≤ longs l := by
  have : longs l = longs (l.take i) + longs (l.drop i) := by
    unfold longs
    rw [← List.sum_append, ← List.map_append, List.take_append_drop]
  omega

theorem longs_get (l : List Lt.Block) {i : Nat} (h : i < l.length) : longs (l.take i) + ((l.getD i default).Phis.length + (l.getD i default).Code.length) ≤ longs l := by
  have := longs_take l (i + 1)
  rw [take_snoc l h] at this
  unfold longs at this ⊢
  rw [List.map_append, List.sum_append] at this
  simp only [List.map_cons, List.map_nil, List.sum_cons, List.sum_nil] at this
  omega

theorem funcL_len {f : Lt.Func} (h : Lt.showFunction f = true) : (Lt.funcL f).length ≤ 130000 := by
  have F := func_ok h
  have h1 := typed_len F.params; have h2 := typed_len F.vars
  have h3 := blocksL_len f.Blocks F.bl
  have := F.len; have := F.long
  simp only [Lt.funcL, Lt.varsL, List.length_append, List.length_map, List.length_cons, List.length_nil]
  omega

theorem law_sheetFunction (s : Lt.Sheet) (f : Lt.Func) (hp : Lt.preFunction s f) (KK : Unit × Lt.Sheet → Prop) (h : KK (Lt.sheetFunction s f)) : F_sheetFunction s f KK := by
  obtain ⟨hok, hf, hroom⟩ := hp
  unfold Lt.room at hroom
  have F := func_ok hf
  have p6 := typed_len F.params; have v1024 := typed_len F.vars
  have hbl := F.len; have hlong := F.long
  unfold F_sheetFunction; (try simp only [jn_app, jn_and, jn_imp, jval, bor, band, bnand, bimp, and_self])
  refine ⟨?_, ?_, ?_, fun hl => ?_⟩
  · unfold Lt.preLine Lt.room; omega
  · unfold Lt.preVars Lt.room
    simp only [Lt.sheetLine, List.length_append, List.length_cons, List.length_nil]
    omega
  · unfold Lt.preVars Lt.room
    simp only [Lt.sheetLine, Lt.sheetVars, Lt.varsL, List.length_append, List.length_cons, List.length_nil, List.length_map]
    omega
  · generalize hx0 : (Lt.sheetVars (Lt.sheetVars (Lt.sheetLine s [[102, 117, 110, 99], f.Name, f.Result]).2 [112, 97, 114, 97, 109] f.Params).2 [118, 97, 114] f.Vars).2 = x0
    obtain ⟨x0⟩ := x0
    have hx0l : x0.length ≤ s.l.length + 1031 := by
      have := congrArg (fun x => x.l.length) hx0
      simp only [Lt.sheetLine, Lt.sheetVars, Lt.varsL, List.length_append, List.length_cons, List.length_nil, List.length_map] at this
      omega
    have h' : KK ((), ⟨x0 ++ f.Blocks.flatMap Lt.blockL⟩) := by
      have e : x0 = _ := (congrArg Lt.Sheet.l hx0).symm
      rw [e]
      simp only [Lt.sheetFunction, Lt.funcL, Lt.sheetVars, Lt.sheetLine, List.append_assoc] at h ⊢
      exact h
    refine idx_loopF f.Blocks.length hl (fun k => (⟨x0 ++ (f.Blocks.take k).flatMap Lt.blockL⟩ : Lt.Sheet)) _ (fun R k hk ih => ?_) (fun R => ?_) (by simp)
    · simp only [lt_t hk, if_true, Int.toNat_natCast]
      try dsimp +instances only [Int.toNat_natCast]
      generalize hb : f.Blocks.getD k default = b
      have B := block_ok (getD_list F.bl hk)
      have hpre := blocksL_len (f.Blocks.take k) (fun x hx => F.bl x (mem_take hx))
      have hget := longs_get f.Blocks hk
      have okb := getD_list hok hk
      rw [hb] at B hget okb
      have hlk : (f.Blocks.take k).length ≤ 256 := by rw [List.length_take]; omega
      generalize hX : (f.Blocks.take k).flatMap Lt.blockL = X at hpre
      simp only [flat_snoc Lt.blockL f.Blocks hk, hX, hb] at ih
      have hXl : X.length + 116 * (b.Phis.length + b.Code.length) ≤ 119296 := by omega
      refine ⟨⟨Int.natCast_nonneg k, hk⟩, ?_, fun hl2 => ?_⟩
      · unfold Lt.preLine Lt.room
        simp only [List.length_append]
        omega
      · refine idx_loopF b.Phis.length hl2 (fun j => (⟨x0 ++ X ++ [Lt.ln [[98, 108, 111, 99, 107], b.Name]] ++ (b.Phis.take j).map (fun x => Lt.ln (Lt.phiW x))⟩ : Lt.Sheet)) _ (fun R2 j hj ih2 => ?_) (fun R2 => ?_) (by simp [Lt.sheetLine])
        · simp only [lt_t hj, if_true, Int.toNat_natCast]
          try dsimp +instances only [Int.toNat_natCast]
          refine ⟨⟨Int.natCast_nonneg j, hj⟩, fun hl3 => ?_⟩
          generalize hp : b.Phis.getD j default = x at *
          have P := phi_ok (getD_list B.2.2.1 hj)
          have okx := getD_list okb.1 hj
          rw [hp] at P okx
          have p256 := P.2.2.1
          refine idx_loop x.Ins.length hl3 (fun i => [[112, 104, 105], x.Dst] ++ (x.Ins.take i).flatMap fun i => [i.Block, Lt.wordPut i.A]) _ (fun R3 i hi ih3 => ?_) (fun R3 => ?_) (by simp)
          · simp only [lt_t hi, if_true, Int.toNat_natCast]
            try dsimp +instances only [Int.toNat_natCast]
            refine ⟨⟨Int.natCast_nonneg i, hi⟩, okx.2 _ (mem_getD _ hi), ?_, ?_⟩
            · simp only [List.length_append, flat2, List.length_cons, List.length_nil, List.length_take]
              omega
            · simp only [flat_snoc _ _ hi, ← List.append_assoc] at ih3
              exact ih3
          · simp only [lt_f, Bool.false_eq_true, if_false]
            refine ⟨?_, ?_⟩
            · unfold Lt.preLine Lt.room
              simp only [List.length_append, List.length_map, List.length_take, List.length_cons, List.length_nil]
              omega
            · simp only [map_snoc _ b.Phis hj, ← List.append_assoc, hp] at ih2
              rw [List.take_length]
              exact ih2
        · simp only [lt_f, Bool.false_eq_true, if_false]
          rw [List.take_length]
          intro hl4
          refine idx_loopF b.Code.length hl4 (fun j => (⟨x0 ++ X ++ [Lt.ln [[98, 108, 111, 99, 107], b.Name]] ++ b.Phis.map (fun x => Lt.ln (Lt.phiW x)) ++ (b.Code.take j).flatMap Lt.codeL⟩ : Lt.Sheet)) _ (fun R3 j hj ih2 => ?_) (fun R3 => ?_) (by simp)
          · simp only [lt_t hj, if_true, Int.toNat_natCast]
            try dsimp +instances only [Int.toNat_natCast]
            have hc := flatMap_le Lt.codeL 116 (b.Code.take j) (fun x hx => codeL_len (B.2.2.2 x (mem_take hx)))
            have hcl : (b.Code.take j).length ≤ b.Code.length := by rw [List.length_take]; omega
            have hmul : 116 * (b.Code.take j).length ≤ 116 * b.Code.length := Nat.mul_le_mul_left _ hcl
            refine ⟨⟨Int.natCast_nonneg j, hj⟩, ⟨getD_list okb.2.1 hj, getD_list B.2.2.2 hj, ?_⟩, ?_⟩
            · unfold Lt.room
              simp only [List.length_append, List.length_map, List.length_cons, List.length_nil]
              omega
            · simp only [flat_snoc _ _ hj, ← List.append_assoc] at ih2
              exact ih2
          · simp only [lt_f, Bool.false_eq_true, if_false]
            rw [List.take_length]
            have hc := flatMap_le Lt.codeL 116 b.Code (fun x hx => codeL_len (B.2.2.2 x hx))
            refine ⟨⟨okb.2.2, B.2.1, ?_⟩, ?_⟩
            · unfold Lt.room
              simp only [List.length_append, List.length_map, List.length_cons, List.length_nil]
              omega
            · simp only [Lt.blockL, ← List.append_assoc] at ih
              exact ih
    · simp only [lt_f, Bool.false_eq_true, if_false]
      rw [List.take_length]
      exact h'
end Go.Am
end

section
namespace Go.Am
open Go
set_option linter.unusedVariables false
set_option linter.unusedSimpArgs false

def small (w : List UInt8) : Prop := w.length ≤ 100
instance (w : List UInt8) : Decidable (small w) := inferInstanceAs (Decidable (w.length ≤ 100))
def lineOk (x : Lt.Line) : Prop := x.Words.length ≤ 600 ∧ ∀ w ∈ x.Words, small w

theorem jw_le : ∀ (ws : List (List UInt8)) (b : Bool), (∀ w ∈ ws, small w) → (Lt.jw b ws).length ≤ 101 * ws.length
  | [], _, _ => by simp [Lt.jw]
  | w :: r, b, h => by
    have h1 := jw_le r true (fun x hx => h x (List.mem_cons_of_mem _ hx))
    have h2 : w.length ≤ 100 := h w (by simp)
    rw [Lt.jw]
    simp only [List.length_append, List.length_cons]
    split <;> simp only [List.length_cons, List.length_nil] <;> omega

theorem joinB_small : ∀ (l : List Lt.Line), (∀ x ∈ l, lineOk x) → (Lt.joinB l).length ≤ 60601 * l.length
  | [], _ => by simp [Lt.joinB]
  | x :: l, h => by
    have h1 := joinB_small l (fun y hy => h y (List.mem_cons_of_mem _ hy))
    obtain ⟨h2, h3⟩ := h x (by simp)
    have h4 := jw_le x.Words false h3
    have : 101 * x.Words.length ≤ 101 * 600 := Nat.mul_le_mul_left _ h2
    rw [Lt.joinB, List.flatMap_cons]
    rw [Lt.joinB] at h1
    simp only [List.length_append, List.length_cons, List.length_nil]
    omega

theorem Name_len {s : List UInt8} (h : Lt.Name s = true) : s.length ≤ 16 := by
  unfold Lt.Name at h
  simp only [Bool.and_eq_true, decide_eq_true_eq] at h
  exact h.1.1.1.2
theorem Name_small {s : List UInt8} (h : Lt.Name s = true) : small s := by have := Name_len h; unfold small; omega
theorem kind_small {s : List UInt8} (h : Lt.kind s = true) : small s := by
  unfold Lt.kind at h
  simp only [Bool.or_eq_true, decide_eq_true_eq] at h
  rcases h with (rfl | rfl) | h
  · decide
  · decide
  · exact Name_small h

theorem nthG_len (l : List UInt8) : ∀ (k : Nat) (n : Int) (f i : Nat), (Lt.nthG l k n f i).length ≤ l.length
  | 0, _, _, _ => by simp [Lt.nthG]
  | k + 1, n, f, i => by
    rw [Lt.nthG]
    split
    · split
      · split
        · simp; omega
        · exact nthG_len l k _ _ _
      · exact nthG_len l k _ _ _
    · simp

theorem ite_le {c : Prop} [Decidable c] {a b k : Nat} (h1 : a ≤ k) (h2 : b ≤ k) : (if c then a else b) ≤ k := by split <;> assumption

theorem Of_small (op : Int) : small (Lt.Of op).1.Word := by
  have h1 : (Lt.nth Lt.two op).length ≤ 100 := Nat.le_trans (nthG_len _ _ _ _ _) (by decide)
  have h2 : (Lt.nth [32, 105, 116, 111, 102, 32, 102, 116, 111, 105, 32, 109, 111, 118, 32] (IntKind.i64.wrap (op - 21))).length ≤ 100 := Nat.le_trans (nthG_len _ _ _ _ _) (by decide)
  unfold small Lt.Of
  simp only [apply_ite Prod.fst, apply_ite Lt.Form.Word, apply_ite List.length, List.length_cons, List.length_nil]
  refine ite_le h1 (ite_le h2 ?_)
  repeat refine ite_le (by omega) ?_
  omega

theorem wordRight_cases {a : Lt.Arg} (h : Lt.wordRight a = true) : (a.Kind = 1 ∧ Lt.Name a.S = true ∧ a.N = 0) ∨ (a.Kind = 2 ∧ a.S = []) ∨ (a.Kind = 3 ∧ a.S = [] ∧ Lt.Plain a.N = a.N) ∨ (a.Kind = 4 ∧ a.S = [] ∧ a.N = 0) ∨ (a.Kind = 5 ∧ a.S = [] ∧ 0 ≤ a.N ∧ a.N ≤ 999) := by
  unfold Lt.wordRight at h
  split at h
  · rename_i h1; simp only [Bool.and_eq_true, decide_eq_true_eq] at h; exact .inl ⟨h1, h⟩
  · split at h
    · rename_i h1; simp only [Bool.and_eq_true, decide_eq_true_eq] at h; exact .inr (.inl ⟨h1, h⟩)
    · split at h
      · rename_i h1; simp only [Bool.and_eq_true, decide_eq_true_eq] at h; exact .inr (.inr (.inl ⟨h1, h⟩))
      · split at h
        · rename_i h1; simp only [Bool.and_eq_true, decide_eq_true_eq] at h; exact .inr (.inr (.inr (.inl ⟨h1, h⟩)))
        · split at h
          · rename_i h1; simp only [Bool.and_eq_true, decide_eq_true_eq] at h; exact .inr (.inr (.inr (.inr ⟨h1, h.1.1, h.1.2, h.2⟩)))
          · cases h

theorem wordPut_small {a : Lt.Arg} (h : a.ok) : small (Lt.wordPut a) := by
  have hn := numPut_len h
  have hf := floPut_len a.N
  unfold small Lt.wordPut
  split
  · rename_i hr
    split
    · omega
    · split
      · omega
      · split
        · decide
        · split
          · simp only [List.length_cons]; omega
          · rcases wordRight_cases hr with h | h | h | h | h
            · have := Name_len h.2.1; omega
            · exact absurd h.1 (by assumption)
            · exact absurd h.1 (by assumption)
            · exact absurd h.1 (by assumption)
            · exact absurd h.1 (by assumption)
  · decide

theorem puts_small {l : List Lt.Arg} (h : Lt.argsOk l) : ∀ w ∈ Lt.puts l, small w := by
  intro w hw
  obtain ⟨a, ha, rfl⟩ := List.mem_map.1 hw
  exact wordPut_small (h a ha)

theorem varsL_ok (first : List UInt8) (hf : small first) {l : List Lt.Var} {n : Int} (h : Lt.typed l n = true) : ∀ x ∈ Lt.varsL first l, lineOk x := by
  intro x hx
  obtain ⟨v, hv, rfl⟩ := List.mem_map.1 hx
  unfold Lt.typed at h
  simp only [Bool.and_eq_true, List.all_eq_true] at h
  have := h.2 v hv
  refine ⟨by simp [Lt.ln], fun w hw => ?_⟩
  simp only [Lt.ln, List.mem_cons, List.not_mem_nil, or_false] at hw
  rcases hw with rfl | rfl | rfl
  · exact hf
  · exact Name_small this.1
  · exact kind_small this.2

theorem number_small {n : Int} (h : Lt.inR n) : small (Lt.number n) := by have := numPut_len h; unfold small Lt.number; omega

theorem codeL_ok {i : Lt.Instr} (h : Lt.instr i = true) (hok : i.ok) : ∀ x ∈ Lt.codeL i, lineOk x := by
  have I := instr_ok h
  obtain ⟨okA, okF, okO⟩ := hok
  have a8 := I.args
  intro x hx
  simp only [Lt.codeL, List.mem_append, List.mem_singleton, List.mem_map] at hx
  rcases hx with (rfl | ⟨f, hf, rfl⟩) | ⟨o, ho, rfl⟩
  · refine ⟨?_, fun w hw => ?_⟩
    · simp only [Lt.ln, Lt.words, List.length_append]
      split <;> split <;> (try split) <;> simp only [List.length_cons, List.length_nil, List.length_append, List.length_drop, puts_len] <;> omega
    · have hp := puts_small okA
      simp only [Lt.ln, Lt.words, List.mem_append] at hw
      rcases hw with (hw | hw) | hw
      · split at hw
        · rename_i hd
          simp only [List.mem_cons, List.not_mem_nil, or_false] at hw
          rcases hw with rfl | rfl
          · exact Name_small (I.dstN hd)
          · decide
        · cases hw
      · simp only [List.mem_singleton] at hw
        subst hw
        exact Of_small _
      · split at hw
        · rename_i hc
          have h1 := I.least hc
          simp only [List.mem_cons] at hw
          rcases hw with rfl | rfl | hw
          · exact hp _ (mem_getD _ (by rw [puts_len]; omega))
          · have : (Lt.Of i.Op).1.Named = true := by rcases hc with e | e <;> rw [e] <;> decide
            exact Name_small (I.nmN this)
          · exact hp _ (List.mem_of_mem_drop hw)
        · simp only [List.mem_append] at hw
          rcases hw with hw | hw
          · split at hw
            · rename_i hd
              simp only [List.mem_singleton] at hw
              subst hw
              exact Name_small (I.nmN hd)
            · cases hw
          · exact hp _ hw
  · have V := frame_ok (I.fr f hf)
    refine ⟨?_, fun w hw => ?_⟩
    · have := V.2.2.2.2.1
      simp only [Lt.ln, Lt.frameW, List.length_append, flat2, List.length_cons, List.length_nil]
      omega
    · simp only [Lt.ln, Lt.frameW, List.mem_append, List.mem_cons, List.not_mem_nil, or_false, List.mem_flatMap] at hw
      rcases hw with (rfl | rfl | rfl | rfl) | ⟨b, hb, rfl | rfl⟩
      · decide
      · exact Name_small V.1
      · exact Name_small V.2.1
      · have := V.2.2.1; have := V.2.2.2.1
        exact number_small ⟨by omega, by omega⟩
      · have := V.2.2.2.2.2 b hb
        unfold Lt.bindRight at this
        rw [Bool.and_eq_true] at this
        exact Name_small this.1
      · exact wordPut_small ((okF f hf).2 b hb)
  · have V := virt_ok (I.ob o ho)
    refine ⟨?_, fun w hw => ?_⟩
    · simp only [Lt.ln, Lt.virtW, List.length_append, puts_len, List.length_cons, List.length_nil]
      omega
    · simp only [Lt.ln, Lt.virtW, List.mem_append, List.mem_cons, List.not_mem_nil, or_false] at hw
      rcases hw with (rfl | rfl) | hw
      · decide
      · exact Name_small V.1
      · exact puts_small (okO o ho) _ hw

theorem endW_ok {t : Lt.Term} (h : Lt.showEnd t = true) (hok : t.ok) : lineOk (Lt.ln (Lt.endW t)) := by
  unfold Lt.showEnd at h
  rw [Bool.and_eq_true, List.all_eq_true] at h
  obtain ⟨h1, h2⟩ := h
  refine ⟨?_, fun w hw => ?_⟩
  · simp only [Lt.ln, Lt.endW]
    repeat' split
    all_goals simp
  · simp only [Lt.ln, Lt.endW] at hw
    split at hw
    · rename_i hc
      rw [if_pos hc] at h2
      simp only [Bool.and_eq_true, decide_eq_true_eq] at h2
      simp only [List.mem_cons, List.not_mem_nil, or_false] at hw
      rcases hw with rfl | rfl
      · decide
      · exact Name_small (h1 _ (mem_getD _ (by omega)))
    · rename_i hc
      rw [if_neg hc] at h2
      split at hw
      · rename_i hc
        rw [if_pos hc] at h2
        simp only [Bool.and_eq_true, decide_eq_true_eq] at h2
        simp only [List.mem_cons, List.not_mem_nil, or_false] at hw
        rcases hw with rfl | rfl | rfl | rfl
        · decide
        · exact wordPut_small hok.1
        · exact Name_small (h1 _ (mem_getD _ (by omega)))
        · exact Name_small (h1 _ (mem_getD _ (by omega)))
      · split at hw
        · simp only [List.mem_cons, List.not_mem_nil, or_false] at hw
          rcases hw with rfl | rfl
          · decide
          · exact wordPut_small hok.1
        · simp only [List.mem_cons, List.not_mem_nil, or_false] at hw
          rcases hw with rfl | rfl
          · decide
          · exact number_small hok.2

theorem blockL_ok {b : Lt.Block} (h : Lt.block b = true) (hok : b.ok) : ∀ x ∈ Lt.blockL b, lineOk x := by
  have B := block_ok h
  intro x hx
  simp only [Lt.blockL, List.mem_append, List.mem_singleton, List.mem_map, List.mem_flatMap] at hx
  rcases hx with ((rfl | ⟨y, hy, rfl⟩) | ⟨i, hi, hx⟩) | rfl
  · refine ⟨by simp [Lt.ln], fun w hw => ?_⟩
    simp only [Lt.ln, List.mem_cons, List.not_mem_nil, or_false] at hw
    rcases hw with rfl | rfl
    · decide
    · exact Name_small B.1
  · have P := phi_ok (B.2.2.1 y hy)
    refine ⟨?_, fun w hw => ?_⟩
    · have := P.2.2.1
      simp only [Lt.ln, Lt.phiW, List.length_append, flat2, List.length_cons, List.length_nil]
      omega
    · simp only [Lt.ln, Lt.phiW, List.mem_append, List.mem_cons, List.not_mem_nil, or_false, List.mem_flatMap] at hw
      rcases hw with (rfl | rfl) | ⟨b', hb, rfl | rfl⟩
      · decide
      · exact Name_small P.1
      · have := P.2.2.2 b' hb
        unfold Lt.inRight at this
        rw [Bool.and_eq_true] at this
        exact Name_small this.1
      · exact wordPut_small ((hok.1 y hy).2 b' hb)
  · exact codeL_ok (B.2.2.2 i hi) (hok.2.1 i hi) x hx
  · exact endW_ok B.2.1 hok.2.2

theorem funcL_ok {f : Lt.Func} (h : Lt.showFunction f = true) (hok : f.ok) : ∀ x ∈ Lt.funcL f, lineOk x := by
  have F := func_ok h
  intro x hx
  simp only [Lt.funcL, List.mem_append, List.mem_singleton, List.mem_flatMap] at hx
  rcases hx with ((rfl | hx) | hx) | ⟨b, hb, hx⟩
  · refine ⟨by simp [Lt.ln], fun w hw => ?_⟩
    simp only [Lt.ln, List.mem_cons, List.not_mem_nil, or_false] at hw
    rcases hw with rfl | rfl | rfl
    · decide
    · exact Name_small F.name
    · exact kind_small F.res
  · exact varsL_ok _ (by decide) F.params x hx
  · exact varsL_ok _ (by decide) F.vars x hx
  · exact blockL_ok (F.bl b hb) (hok b hb) x hx

theorem progL_ok {p : Lt.Program} (h : Lt.showRight p = true) (hok : p.ok) : ∀ x ∈ Lt.progL p, lineOk x := by
  have P := prog_ok h
  intro x hx
  simp only [Lt.progL, List.mem_append, List.mem_flatMap, List.mem_map] at hx
  rcases hx with (((hx | ⟨c, hc, hx⟩) | hx) | ⟨e, he, rfl⟩) | ⟨f, hf, hx⟩
  · split at hx
    · simp only [List.mem_singleton] at hx
      subst hx
      refine ⟨by simp [Lt.ln], fun w hw => ?_⟩
      simp only [Lt.ln, List.mem_singleton] at hw
      subst hw
      decide
    · cases hx
  · have C := P.cl c hc
    unfold Lt.classRight at C
    rw [Bool.and_eq_true] at C
    simp only [Lt.classL, List.mem_append, List.mem_singleton] at hx
    rcases hx with rfl | hx
    · refine ⟨by simp [Lt.ln], fun w hw => ?_⟩
      simp only [Lt.ln, List.mem_cons, List.not_mem_nil, or_false] at hw
      rcases hw with rfl | rfl
      · decide
      · exact Name_small C.1
    · exact varsL_ok _ (by decide) C.2 x hx
  · exact varsL_ok _ (by decide) P.glob x hx
  · have E := P.ex e he
    unfold Lt.externRight at E
    simp only [Bool.and_eq_true, decide_eq_true_eq] at E
    refine ⟨by simp [Lt.ln, Lt.externL], fun w hw => ?_⟩
    simp only [Lt.ln, Lt.externL, List.mem_cons, List.not_mem_nil, or_false] at hw
    rcases hw with rfl | rfl | rfl
    · decide
    · exact Name_small E.1.1
    · exact number_small ⟨by omega, by omega⟩
  · exact funcL_ok (P.fn f hf) (hok f hf) x hx

theorem classL_len {c : Lt.Class} (h : Lt.classRight c = true) : (Lt.classL c).length ≤ 9 := by
  unfold Lt.classRight at h
  rw [Bool.and_eq_true] at h
  have := typed_len h.2
  simp only [Lt.classL, Lt.varsL, List.length_append, List.length_map, List.length_cons, List.length_nil]
  omega

theorem progL_len {p : Lt.Program} (h : Lt.showRight p = true) : (Lt.progL p).length ≤ 1050000 := by
  have P := prog_ok h
  have h1 := flatMap_le Lt.classL 9 p.Classes (fun c hc => classL_len (P.cl c hc))
  have h2 := flatMap_le Lt.funcL 130000 p.Funcs (fun f hf => funcL_len (P.fn f hf))
  have h3 := typed_len P.glob
  have := P.nc; have := P.ne; have := P.nf
  have h4 : (if p.SSA = true then [Lt.ln [[115, 115, 97]]] else []).length ≤ 1 := by split <;> simp
  simp only [Lt.progL, Lt.varsL, List.length_append, List.length_map]
  omega

theorem law_showText (p : Lt.Program) (hp : Lt.preText p) (KK : List UInt8 × Int → Prop) (h : KK (Lt.showText p)) : F_showText p KK := by
  unfold Lt.preText at hp
  unfold F_showText; (try simp only [jn_app, jn_and, jn_imp, jval, bor, band, bnand, bimp, and_self])
  unfold Lt.showText at h
  refine ifk (fun hc => kk h (by grind)) (fun hr => ?_)
  replace hr : Lt.showRight p = true := by simpa using hr
  have P := prog_ok hr
  have hnc := P.nc; have hne := P.ne; have hnf := P.nf
  have hglob := typed_len P.glob
  rw [hr, if_pos rfl] at h
  have hjb : (Lt.joinB (Lt.progL p)).length ≤ 140737488355328 := by
    have h1 := joinB_small _ (progL_ok hr hp)
    have h2 := progL_len hr
    omega
  intro J hJ
  have j1 : ∀ x : List Lt.Line, x = (if p.SSA = true then [Lt.ln [[115, 115, 97]]] else []) → J ⟨x⟩ := by
    intro x hx
    refine hJ _ (fun hl => ?_)
    have hxl : x.length ≤ 1 := by rw [hx]; split <;> simp
    refine idx_loopF p.Classes.length hl (fun i => (⟨x ++ (p.Classes.take i).flatMap Lt.classL⟩ : Lt.Sheet)) _ (fun R i hi ih => ?_) (fun R => ?_) (by simp)
    · simp only [lt_t hi, if_true, Int.toNat_natCast]
      try dsimp +instances only [Int.toNat_natCast]
      have C := getD_list P.cl hi
      have hC := C
      unfold Lt.classRight at C
      rw [Bool.and_eq_true] at C
      have hcl := flatMap_le Lt.classL 9 (p.Classes.take i) (fun c hc => classL_len (P.cl c (mem_take hc)))
      have hct : (p.Classes.take i).length ≤ 8 := by rw [List.length_take]; omega
      have htl := typed_len C.2
      refine ⟨⟨Int.natCast_nonneg i, hi⟩, ?_, ?_, ?_⟩
      · unfold Lt.preLine Lt.room
        simp only [List.length_append]; omega
      · unfold Lt.preVars Lt.room
        simp only [Lt.sheetLine, List.length_append, List.length_cons, List.length_nil]; omega
      · simp only [flat_snoc _ _ hi, ← List.append_assoc, Lt.classL] at ih
        exact ih
    · simp only [lt_f, Bool.false_eq_true, if_false]
      rw [List.take_length]
      have hcl := flatMap_le Lt.classL 9 p.Classes (fun c hc => classL_len (P.cl c hc))
      refine ⟨?_, fun hl2 => ?_⟩
      · unfold Lt.preVars Lt.room
        simp only [List.length_append]; omega
      · generalize hy : (Lt.sheetVars ⟨x ++ p.Classes.flatMap Lt.classL⟩ [103, 108, 111, 98, 97, 108] p.Globals).2 = y
        obtain ⟨y⟩ := y
        have hy' := congrArg Lt.Sheet.l hy
        have hyl : y.length ≤ 100 := by
          rw [show y = _ from hy'.symm]
          simp only [Lt.sheetVars, Lt.varsL, List.length_append, List.length_map]
          omega
        refine idx_loopF p.Externs.length hl2 (fun i => (⟨y ++ (p.Externs.take i).map Lt.externL⟩ : Lt.Sheet)) _ (fun R i hi ih => ?_) (fun R => ?_) (by simp)
        · simp only [lt_t hi, if_true, Int.toNat_natCast]
          try dsimp +instances only [Int.toNat_natCast]
          have E := getD_list P.ex hi
          unfold Lt.externRight at E
          simp only [Bool.and_eq_true, decide_eq_true_eq] at E
          refine ⟨⟨Int.natCast_nonneg i, hi⟩, ⟨by omega, by omega⟩, ?_, ?_⟩
          · unfold Lt.preLine Lt.room
            simp only [List.length_append, List.length_map, List.length_take]; omega
          · simp only [map_snoc _ _ hi, ← List.append_assoc] at ih
            exact ih
        · simp only [lt_f, Bool.false_eq_true, if_false]
          rw [List.take_length]
          intro hl3
          refine idx_loopF p.Funcs.length hl3 (fun i => (⟨y ++ p.Externs.map Lt.externL ++ (p.Funcs.take i).flatMap Lt.funcL⟩ : Lt.Sheet)) _ (fun R i hi ih => ?_) (fun R => ?_) (by simp)
          · simp only [lt_t hi, if_true, Int.toNat_natCast]
            try dsimp +instances only [Int.toNat_natCast]
            have hcl := flatMap_le Lt.funcL 130000 (p.Funcs.take i) (fun f hf => funcL_len (P.fn f (mem_take hf)))
            have hct : (p.Funcs.take i).length ≤ 8 := by rw [List.length_take]; omega
            refine ⟨⟨Int.natCast_nonneg i, hi⟩, ⟨getD_list hp hi, getD_list P.fn hi, ?_⟩, ?_⟩
            · unfold Lt.room
              simp only [List.length_append, List.length_map]; omega
            · simp only [flat_snoc _ _ hi, ← List.append_assoc] at ih
              exact ih
          · simp only [lt_f, Bool.false_eq_true, if_false]
            rw [List.take_length]
            have e : y ++ p.Externs.map Lt.externL ++ p.Funcs.flatMap Lt.funcL = Lt.progL p := by
              rw [show y = _ from hy'.symm, Lt.progL, ← hx]; rfl
            rw [e]
            refine ⟨hjb, fun _ => kk h ?_⟩
            unfold Lt.Join
            grind
  exact ifk (fun hs => ⟨by unfold Lt.preLine Lt.room; simp, j1 _ (by rw [if_pos hs]; rfl)⟩) (fun hs => j1 _ (by rw [if_neg hs]))
end Go.Am
end
