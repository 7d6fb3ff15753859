/-
  Part 11: AmG · AmN1 · AmN2 · AmN3 · AmN4 · AmN5 · AmN6 · AmN7 · AmN8 · AmR1.
-/
import Derived.Test.YtlikflolhhlgjaaDoorTx10
set_option linter.unusedSimpArgs false
set_option linter.unusedVariables false
set_option linter.unusedSectionVars false
set_option linter.unnecessarySimpa false
section
namespace Go.Am
open Go
set_option linter.unusedVariables false
def F_awake (KK:Bool->Prop):Prop:=
 (Lt.preText (Lt.example6 (Lt.Term.mk 3 (Lt.Arg.mk 2 ([]:List UInt8) 5) [] 0)))/\(Lt.preText (Lt.example6 (Lt.Term.mk 0 (Lt.Arg.mk 0 ([]:List UInt8) 0) [] 0)))/\joinP (α:=Bool) (fun J1=>if (decide ((Lt.showText (Lt.example6 (Lt.Term.mk 3 (Lt.Arg.mk 2 ([]:List UInt8) 5) [] 0))).2=0))=true then (if (decide ((Lt.showText (Lt.example6 (Lt.Term.mk 3 (Lt.Arg.mk 2 ([]:List UInt8) 5) [] 0))).1=[102,117,110,99,32,102,32,105,110,116,10,98,108,111,99,107,32,98,10,114,101,116,32,53,10]))=true then (J1 (decide ((Lt.showText (Lt.example6 (Lt.Term.mk 0 (Lt.Arg.mk 0 ([]:List UInt8) 0) [] 0))).2=1))) else (J1 false)) else (J1 false)) (fun v2=>KK v2)
def F_Few (a0_p:Lt.Program) (a1_most:Int) (KK:Bool->Prop):Prop:=
 joinP (α:=Bool) (fun J1=>(a0_p.Classes.length<=4611686018427387904->if (decide (50 < (a0_p.Classes.length:Int)))=true then (J1 true) else (if (decide (50 < (a0_p.Externs.length:Int)))=true then (J1 true) else (J1 (decide (50 < (a0_p.Funcs.length:Int))))))) (fun v2=>if v2=true then (KK false) else (loopP (α:=Int×Int) (fun R3 v4=>have z2:=a0_p.Classes.getD v4.2.toNat default; have z1:=(IntKind.i64.wrap (v4.1+((z2.Name).length:Int))); joinP (α:=Bool) (fun J5=>(a0_p.Classes.length<=4611686018427387904->if (decide (v4.2 < (a0_p.Classes.length:Int)))=true then (J5 (decide (v4.1<=a1_most))) else (J5 false))) (fun v6=>if v6=true then (joinP (α:=Int) (fun J7=>((0:Int)<=v4.2/\v4.2.toNat<a0_p.Classes.length)/\((z2.Name).length<=4611686018427387904->if (decide (z1<=a1_most))=true then (((0:Int)<=v4.2/\v4.2.toNat<a0_p.Classes.length)/\J7 (IntKind.i64.wrap (z1+(Lt.countVars (z2.Fields) a1_most)))) else (J7 z1))) (fun v8=>R3 (v8,(IntKind.i64.wrap (v4.2+1))))) else (loopP (α:=Int×Int) (fun R9 v10=>joinP (α:=Bool) (fun J11=>(a0_p.Externs.length<=4611686018427387904->if (decide (v10.2 < (a0_p.Externs.length:Int)))=true then (J11 (decide (v10.1<=a1_most))) else (J11 false))) (fun v12=>if v12=true then (((0:Int)<=v10.2/\v10.2.toNat<a0_p.Externs.length)/\(((a0_p.Externs.getD v10.2.toNat default).Name).length<=4611686018427387904->R9 ((IntKind.i64.wrap ((IntKind.i64.wrap (v10.1+1))+(((a0_p.Externs.getD v10.2.toNat default).Name).length:Int))),(IntKind.i64.wrap (v10.2+1))))) else (loopP (α:=Int×Int) (fun R13 v14=>joinP (α:=Bool) (fun J15=>(a0_p.Funcs.length<=4611686018427387904->if (decide (v14.2 < (a0_p.Funcs.length:Int)))=true then (J15 (decide (v14.1<=a1_most))) else (J15 false))) (fun v16=>if v16=true then (((0:Int)<=v14.2/\v14.2.toNat<a0_p.Funcs.length)/\(Lt.preFF (a0_p.Funcs.getD v14.2.toNat default) a1_most)/\R13 ((IntKind.i64.wrap (v14.1+(Lt.FewFunc (a0_p.Funcs.getD v14.2.toNat default) a1_most))),(IntKind.i64.wrap (v14.2+1)))) else (KK (decide (v14.1<=a1_most))))) (v10.1,0)))) (v4.1,0)))) ((Lt.countVars a0_p.Globals a1_most),0)))
def F_showText (a0_p:Lt.Program) (KK:(List UInt8×Int)->Prop):Prop:=
 if (!(Lt.showRight a0_p))=true then (KK (([]:List UInt8),1)) else (joinP (α:=Lt.Sheet) (fun J1=>if a0_p.SSA=true then ((Lt.preLine (Lt.Sheet.mk []) [[115,115,97]])/\J1 ((Lt.sheetLine (Lt.Sheet.mk []) [[115,115,97]]).2)) else (J1 (Lt.Sheet.mk []))) (fun v2=>(a0_p.Classes.length<=4611686018427387904->loopP (α:=Int×Lt.Sheet) (fun R3 v4=>have z2:=a0_p.Classes.getD v4.1.toNat default; if (decide (v4.1 < (a0_p.Classes.length:Int)))=true then (((0:Int)<=v4.1/\v4.1.toNat<a0_p.Classes.length)/\(Lt.preLine v4.2 [[99,108,97,115,115],z2.Name])/\(Lt.preVars ((Lt.sheetLine v4.2 [[99,108,97,115,115],z2.Name]).2) [102,105,101,108,100] (z2.Fields))/\R3 ((IntKind.i64.wrap (v4.1+1)),((Lt.sheetVars ((Lt.sheetLine v4.2 [[99,108,97,115,115],z2.Name]).2) [102,105,101,108,100] (z2.Fields)).2))) else ((Lt.preVars v4.2 [103,108,111,98,97,108] a0_p.Globals)/\(a0_p.Externs.length<=4611686018427387904->loopP (α:=Int×Lt.Sheet) (fun R5 v6=>have z3:=a0_p.Externs.getD v6.1.toNat default; if (decide (v6.1 < (a0_p.Externs.length:Int)))=true then (joinP (α:=Lt.Sheet) (fun J7=>have z1:=(Lt.preNum (z3.N))/\(Lt.preLine v6.2 [[101,120,116,101,114,110],z3.Name,(Lt.number (z3.N))])/\J7 ((Lt.sheetLine v6.2 [[101,120,116,101,114,110],z3.Name,(Lt.number (z3.N))]).2); ((0:Int)<=v6.1/\v6.1.toNat<a0_p.Externs.length)/\z1/\z1) (fun v8=>R5 ((IntKind.i64.wrap (v6.1+1)),v8))) else ((a0_p.Funcs.length<=4611686018427387904->loopP (α:=Int×Lt.Sheet) (fun R9 v10=>if (decide (v10.1 < (a0_p.Funcs.length:Int)))=true then (((0:Int)<=v10.1/\v10.1.toNat<a0_p.Funcs.length)/\(Lt.preFunction v10.2 (a0_p.Funcs.getD v10.1.toNat default))/\R9 ((IntKind.i64.wrap (v10.1+1)),((Lt.sheetFunction v10.2 (a0_p.Funcs.getD v10.1.toNat default)).2))) else ((Lt.preJoin v10.2.l)/\((Lt.Join v10.2.l).length<=4611686018427387904->if (decide (4194304 < ((Lt.Join v10.2.l).length:Int)))=true then (KK (([]:List UInt8),2)) else (KK ((Lt.Join v10.2.l),0))))) (0,v6.2)))) (0,((Lt.sheetVars v4.2 [103,108,111,98,97,108] a0_p.Globals).2))))) (0,v2))))
def F_showRight (a0_p:Lt.Program) (KK:Bool->Prop):Prop:=
 joinP (α:=Bool) (fun J1=>(a0_p.Classes.length<=4611686018427387904->if (decide (8 < (a0_p.Classes.length:Int)))=true then (J1 true) else (if (decide (8 < (a0_p.Externs.length:Int)))=true then (J1 true) else (if (decide (8 < (a0_p.Funcs.length:Int)))=true then (J1 true) else (J1 (!(Lt.typed a0_p.Globals 8))))))) (fun v2=>if v2=true then (KK false) else ((a0_p.Classes.length<=4611686018427387904->loopP (α:=Int) (fun R3 v4=>if (decide (v4 < (a0_p.Classes.length:Int)))=true then (((0:Int)<=v4/\v4.toNat<a0_p.Classes.length)/\joinP (α:=Bool) (fun J5=>if (!(Lt.Name ((a0_p.Classes.getD v4.toNat default).Name)))=true then (J5 true) else (J5 (!(Lt.typed ((a0_p.Classes.getD v4.toNat default).Fields) 8)))) (fun v6=>if v6=true then (KK false) else (R3 (IntKind.i64.wrap (v4+1))))) else ((a0_p.Externs.length<=4611686018427387904->loopP (α:=Int) (fun R7 v8=>have z1:=a0_p.Externs.getD v8.toNat default; if (decide (v8 < (a0_p.Externs.length:Int)))=true then (((0:Int)<=v8/\v8.toNat<a0_p.Externs.length)/\joinP (α:=Bool) (fun J9=>if (!(Lt.Name (z1.Name)))=true then (J9 true) else (if (decide (z1.N < 0))=true then (J9 true) else (J9 (decide (8<z1.N))))) (fun v10=>if v10=true then (KK false) else (R7 (IntKind.i64.wrap (v8+1))))) else ((a0_p.Funcs.length<=4611686018427387904->loopP (α:=Int) (fun R11 v12=>if (decide (v12 < (a0_p.Funcs.length:Int)))=true then (((0:Int)<=v12/\v12.toNat<a0_p.Funcs.length)/\if (!(Lt.showFunction (a0_p.Funcs.getD v12.toNat default)))=true then (KK false) else (R11 (IntKind.i64.wrap (v12+1)))) else (KK true)) 0))) 0))) 0)))
def F_Of (a0_op:Int) (KK:(Lt.Form×Bool)->Prop):Prop:=
 joinP (α:=Bool) (fun J1=>if (decide (1<=a0_op))=true then (J1 (decide (a0_op<=21))) else (J1 false)) (fun v2=>if v2=true then (KK ((Lt.Form.mk (Lt.nth (32::97::100::100::32::115::117::98::32::109::117::108::32::100::105::118::32::114::101::109::32::97::110::100::32::111::114::32::120::111::114::32::115::104::108::32::115::104::114::32::101::113::32::110::101::32::108::116::32::108::101::32::102::97::100::100::32::102::115::117::98::32::102::109::117::108::32::102::100::105::118::32::102::101::113::32::102::108::116::32::102::108::101::32::([]:List UInt8)) a0_op) true false 2 2),true)) else (joinP (α:=Bool) (fun J3=>if (decide (22<=a0_op))=true then (J3 (decide (a0_op<=24))) else (J3 false)) (fun v4=>if v4=true then (KK ((Lt.Form.mk (Lt.nth [32,105,116,111,102,32,102,116,111,105,32,109,111,118,32] (IntKind.i64.wrap (a0_op - 21))) true false 1 1),true)) else (if (decide (a0_op=25))=true then (KK ((Lt.Form.mk [110,101,119] true true 0 8),true)) else (if (decide (a0_op=26))=true then (KK ((Lt.Form.mk [108,111,97,100] true true 1 1),true)) else (if (decide (a0_op=27))=true then (KK ((Lt.Form.mk [115,116,111,114,101] false true 2 2),true)) else (if (decide (a0_op=28))=true then (KK ((Lt.Form.mk [115,97,109,101] true false 2 2),true)) else (if (decide (a0_op=29))=true then (KK ((Lt.Form.mk [103,108,111,97,100] true true 0 0),true)) else (if (decide (a0_op=30))=true then (KK ((Lt.Form.mk [103,115,116,111,114,101] false true 1 1),true)) else (if (decide (a0_op=31))=true then (KK ((Lt.Form.mk [99,97,108,108] true true 0 8),true)) else (if (decide (a0_op=32))=true then (KK ((Lt.Form.mk [101,120,116] true true 0 8),true)) else (if (decide (a0_op=33))=true then (KK ((Lt.Form.mk [111,117,116] false false 1 1),true)) else (if (decide (a0_op=34))=true then (KK ((Lt.Form.mk [103,117,97,114,100] false false 0 0),true)) else (KK ((Lt.Form.mk ([]:List UInt8) false false 0 0),false)))))))))))))))
def F_rOf (a0_op:Int) (KK:(Lt.RForm×Bool)->Prop):Prop:=
 have z1:=gw.getD a0_op.toNat default; have z4:=Lt.RForm.mk z1 false (decide (a0_op<=32)) 0 0; have z3:=Lt.RForm.mk z1 (!decide (a0_op=34)) true 0 0; have z2:=Lt.RForm.mk z1 false true 0 0; joinP (α:=Bool) (fun J1=>if (decide (a0_op < 1))=true then (J1 true) else (J1 (decide (34<a0_op)))) (fun v2=>if v2=true then (KK ((Lt.RForm.mk ([]:List UInt8) false false 0 0),false)) else (joinP (α:=Lt.RForm) (fun J3=>((0:Int)<=a0_op/\a0_op < ((35:Nat):Int))/\a0_op.toNat<gw.length/\if (!decide (a0_op=27))=true then (if (!decide (a0_op=30))=true then (if (!decide (a0_op=33))=true then (if (decide (a0_op=25))=true then (J3 z3) else (if (decide (a0_op=26))=true then (J3 z3) else (if (decide (a0_op=27))=true then (J3 z3) else (if (decide (29<=a0_op))=true then (J3 (Lt.RForm.mk z1 (!decide (a0_op=34)) (decide (a0_op<=32)) 0 0)) else (J3 (Lt.RForm.mk z1 (!decide (a0_op=34)) false 0 0)))))) else (if (decide (a0_op=25))=true then (J3 z2) else (if (decide (a0_op=26))=true then (J3 z2) else (if (decide (a0_op=27))=true then (J3 z2) else (if (decide (29<=a0_op))=true then (J3 z4) else (J3 (Lt.RForm.mk z1 false false 0 0))))))) else (if (decide (a0_op=25))=true then (J3 z2) else (if (decide (a0_op=26))=true then (J3 z2) else (if (decide (a0_op=27))=true then (J3 z2) else (if (decide (29<=a0_op))=true then (J3 z4) else (J3 (Lt.RForm.mk z1 false false 0 0))))))) else (if (decide (a0_op=25))=true then (J3 z2) else (if (decide (a0_op=26))=true then (J3 z2) else (if (decide (a0_op=27))=true then (J3 z2) else (if (decide (29<=a0_op))=true then (J3 z4) else (J3 (Lt.RForm.mk z1 false false 0 0))))))) (fun v4=>joinP (α:=Lt.RForm) (fun J5=>joinP (α:=Bool) (fun J7=>if (decide (a0_op=22))=true then (J7 (decide (a0_op=22))) else (if (decide (a0_op=23))=true then (J7 (decide (a0_op=23))) else (if (decide (a0_op=24))=true then (J7 (decide (a0_op=24))) else (if (decide (a0_op=26))=true then (J7 (decide (a0_op=26))) else (if (decide (a0_op=30))=true then (J7 (decide (a0_op=30))) else (J7 (decide (a0_op=33)))))))) (fun v8=>if v8=true then (J5 (Lt.RForm.mk v4.Word v4.Dst v4.Named 1 1)) else (joinP (α:=Bool) (fun J9=>if (decide (a0_op=25))=true then (J9 (decide (a0_op=25))) else (if (decide (a0_op=31))=true then (J9 (decide (a0_op=31))) else (J9 (decide (a0_op=32))))) (fun v10=>if v10=true then (J5 (Lt.RForm.mk v4.Word v4.Dst v4.Named v4.Least 8)) else (joinP (α:=Bool) (fun J11=>if (decide (a0_op=29))=true then (J11 (decide (a0_op=29))) else (J11 (decide (a0_op=34)))) (fun v12=>if v12=true then (J5 (Lt.RForm.mk v4.Word v4.Dst v4.Named v4.Least 0)) else (J5 (Lt.RForm.mk v4.Word v4.Dst v4.Named 2 2)))))))) (fun v6=>KK (v6,true)))))
def F_Same (a0_a:Lt.Program) (a1_b:Lt.Program) (KK:Bool->Prop):Prop:=
 joinP (α:=Bool) (fun J1=>if (!(a0_a.SSA==a1_b.SSA))=true then (J1 true) else (if (!decide ((a0_a.Classes.length:Int)=(a1_b.Classes.length:Int)))=true then (J1 true) else (if (!(Lt.sameVars a0_a.Globals a1_b.Globals))=true then (J1 true) else (if (!decide ((a0_a.Externs.length:Int)=(a1_b.Externs.length:Int)))=true then (J1 true) else (J1 (!decide ((a0_a.Funcs.length:Int)=(a1_b.Funcs.length:Int)))))))) (fun v2=>if v2=true then (KK false) else (loopP (α:=Int) (fun R3 v4=>(a0_a.Classes.length<=4611686018427387904->if (decide (v4 < (a0_a.Classes.length:Int)))=true then (joinP (α:=Bool) (fun J5=>((0:Int)<=v4/\v4.toNat<a0_a.Classes.length)/\((0:Int)<=v4/\v4.toNat<a1_b.Classes.length)/\if (!decide ((a0_a.Classes.getD v4.toNat default).Name=(a1_b.Classes.getD v4.toNat default).Name))=true then (J5 true) else (((0:Int)<=v4/\v4.toNat<a0_a.Classes.length)/\((0:Int)<=v4/\v4.toNat<a1_b.Classes.length)/\J5 (!(Lt.sameVars ((a0_a.Classes.getD v4.toNat default).Fields) ((a1_b.Classes.getD v4.toNat default).Fields))))) (fun v6=>if v6=true then (KK false) else (R3 (IntKind.i64.wrap (v4+1))))) else (loopP (α:=Int) (fun R7 v8=>(a0_a.Externs.length<=4611686018427387904->if (decide (v8 < (a0_a.Externs.length:Int)))=true then (((0:Int)<=v8/\v8.toNat<a0_a.Externs.length)/\((0:Int)<=v8/\v8.toNat<a1_b.Externs.length)/\if (!(decide ((a0_a.Externs.getD v8.toNat default).Name=(a1_b.Externs.getD v8.toNat default).Name)&&decide ((a0_a.Externs.getD v8.toNat default).N=(a1_b.Externs.getD v8.toNat default).N)))=true then (KK false) else (R7 (IntKind.i64.wrap (v8+1)))) else (loopP (α:=Int) (fun R9 v10=>(a0_a.Funcs.length<=4611686018427387904->if (decide (v10 < (a0_a.Funcs.length:Int)))=true then (((0:Int)<=v10/\v10.toNat<a0_a.Funcs.length)/\((0:Int)<=v10/\v10.toNat<a1_b.Funcs.length)/\if (!(Lt.SameFunc (a0_a.Funcs.getD v10.toNat default) (a1_b.Funcs.getD v10.toNat default)))=true then (KK false) else (R9 (IntKind.i64.wrap (v10+1)))) else (KK true))) 0))) 0))) 0))
def F_example6 (a0_end:Lt.Term) (KK:Lt.Program->Prop):Prop:=
 KK (Lt.Program.mk false [] [] [] [(Lt.Func.mk [102] [105,110,116] [] [] [(Lt.Block.mk [98] [] [] a0_end)])])
def F_countVars (a0_l:List Lt.Var) (a1_most:Int) (KK:Int->Prop):Prop:=
 (a0_l.length<=4611686018427387904->if (decide (a1_most < (a0_l.length:Int)))=true then (KK (IntKind.i64.wrap (a1_most+1))) else ((a0_l.length<=4611686018427387904->loopP (α:=Int×Int) (fun R1 v2=>joinP (α:=Bool) (fun J3=>(a0_l.length<=4611686018427387904->if (decide (v2.2 < (a0_l.length:Int)))=true then (J3 (decide (v2.1<=a1_most))) else (J3 false))) (fun v4=>if v4=true then (joinP (α:=Int) (fun J5=>((0:Int)<=v2.2/\v2.2.toNat<a0_l.length)/\(((a0_l.getD v2.2.toNat default).Name).length<=4611686018427387904->if (decide ((IntKind.i64.wrap (v2.1+(((a0_l.getD v2.2.toNat default).Name).length:Int)))<=a1_most))=true then (((0:Int)<=v2.2/\v2.2.toNat<a0_l.length)/\(((a0_l.getD v2.2.toNat default).Type_).length<=4611686018427387904->J5 (IntKind.i64.wrap ((IntKind.i64.wrap (v2.1+(((a0_l.getD v2.2.toNat default).Name).length:Int)))+(((a0_l.getD v2.2.toNat default).Type_).length:Int))))) else (J5 (IntKind.i64.wrap (v2.1+(((a0_l.getD v2.2.toNat default).Name).length:Int)))))) (fun v6=>R1 (v6,(IntKind.i64.wrap (v2.2+1))))) else (KK v2.1))) ((a0_l.length:Int),0))))
def F_FewFunc (a0_f:Lt.Func) (a1_most:Int) (KK:Int->Prop):Prop:=
 have z3:=(IntKind.i64.wrap (1+(a0_f.Name.length:Int))); (a0_f.Blocks.length<=4611686018427387904->if (decide (a1_most < (a0_f.Blocks.length:Int)))=true then (KK (IntKind.i64.wrap (a1_most+1))) else ((a0_f.Name.length<=4611686018427387904->joinP (α:=Int) (fun J1=>if (decide (z3<=a1_most))=true then ((a0_f.Result.length<=4611686018427387904->J1 (IntKind.i64.wrap (z3+(a0_f.Result.length:Int))))) else (J1 z3)) (fun v2=>joinP (α:=Int) (fun J3=>if (decide (v2<=a1_most))=true then (J3 (IntKind.i64.wrap (v2+(Lt.countVars a0_f.Params a1_most)))) else (J3 v2)) (fun v4=>joinP (α:=Int) (fun J5=>if (decide (v4<=a1_most))=true then (J5 (IntKind.i64.wrap (v4+(Lt.countVars a0_f.Vars a1_most)))) else (J5 v4)) (fun v6=>loopP (α:=Int×Int) (fun R7 v8=>have z1:=a0_f.Blocks.getD v8.2.toNat default; have z2:=Lt.Block.mk (z1.Name) (z1.Phis) (z1.Code) (Lt.Term.mk ((z1.End).Kind) ((z1.End).A) ((z1.End).To) ((z1.End).N)); joinP (α:=Bool) (fun J9=>(a0_f.Blocks.length<=4611686018427387904->if (decide (v8.2 < (a0_f.Blocks.length:Int)))=true then (J9 (decide (v8.1<=a1_most))) else (J9 false))) (fun v10=>if v10=true then (((0:Int)<=v8.2/\v8.2.toNat<a0_f.Blocks.length)/\(Lt.preCB z2 a1_most)/\R7 ((IntKind.i64.wrap (v8.1+(Lt.countBlock z2 a1_most))),(IntKind.i64.wrap (v8.2+1)))) else (KK v8.1))) (v6,0)))))))
def F_sheetLine (a0_s:Lt.Sheet) (a1_words:List (List UInt8)) (KK:((Unit)×Lt.Sheet)->Prop):Prop:=
 (a0_s.l.length+([(Lt.Line.mk 0 a1_words)]:List Lt.Line).length<=4611686018427387904/\(a0_s.l.length+([(Lt.Line.mk 0 a1_words)]:List Lt.Line).length)*32<=140737488355328)/\KK ((),(Lt.Sheet.mk (a0_s.l++([(Lt.Line.mk 0 a1_words)]:List Lt.Line))))
def F_sheetVars (a0_s:Lt.Sheet) (a1_first:List UInt8) (a2_l:List Lt.Var) (KK:((Unit)×Lt.Sheet)->Prop):Prop:=
 (a2_l.length<=4611686018427387904->loopP (α:=Int×Lt.Sheet) (fun R1 v2=>if (decide (v2.1 < (a2_l.length:Int)))=true then (((0:Int)<=v2.1/\v2.1.toNat<a2_l.length)/\(Lt.preLine v2.2 [a1_first,(a2_l.getD v2.1.toNat default).Name,(a2_l.getD v2.1.toNat default).Type_])/\R1 ((IntKind.i64.wrap (v2.1+1)),((Lt.sheetLine v2.2 [a1_first,(a2_l.getD v2.1.toNat default).Name,(a2_l.getD v2.1.toNat default).Type_]).2))) else (KK ((),v2.2))) (0,a0_s))
def F_number (a0_n:Int) (KK:(List UInt8)->Prop):Prop:=
 (Lt.preNum a0_n)/\KK (Lt.numPut a0_n)
def F_sheetFunction (a0_s:Lt.Sheet) (a1_f:Lt.Func) (KK:((Unit)×Lt.Sheet)->Prop):Prop:=
 have z4:=(Lt.sheetLine a0_s [[102,117,110,99],a1_f.Name,a1_f.Result]).2; (Lt.preLine a0_s [[102,117,110,99],a1_f.Name,a1_f.Result])/\(Lt.preVars z4 [112,97,114,97,109] a1_f.Params)/\(Lt.preVars ((Lt.sheetVars z4 [112,97,114,97,109] a1_f.Params).2) [118,97,114] a1_f.Vars)/\(a1_f.Blocks.length<=4611686018427387904->loopP (α:=Int×Lt.Sheet) (fun R1 v2=>have z2:=a1_f.Blocks.getD v2.1.toNat default; have z7:=Lt.Term.mk ((z2.End).Kind) ((z2.End).A) ((z2.End).To) ((z2.End).N); if (decide (v2.1 < (a1_f.Blocks.length:Int)))=true then (((0:Int)<=v2.1/\v2.1.toNat<a1_f.Blocks.length)/\(Lt.preLine v2.2 [[98,108,111,99,107],z2.Name])/\((z2.Phis).length<=4611686018427387904->loopP (α:=Int×Lt.Sheet) (fun R3 v4=>have z5:=(z2.Phis).getD v4.1.toNat default; if (decide (v4.1 < ((z2.Phis).length:Int)))=true then (((0:Int)<=v4.1/\v4.1.toNat < (z2.Phis).length)/\((z5.Ins).length<=4611686018427387904->loopP (α:=List (List UInt8)×Int) (fun R5 v6=>have z1:=(z5.Ins).getD v6.2.toNat default; have z6:=([z1.Block,(Lt.wordPut (z1.A))]:List (List UInt8)); if (decide (v6.2 < ((z5.Ins).length:Int)))=true then (joinP (α:=List (List UInt8)) (fun J7=>have z3:=((Lt.prePut (z1.A))/\(v6.1.length+z6.length<=4611686018427387904/\(v6.1.length+z6.length)*16<=140737488355328)/\J7 (v6.1++z6)); ((0:Int)<=v6.2/\v6.2.toNat < (z5.Ins).length)/\z3/\z3) (fun v8=>R5 (v8,(IntKind.i64.wrap (v6.2+1))))) else ((Lt.preLine v4.2 v6.1)/\R3 ((IntKind.i64.wrap (v4.1+1)),((Lt.sheetLine v4.2 v6.1).2)))) ([[112,104,105],z5.Dst],0))) else (((z2.Code).length<=4611686018427387904->loopP (α:=Int×Lt.Sheet) (fun R9 v10=>if (decide (v10.1 < ((z2.Code).length:Int)))=true then (((0:Int)<=v10.1/\v10.1.toNat < (z2.Code).length)/\(Lt.preCode v10.2 ((z2.Code).getD v10.1.toNat default))/\R9 ((IntKind.i64.wrap (v10.1+1)),((Lt.sheetCode v10.2 ((z2.Code).getD v10.1.toNat default)).2))) else ((Lt.preEnd v10.2 z7)/\R1 ((IntKind.i64.wrap (v2.1+1)),((Lt.sheetEnd v10.2 z7).2)))) (0,v4.2)))) (0,((Lt.sheetLine v2.2 [[98,108,111,99,107],z2.Name]).2)))) else (KK ((),v2.2))) (0,((Lt.sheetVars ((Lt.sheetVars z4 [112,97,114,97,109] a1_f.Params).2) [118,97,114] a1_f.Vars).2)))
def F_rLines (a0_p:Lt.Program) (KK:(List UInt8)->Prop):Prop:=
 joinP (α:=List UInt8) (fun J1=>if a0_p.SSA=true then ((Lt.preRPut [] [[115,115,97]])/\J1 (Lt.rPut [] [[115,115,97]])) else (J1 [])) (fun v2=>loopP (α:=List UInt8×Int) (fun R3 v4=>have z15:=((0:Int)<=v4.2/\v4.2.toNat<a0_p.Classes.length); have z7:=a0_p.Classes.getD v4.2.toNat default; have z13:=Lt.rPut v4.1 [[99,108,97,115,115],z7.Name]; (a0_p.Classes.length<=4611686018427387904->if (decide (v4.2 < (a0_p.Classes.length:Int)))=true then (joinP (α:=List UInt8) (fun J5=>have z6:=(z15/\(Lt.preRPut v4.1 [[99,108,97,115,115],z7.Name])/\(Lt.preRVars z13 [102,105,101,108,100] (z7.Fields))/\J5 (Lt.rVars z13 [102,105,101,108,100] (z7.Fields))); z15/\(((Lt.preRPut v4.1 [[99,108,97,115,115],z7.Name])/\z15/\(Lt.preRVars z13 [102,105,101,108,100] (z7.Fields))/\J5 (Lt.rVars z13 [102,105,101,108,100] (z7.Fields)))/\z6)/\z6) (fun v6=>R3 (v6,(IntKind.i64.wrap (v4.2+1))))) else ((Lt.preRVars v4.1 [103,108,111,98,97,108] a0_p.Globals)/\loopP (α:=List UInt8×Int) (fun R7 v8=>have z16:=((0:Int)<=v8.2/\v8.2.toNat<a0_p.Externs.length); have z8:=a0_p.Externs.getD v8.2.toNat default; have z21:=Lt.rPut v8.1 [[101,120,116,101,114,110],z8.Name,(Lt.rNum (z8.N))]; have z20:=Lt.preRPut v8.1 [[101,120,116,101,114,110],z8.Name,(Lt.rNum (z8.N))]; (a0_p.Externs.length<=4611686018427387904->if (decide (v8.2 < (a0_p.Externs.length:Int)))=true then (joinP (α:=List UInt8) (fun J9=>z16/\(z16/\(Lt.preNum (z8.N))/\z20/\J9 z21)/\((Lt.preNum (z8.N))/\z16/\z20/\J9 z21)) (fun v10=>R7 (v10,(IntKind.i64.wrap (v8.2+1))))) else (loopP (α:=List UInt8×Int) (fun R11 v12=>have z1:=a0_p.Funcs.getD v12.2.toNat default; have z14:=Lt.rPut v12.1 [[102,117,110,99],z1.Name,z1.Result]; have z12:=Lt.preRPut v12.1 [[102,117,110,99],z1.Name,z1.Result]; have z10:=Lt.rVars z14 [112,97,114,97,109] (z1.Params); (a0_p.Funcs.length<=4611686018427387904->if (decide (v12.2 < (a0_p.Funcs.length:Int)))=true then (((0:Int)<=v12.2/\v12.2.toNat<a0_p.Funcs.length)/\joinP (α:=List UInt8) (fun J13=>have z3:=(Lt.preRVars z14 [112,97,114,97,109] (z1.Params))/\(Lt.preRVars z10 [118,97,114] (z1.Vars))/\J13 (Lt.rVars z10 [118,97,114] (z1.Vars)); have z2:=z12/\(Lt.preRVars z14 [112,97,114,97,109] (z1.Params))/\(Lt.preRVars z10 [118,97,114] (z1.Vars))/\J13 (Lt.rVars z10 [118,97,114] (z1.Vars)); ((z12/\z3/\z3)/\((z12/\z3/\z3)/\z2)/\(z2/\z2))/\(((z12/\z3/\z3)/\z2)/\z2)/\((z2/\z2)/\z2)) (fun v14=>loopP (α:=List UInt8×Int) (fun R15 v16=>have z4:=(z1.Blocks).getD v16.2.toNat default; have z22:=Lt.Term.mk ((z4.End).Kind) ((z4.End).A) ((z4.End).To) ((z4.End).N); ((z1.Blocks).length<=4611686018427387904->if (decide (v16.2 < ((z1.Blocks).length:Int)))=true then (((0:Int)<=v16.2/\v16.2.toNat < (z1.Blocks).length)/\(Lt.preRPut v16.1 [[98,108,111,99,107],z4.Name])/\loopP (α:=List UInt8×Int) (fun R17 v18=>have z11:=((0:Int)<=v18.2/\v18.2.toNat < (z4.Phis).length); have z9:=((z4.Phis).getD v18.2.toNat default).Ins; ((z4.Phis).length<=4611686018427387904->if (decide (v18.2 < ((z4.Phis).length:Int)))=true then (z11/\loopP (α:=List (List UInt8)×Int) (fun R19 v20=>have z19:=z9.getD v20.2.toNat default; have z18:=((0:Int)<=v20.2/\v20.2.toNat<z9.length); have z5:=([z19.Block,(Lt.rWord (z19.A))]:List (List UInt8)); have z17:=v20.1.length+z5.length<=4611686018427387904/\(v20.1.length+z5.length)*16<=140737488355328; z11/\(z9.length<=4611686018427387904->if (decide (v20.2 < (z9.length:Int)))=true then (joinP (α:=List (List UInt8)) (fun J21=>z11/\z18/\(z11/\z18/\(Lt.prePut (z19.A))/\z17/\J21 (v20.1++z5))/\((Lt.prePut (z19.A))/\z11/\z18/\z17/\J21 (v20.1++z5))) (fun v22=>R19 (v22,(IntKind.i64.wrap (v20.2+1))))) else ((Lt.preRPut v18.1 v20.1)/\R17 ((Lt.rPut v18.1 v20.1),(IntKind.i64.wrap (v18.2+1)))))) ([[112,104,105],((z4.Phis).getD v18.2.toNat default).Dst],0)) else (loopP (α:=List UInt8×Int) (fun R23 v24=>((z4.Code).length<=4611686018427387904->if (decide (v24.2 < ((z4.Code).length:Int)))=true then (((0:Int)<=v24.2/\v24.2.toNat < (z4.Code).length)/\(Lt.preRCode v24.1 ((z4.Code).getD v24.2.toNat default))/\R23 ((Lt.rCode v24.1 ((z4.Code).getD v24.2.toNat default)),(IntKind.i64.wrap (v24.2+1)))) else ((Lt.preREnds v24.1 z22)/\R15 ((Lt.rEnds v24.1 z22),(IntKind.i64.wrap (v16.2+1)))))) (v18.1,0)))) ((Lt.rPut v16.1 [[98,108,111,99,107],z4.Name]),0)) else (R11 (v16.1,(IntKind.i64.wrap (v12.2+1)))))) (v14,0))) else (KK v12.1))) (v8.1,0)))) ((Lt.rVars v4.1 [103,108,111,98,97,108] a0_p.Globals),0)))) (v2,0))
def F_typed (a0_l:List Lt.Var) (a1_most:Int) (KK:Bool->Prop):Prop:=
 (a0_l.length<=4611686018427387904->if (decide (a1_most < (a0_l.length:Int)))=true then (KK false) else ((a0_l.length<=4611686018427387904->loopP (α:=Int) (fun R1 v2=>if (decide (v2 < (a0_l.length:Int)))=true then (((0:Int)<=v2/\v2.toNat<a0_l.length)/\joinP (α:=Bool) (fun J3=>if (!(Lt.Name ((a0_l.getD v2.toNat default).Name)))=true then (J3 true) else (J3 (!(Lt.kind ((a0_l.getD v2.toNat default).Type_))))) (fun v4=>if v4=true then (KK false) else (R1 (IntKind.i64.wrap (v2+1))))) else (KK true)) 0)))
def F_Name (a0_s:List UInt8) (KK:Bool->Prop):Prop:=
 joinP (α:=Bool) (fun J1=>if (decide (a0_s=([]:List UInt8)))=true then (J1 true) else (if (decide (16 < (a0_s.length:Int)))=true then (J1 true) else (((0:Int)<=0/\0<a0_s.length)/\if (!(Lt.letter (a0_s.getD 0 0)))=true then (J1 true) else (J1 (Lt.kept a0_s))))) (fun v2=>if v2=true then (KK false) else ((a0_s.length<=4611686018427387904->loopP (α:=Int) (fun R3 v4=>if (decide (v4 < (a0_s.length:Int)))=true then (joinP (α:=Bool) (fun J5=>((0:Int)<=v4/\v4.toNat<a0_s.length)/\if (!(Lt.letter (a0_s.getD v4.toNat 0)))=true then (((0:Int)<=v4/\v4.toNat<a0_s.length)/\J5 (!(Lt.wordDigit (a0_s.getD v4.toNat 0)))) else (J5 false)) (fun v6=>if v6=true then (KK false) else (R3 (IntKind.i64.wrap (v4+1))))) else (KK true)) 0)))
def F_showFunction (a0_f:Lt.Func) (KK:Bool->Prop):Prop:=
 joinP (α:=Bool) (fun J1=>if (!(Lt.Name a0_f.Name))=true then (J1 true) else (if (!(Lt.kind a0_f.Result))=true then (J1 true) else (if (!(Lt.typed a0_f.Params 6))=true then (J1 true) else (if (!(Lt.typed a0_f.Vars 1024))=true then (J1 true) else (if (decide ((a0_f.Blocks.length:Int)=0))=true then (J1 true) else (J1 (decide (256 < (a0_f.Blocks.length:Int))))))))) (fun v2=>if v2=true then (KK false) else ((a0_f.Blocks.length<=4611686018427387904->loopP (α:=Int×Int) (fun R3 v4=>have z1:=a0_f.Blocks.getD v4.2.toNat default; have z2:=(IntKind.i64.wrap (v4.1+(IntKind.i64.wrap (((z1.Phis).length:Int)+((z1.Code).length:Int))))); if (decide (v4.2 < (a0_f.Blocks.length:Int)))=true then (((0:Int)<=v4.2/\v4.2.toNat<a0_f.Blocks.length)/\joinP (α:=Bool) (fun J5=>((z1.Phis).length<=4611686018427387904->if (decide (1024 < ((z1.Phis).length:Int)))=true then (J5 true) else (J5 (decide (1024 < ((z1.Code).length:Int)))))) (fun v6=>if v6=true then (KK false) else (((z1.Phis).length<=4611686018427387904->((z1.Code).length<=4611686018427387904->joinP (α:=Bool) (fun J7=>if (decide (1024<z2))=true then (J7 true) else (J7 (!(Lt.block (Lt.Block.mk (z1.Name) (z1.Phis) (z1.Code) (Lt.Term.mk ((z1.End).Kind) ((z1.End).A) ((z1.End).To) ((z1.End).N))))))) (fun v8=>if v8=true then (KK false) else (R3 (z2,(IntKind.i64.wrap (v4.2+1)))))))))) else (KK true)) (0,0))))
def F_nth (a0_list:List UInt8) (a1_n:Int) (KK:(List UInt8)->Prop):Prop:=
 loopP (α:=Int×Int×Int) (fun R1 v2=>(a0_list.length<=4611686018427387904->if (decide (v2.2.2 < (a0_list.length:Int)))=true then (joinP (α:=Int×Int) (fun J3=>((0:Int)<=v2.2.2/\v2.2.2.toNat<a0_list.length)/\if (!decide ((((a0_list.getD v2.2.2.toNat 0).toNat:Nat):Int)=(((32:UInt8).toNat:Nat):Int)))=true then (J3 (v2.1,v2.2.1)) else (if (decide ((IntKind.i64.wrap (v2.1 - 1))=0))=true then ((0:Int)<=(IntKind.i64.wrap (v2.2.1+1))/\(0:Int)<=v2.2.2/\((IntKind.i64.wrap (v2.2.1+1)).toNat<=v2.2.2.toNat/\v2.2.2.toNat<=a0_list.length)/\KK ((a0_list.drop (IntKind.i64.wrap (v2.2.1+1)).toNat).take (v2.2.2.toNat - (IntKind.i64.wrap (v2.2.1+1)).toNat))) else (J3 ((IntKind.i64.wrap (v2.1 - 1)),v2.2.2)))) (fun v4=>R1 (v4.1,v4.2,(IntKind.i64.wrap (v2.2.2+1))))) else (KK ([]:List UInt8)))) (a1_n,0,1)
def F_sameVars (a0_a:List Lt.Var) (a1_b:List Lt.Var) (KK:Bool->Prop):Prop:=
 (a0_a.length<=4611686018427387904->(a1_b.length<=4611686018427387904->if (!decide ((a0_a.length:Int)=(a1_b.length:Int)))=true then (KK false) else (loopP (α:=Int) (fun R1 v2=>(a0_a.length<=4611686018427387904->if (decide (v2 < (a0_a.length:Int)))=true then (((0:Int)<=v2/\v2.toNat<a0_a.length)/\((0:Int)<=v2/\v2.toNat<a1_b.length)/\if (!(decide ((a0_a.getD v2.toNat default).Name=(a1_b.getD v2.toNat default).Name)&&decide ((a0_a.getD v2.toNat default).Type_=(a1_b.getD v2.toNat default).Type_)))=true then (KK false) else (R1 (IntKind.i64.wrap (v2+1)))) else (KK true))) 0)))
def F_SameFunc (a0_a:Lt.Func) (a1_b:Lt.Func) (KK:Bool->Prop):Prop:=
 joinP (α:=Bool) (fun J1=>if (!decide (a0_a.Name=a1_b.Name))=true then (J1 true) else (if (!decide (a0_a.Result=a1_b.Result))=true then (J1 true) else (if (!(Lt.sameVars a0_a.Params a1_b.Params))=true then (J1 true) else (if (!(Lt.sameVars a0_a.Vars a1_b.Vars))=true then (J1 true) else (J1 (!decide ((a0_a.Blocks.length:Int)=(a1_b.Blocks.length:Int)))))))) (fun v2=>if v2=true then (KK false) else (loopP (α:=Int) (fun R3 v4=>have z2:=a1_b.Blocks.getD v4.toNat default; have z1:=a0_a.Blocks.getD v4.toNat default; (a0_a.Blocks.length<=4611686018427387904->if (decide (v4 < (a0_a.Blocks.length:Int)))=true then (((0:Int)<=v4/\v4.toNat<a0_a.Blocks.length)/\((0:Int)<=v4/\v4.toNat<a1_b.Blocks.length)/\if (!(Lt.sameBlock (Lt.Block.mk (z1.Name) (z1.Phis) (z1.Code) (Lt.Term.mk ((z1.End).Kind) ((z1.End).A) ((z1.End).To) ((z1.End).N))) (Lt.Block.mk (z2.Name) (z2.Phis) (z2.Code) (Lt.Term.mk ((z2.End).Kind) ((z2.End).A) ((z2.End).To) ((z2.End).N)))))=true then (KK false) else (R3 (IntKind.i64.wrap (v4+1)))) else (KK true))) 0))
def F_countBlock (a0_b:Lt.Block) (a1_most:Int) (KK:Int->Prop):Prop:=
 have z5:=(IntKind.i64.wrap (1+(a0_b.Name.length:Int))); joinP (α:=Bool) (fun J1=>(a0_b.Phis.length<=4611686018427387904->if (decide (a1_most < (a0_b.Phis.length:Int)))=true then (J1 true) else (if (decide (a1_most < (a0_b.Code.length:Int)))=true then (J1 true) else (J1 (decide (a1_most < (a0_b.End.To.length:Int))))))) (fun v2=>if v2=true then (KK (IntKind.i64.wrap (a1_most+1))) else ((a0_b.Name.length<=4611686018427387904->joinP (α:=Int) (fun J3=>if (decide (z5<=a1_most))=true then ((a0_b.End.A.S.length<=4611686018427387904->J3 (IntKind.i64.wrap (z5+(a0_b.End.A.S.length:Int))))) else (J3 z5)) (fun v4=>loopP (α:=Int×Int) (fun R5 v6=>joinP (α:=Bool) (fun J7=>(a0_b.End.To.length<=4611686018427387904->if (decide (v6.2 < (a0_b.End.To.length:Int)))=true then (J7 (decide (v6.1<=a1_most))) else (J7 false))) (fun v8=>if v8=true then (((0:Int)<=v6.2/\v6.2.toNat<a0_b.End.To.length)/\((a0_b.End.To.getD v6.2.toNat default).length<=4611686018427387904->R5 ((IntKind.i64.wrap ((IntKind.i64.wrap (v6.1+1))+((a0_b.End.To.getD v6.2.toNat default).length:Int))),(IntKind.i64.wrap (v6.2+1))))) else (loopP (α:=Int×Int) (fun R9 v10=>have z3:=((0:Int)<=v10.2/\v10.2.toNat<a0_b.Phis.length); have z1:=a0_b.Phis.getD v10.2.toNat default; joinP (α:=Bool) (fun J11=>(a0_b.Phis.length<=4611686018427387904->if (decide (v10.2 < (a0_b.Phis.length:Int)))=true then (J11 (decide (v10.1<=a1_most))) else (J11 false))) (fun v12=>if v12=true then (z3/\((z1.Dst).length<=4611686018427387904->loopP (α:=Int×Int) (fun R13 v14=>have z4:=(z1.Ins).getD v14.2.toNat default; have z2:=(IntKind.i64.wrap ((IntKind.i64.wrap (v14.1+1))+((z4.Block).length:Int))); joinP (α:=Bool) (fun J15=>z3/\((z1.Ins).length<=4611686018427387904->if (decide (v14.2 < ((z1.Ins).length:Int)))=true then (J15 (decide (v14.1<=a1_most))) else (J15 false))) (fun v16=>if v16=true then (joinP (α:=Int) (fun J17=>z3/\((0:Int)<=v14.2/\v14.2.toNat < (z1.Ins).length)/\((z4.Block).length<=4611686018427387904->if (decide (z2<=a1_most))=true then (z3/\((0:Int)<=v14.2/\v14.2.toNat < (z1.Ins).length)/\(((z4.A).S).length<=4611686018427387904->J17 (IntKind.i64.wrap (z2+(((z4.A).S).length:Int))))) else (J17 z2))) (fun v18=>R13 (v18,(IntKind.i64.wrap (v14.2+1))))) else (R9 (v14.1,(IntKind.i64.wrap (v10.2+1)))))) ((IntKind.i64.wrap ((IntKind.i64.wrap (v10.1+1))+((z1.Dst).length:Int))),0))) else (loopP (α:=Int×Int) (fun R19 v20=>joinP (α:=Bool) (fun J21=>(a0_b.Code.length<=4611686018427387904->if (decide (v20.2 < (a0_b.Code.length:Int)))=true then (J21 (decide (v20.1<=a1_most))) else (J21 false))) (fun v22=>if v22=true then (((0:Int)<=v20.2/\v20.2.toNat<a0_b.Code.length)/\(Lt.preCI (a0_b.Code.getD v20.2.toNat default) a1_most)/\R19 ((IntKind.i64.wrap (v20.1+(Lt.countInstr (a0_b.Code.getD v20.2.toNat default) a1_most))),(IntKind.i64.wrap (v20.2+1)))) else (KK v20.1))) (v10.1,0)))) (v6.1,0)))) (v4,0)))))
def F_wordPut (a0_a:Lt.Arg) (KK:(List UInt8)->Prop):Prop:=
 if (!(Lt.wordRight a0_a))=true then (KK ([]:List UInt8)) else (if (decide (a0_a.Kind=2))=true then ((Lt.preNum a0_a.N)/\KK (Lt.numPut a0_a.N)) else (if (decide (a0_a.Kind=3))=true then (KK (Lt.floPut a0_a.N)) else (if (decide (a0_a.Kind=4))=true then (KK [110,117,108,108]) else (if (decide (a0_a.Kind=5))=true then ((Lt.preNum a0_a.N)/\[35].length+(Lt.numPut a0_a.N).length<=4611686018427387904/\KK ([35]++(Lt.numPut a0_a.N))) else (KK a0_a.S)))))
def F_sheetCode (a0_s:Lt.Sheet) (a1_i:Lt.Instr) (KK:((Unit)×Lt.Sheet)->Prop):Prop:=
 have z11:=([a1_i.Name]:List (List UInt8)); have z8:=([((Lt.puts a1_i.Args).getD 0 default),a1_i.Name]:List (List UInt8)); have z4:=([((Lt.Of a1_i.Op).1).Word]:List (List UInt8)); joinP (α:=List (List UInt8)) (fun J1=>if (((Lt.Of a1_i.Op).1).Dst)=true then ((([]:List (List UInt8)).length+([a1_i.Dst,[61]]:List (List UInt8)).length<=4611686018427387904/\(([]:List (List UInt8)).length+([a1_i.Dst,[61]]:List (List UInt8)).length)*16<=140737488355328)/\J1 [a1_i.Dst,[61]]) else (J1 [])) (fun v2=>(v2.length+z4.length<=4611686018427387904/\(v2.length+z4.length)*16<=140737488355328)/\(Lt.prePuts a1_i.Args)/\joinP (α:=List (List UInt8)×List (List UInt8)) (fun J3=>joinP (α:=Bool) (fun J5=>if (decide (a1_i.Op=26))=true then (J5 true) else (J5 (decide (a1_i.Op=27)))) (fun v6=>if v6=true then (((0:Int)<=0/\0 < (Lt.puts a1_i.Args).length)/\((v2++z4).length+z8.length<=4611686018427387904/\((v2++z4).length+z8.length)*16<=140737488355328)/\(0:Int)<=1/\(1<=(Lt.puts a1_i.Args).length/\(Lt.puts a1_i.Args).length<=(Lt.puts a1_i.Args).length)/\J3 (((v2++z4)++z8),(((Lt.puts a1_i.Args).drop 1).take ((Lt.puts a1_i.Args).length - 1)))) else (if (((Lt.Of a1_i.Op).1).Named)=true then (((v2++z4).length+z11.length<=4611686018427387904/\((v2++z4).length+z11.length)*16<=140737488355328)/\J3 (((v2++z4)++z11),(Lt.puts a1_i.Args))) else (J3 ((v2++z4),(Lt.puts a1_i.Args)))))) (fun v4=>(v4.1.length+v4.2.length<=4611686018427387904/\(v4.1.length+v4.2.length)*16<=140737488355328)/\(Lt.preLine a0_s (v4.1++v4.2))/\(a1_i.Frames.length<=4611686018427387904->loopP (α:=Int×Lt.Sheet) (fun R7 v8=>have z2:=a1_i.Frames.getD v8.1.toNat default; if (decide (v8.1 < (a1_i.Frames.length:Int)))=true then (((0:Int)<=v8.1/\v8.1.toNat<a1_i.Frames.length)/\joinP (α:=List (List UInt8)) (fun J9=>have z5:=(Lt.preNum (z2.At))/\J9 [[97,116],z2.Func,z2.Block,(Lt.number (z2.At))]; (z5/\z5)/\(z5/\z5)/\z5) (fun v10=>((z2.Vars).length<=4611686018427387904->loopP (α:=List (List UInt8)×Int) (fun R11 v12=>have z10:=(z2.Vars).getD v12.2.toNat default; have z3:=([z10.Name,(Lt.wordPut (z10.A))]:List (List UInt8)); if (decide (v12.2 < ((z2.Vars).length:Int)))=true then (joinP (α:=List (List UInt8)) (fun J13=>have z7:=(Lt.prePut (z10.A))/\(v12.1.length+z3.length<=4611686018427387904/\(v12.1.length+z3.length)*16<=140737488355328)/\J13 (v12.1++z3); ((0:Int)<=v12.2/\v12.2.toNat < (z2.Vars).length)/\z7/\z7) (fun v14=>R11 (v14,(IntKind.i64.wrap (v12.2+1))))) else ((Lt.preLine v8.2 v12.1)/\R7 ((IntKind.i64.wrap (v8.1+1)),((Lt.sheetLine v8.2 v12.1).2)))) (v10,0)))) else ((a1_i.Objs.length<=4611686018427387904->loopP (α:=Int×Lt.Sheet) (fun R15 v16=>have z6:=a1_i.Objs.getD v16.1.toNat default; have z9:=([[111,98,106],z6.Class]:List (List UInt8)); if (decide (v16.1 < (a1_i.Objs.length:Int)))=true then (joinP (α:=Lt.Sheet) (fun J17=>have z1:=((Lt.prePuts (z6.Vals))/\(z9.length+(Lt.puts (z6.Vals)).length<=4611686018427387904/\(z9.length+(Lt.puts (z6.Vals)).length)*16<=140737488355328)/\(Lt.preLine v16.2 (z9++(Lt.puts (z6.Vals))))/\J17 ((Lt.sheetLine v16.2 (z9++(Lt.puts (z6.Vals)))).2)); ((0:Int)<=v16.1/\v16.1.toNat<a1_i.Objs.length)/\(z1/\(z1/\z1))/\((z1/\z1)/\z1)) (fun v18=>R15 ((IntKind.i64.wrap (v16.1+1)),v18))) else (KK ((),v16.2))) (0,v8.2)))) (0,((Lt.sheetLine a0_s (v4.1++v4.2)).2)))))
def F_sheetEnd (a0_s:Lt.Sheet) (a1_t:Lt.Term) (KK:((Unit)×Lt.Sheet)->Prop):Prop:=
 have z5:=a1_t.To.getD 0 default; have z4:=((0:Int)<=1/\1<a1_t.To.length); have z3:=((0:Int)<=0/\0<a1_t.To.length); have z2:=Lt.preLine a0_s [[98,114,97,110,99,104],(Lt.wordPut a1_t.A),z5,(a1_t.To.getD 1 default)]; have z1:=(Lt.sheetLine a0_s [[98,114,97,110,99,104],(Lt.wordPut a1_t.A),z5,(a1_t.To.getD 1 default)]).2; if (decide (a1_t.Kind=1))=true then (z3/\(Lt.preLine a0_s [[106,117,109,112],z5])/\KK ((),((Lt.sheetLine a0_s [[106,117,109,112],z5]).2))) else (if (decide (a1_t.Kind=2))=true then (((Lt.prePut a1_t.A)/\z3/\z4/\z2/\KK ((),z1))/\(z3/\((Lt.prePut a1_t.A)/\z4/\z2/\KK ((),z1))/\(z4/\(Lt.prePut a1_t.A)/\z2/\KK ((),z1)))/\(z4/\((Lt.prePut a1_t.A)/\z3/\z2/\KK ((),z1))/\(z3/\(Lt.prePut a1_t.A)/\z2/\KK ((),z1)))) else (if (decide (a1_t.Kind=3))=true then ((Lt.prePut a1_t.A)/\(Lt.preLine a0_s [[114,101,116],(Lt.wordPut a1_t.A)])/\KK ((),((Lt.sheetLine a0_s [[114,101,116],(Lt.wordPut a1_t.A)]).2))) else ((Lt.preNum a1_t.N)/\(Lt.preLine a0_s [[116,114,97,112],(Lt.numPut a1_t.N)])/\KK ((),((Lt.sheetLine a0_s [[116,114,97,112],(Lt.numPut a1_t.N)]).2)))))
def F_rPut (a0_out:List UInt8) (a1_l:List (List UInt8)) (KK:(List UInt8)->Prop):Prop:=
 loopP (α:=List UInt8×Int) (fun R1 v2=>(a1_l.length<=4611686018427387904->if (decide (v2.2 < (a1_l.length:Int)))=true then (joinP (α:=List UInt8) (fun J3=>if (decide (0<v2.2))=true then ((v2.1.length+([(32:UInt8)]:List UInt8).length<=4611686018427387904/\(v2.1.length+([(32:UInt8)]:List UInt8).length)*1<=140737488355328)/\J3 (v2.1++([(32:UInt8)]:List UInt8))) else (J3 v2.1)) (fun v4=>((0:Int)<=v2.2/\v2.2.toNat<a1_l.length)/\(v4.length+(a1_l.getD v2.2.toNat default).length<=4611686018427387904/\(v4.length+(a1_l.getD v2.2.toNat default).length)*1<=140737488355328)/\R1 ((v4++(a1_l.getD v2.2.toNat default)),(IntKind.i64.wrap (v2.2+1))))) else ((v2.1.length+([(10:UInt8)]:List UInt8).length<=4611686018427387904/\(v2.1.length+([(10:UInt8)]:List UInt8).length)*1<=140737488355328)/\KK (v2.1++([(10:UInt8)]:List UInt8))))) (a0_out,0)
def F_rVars (a0_out:List UInt8) (a1_first:List UInt8) (a2_l:List Lt.Var) (KK:(List UInt8)->Prop):Prop:=
 loopP (α:=List UInt8×Int) (fun R1 v2=>(a2_l.length<=4611686018427387904->if (decide (v2.2 < (a2_l.length:Int)))=true then (((0:Int)<=v2.2/\v2.2.toNat<a2_l.length)/\((0:Int)<=v2.2/\v2.2.toNat<a2_l.length)/\(Lt.preRPut v2.1 [a1_first,(a2_l.getD v2.2.toNat default).Name,(a2_l.getD v2.2.toNat default).Type_])/\R1 ((Lt.rPut v2.1 [a1_first,(a2_l.getD v2.2.toNat default).Name,(a2_l.getD v2.2.toNat default).Type_]),(IntKind.i64.wrap (v2.2+1)))) else (KK v2.1))) (a0_out,0)
def F_rNum (a0_n:Int) (KK:(List UInt8)->Prop):Prop:=
 joinP (α:=List UInt8) (fun J1=>loopP (α:=List UInt8×Int) (fun R3 v4=>(10:Int)≠0/\(([(UInt8.ofNat (IntKind.u8.wrap (IntKind.u64.wrap (48+(Int.tmod v4.2 10)))).toNat)]:List UInt8).length+v4.1.length<=4611686018427387904/\(([(UInt8.ofNat (IntKind.u8.wrap (IntKind.u64.wrap (48+(Int.tmod v4.2 10)))).toNat)]:List UInt8).length+v4.1.length)*1<=140737488355328)/\(10:Int)≠0/\if (decide ((IntKind.u64.wrap (Int.tdiv v4.2 10))=0))=true then (J1 (([(UInt8.ofNat (IntKind.u8.wrap (IntKind.u64.wrap (48+(Int.tmod v4.2 10)))).toNat)]:List UInt8)++v4.1)) else (R3 ((([(UInt8.ofNat (IntKind.u8.wrap (IntKind.u64.wrap (48+(Int.tmod v4.2 10)))).toNat)]:List UInt8)++v4.1),(IntKind.u64.wrap (Int.tdiv v4.2 10))))) ([],(Lt.rSize a0_n))) (fun v2=>if (decide (a0_n < 0))=true then ([45].length+v2.length<=4611686018427387904/\KK ([45]++v2)) else (KK v2))
def F_rWord (a0_a:Lt.Arg) (KK:(List UInt8)->Prop):Prop:=
 if (!(Lt.rRight a0_a))=true then (KK ([]:List UInt8)) else (if (decide (a0_a.Kind=1))=true then (KK a0_a.S) else (if (decide (a0_a.Kind=2))=true then ((Lt.preNum a0_a.N)/\KK (Lt.rNum a0_a.N)) else (if (decide (a0_a.Kind=3))=true then (KK (Lt.rFlo a0_a.N)) else (if (decide (a0_a.Kind=4))=true then (KK [110,117,108,108]) else ((Lt.preNum a0_a.N)/\[35].length+(Lt.rNum a0_a.N).length<=4611686018427387904/\KK ([35]++(Lt.rNum a0_a.N)))))))
def F_rCode (a0_out:List UInt8) (a1_x:Lt.Instr) (KK:(List UInt8)->Prop):Prop:=
 have z6:=([a1_x.Name]:List (List UInt8)); have z4:=([((Lt.rOf a1_x.Op).1).Word]:List (List UInt8)); joinP (α:=List (List UInt8)) (fun J1=>if (((Lt.rOf a1_x.Op).1).Dst)=true then ((([]:List (List UInt8)).length+([a1_x.Dst,[61]]:List (List UInt8)).length<=4611686018427387904/\(([]:List (List UInt8)).length+([a1_x.Dst,[61]]:List (List UInt8)).length)*16<=140737488355328)/\J1 [a1_x.Dst,[61]]) else (J1 [])) (fun v2=>have z9:=Lt.rArgs (v2++z4) ((a1_x.Args.drop 0).take (1 - 0)); (v2.length+z4.length<=4611686018427387904/\(v2.length+z4.length)*16<=140737488355328)/\joinP (α:=List (List UInt8)) (fun J3=>joinP (α:=Bool) (fun J5=>if (decide (a1_x.Op=26))=true then (J5 (decide (0 < (a1_x.Args.length:Int)))) else (if (decide (a1_x.Op=27))=true then (J5 (decide (0 < (a1_x.Args.length:Int)))) else (J5 false))) (fun v6=>if v6=true then ((0:Int)<=1/\(0<=1/\1<=a1_x.Args.length)/\(Lt.preRArgs (v2++z4) ((a1_x.Args.drop 0).take (1 - 0)))/\(z9.length+z6.length<=4611686018427387904/\(z9.length+z6.length)*16<=140737488355328)/\(0:Int)<=1/\(1<=a1_x.Args.length/\a1_x.Args.length<=a1_x.Args.length)/\(Lt.preRArgs (z9++z6) ((a1_x.Args.drop 1).take (a1_x.Args.length - 1)))/\J3 (Lt.rArgs (z9++z6) ((a1_x.Args.drop 1).take (a1_x.Args.length - 1)))) else (joinP (α:=List (List UInt8)) (fun J7=>if (((Lt.rOf a1_x.Op).1).Named)=true then (((v2++z4).length+z6.length<=4611686018427387904/\((v2++z4).length+z6.length)*16<=140737488355328)/\J7 ((v2++z4)++z6)) else (J7 (v2++z4))) (fun v8=>(Lt.preRArgs v8 a1_x.Args)/\J3 (Lt.rArgs v8 a1_x.Args))))) (fun v4=>(Lt.preRPut a0_out v4)/\loopP (α:=List UInt8×Int) (fun R9 v10=>have z2:=((0:Int)<=v10.2/\v10.2.toNat<a1_x.Frames.length); have z1:=a1_x.Frames.getD v10.2.toNat default; (a1_x.Frames.length<=4611686018427387904->if (decide (v10.2 < (a1_x.Frames.length:Int)))=true then (joinP (α:=List (List UInt8)) (fun J11=>have z7:=z2/\(z2/\(Lt.preNum (z1.At))/\J11 [[97,116],z1.Func,z1.Block,(Lt.rNum (z1.At))])/\((Lt.preNum (z1.At))/\z2/\J11 [[97,116],z1.Func,z1.Block,(Lt.rNum (z1.At))]); z2/\z7/\z7/\((Lt.preNum (z1.At))/\z2/\z2/\J11 [[97,116],z1.Func,z1.Block,(Lt.rNum (z1.At))])) (fun v12=>loopP (α:=List (List UInt8)×Int) (fun R13 v14=>have z11:=((0:Int)<=v14.2/\v14.2.toNat < (z1.Vars).length); have z10:=(z1.Vars).getD v14.2.toNat default; have z3:=([z10.Name,(Lt.rWord (z10.A))]:List (List UInt8)); have z12:=v14.1.length+z3.length<=4611686018427387904/\(v14.1.length+z3.length)*16<=140737488355328; z2/\((z1.Vars).length<=4611686018427387904->if (decide (v14.2 < ((z1.Vars).length:Int)))=true then (joinP (α:=List (List UInt8)) (fun J15=>z2/\z11/\(z2/\z11/\(Lt.prePut (z10.A))/\z12/\J15 (v14.1++z3))/\((Lt.prePut (z10.A))/\z2/\z11/\z12/\J15 (v14.1++z3))) (fun v16=>R13 (v16,(IntKind.i64.wrap (v14.2+1))))) else ((Lt.preRPut v10.1 v14.1)/\R9 ((Lt.rPut v10.1 v14.1),(IntKind.i64.wrap (v10.2+1)))))) (v12,0))) else (loopP (α:=List UInt8×Int) (fun R17 v18=>have z8:=a1_x.Objs.getD v18.2.toNat default; (a1_x.Objs.length<=4611686018427387904->if (decide (v18.2 < (a1_x.Objs.length:Int)))=true then (joinP (α:=List UInt8) (fun J19=>have z5:=(((0:Int)<=v18.2/\v18.2.toNat<a1_x.Objs.length)/\(Lt.preRArgs [[111,98,106],z8.Class] (z8.Vals))/\(Lt.preRPut v18.1 (Lt.rArgs [[111,98,106],z8.Class] (z8.Vals)))/\J19 (Lt.rPut v18.1 (Lt.rArgs [[111,98,106],z8.Class] (z8.Vals)))); ((0:Int)<=v18.2/\v18.2.toNat<a1_x.Objs.length)/\z5/\z5) (fun v20=>R17 (v20,(IntKind.i64.wrap (v18.2+1))))) else (KK v18.1))) (v10.1,0)))) ((Lt.rPut a0_out v4),0)))
def F_rEnds (a0_out:List UInt8) (a1_t:Lt.Term) (KK:(List UInt8)->Prop):Prop:=
 have z2:=([(Lt.rNum a1_t.N)]:List (List UInt8)); have z1:=([([]:List UInt8),[106,117,109,112],[98,114,97,110,99,104],[114,101,116],[116,114,97,112]].getD a1_t.Kind.toNat default); joinP (α:=Bool) (fun J1=>if (decide (a1_t.Kind < 1))=true then (J1 true) else (J1 (decide (4<a1_t.Kind)))) (fun v2=>if v2=true then (KK a0_out) else (((0:Int)<=a1_t.Kind/\a1_t.Kind < (([([]:List UInt8),[106,117,109,112],[98,114,97,110,99,104],[114,101,116],[116,114,97,112]].length:Nat):Int))/\joinP (α:=List (List UInt8)) (fun J3=>joinP (α:=Bool) (fun J5=>if (decide (a1_t.Kind=2))=true then (J5 true) else (J5 (decide (a1_t.Kind=3)))) (fun v6=>if v6=true then ((Lt.prePut a1_t.A)/\(([z1]:List (List UInt8)).length+([(Lt.rWord a1_t.A)]:List (List UInt8)).length<=4611686018427387904/\(([z1]:List (List UInt8)).length+([(Lt.rWord a1_t.A)]:List (List UInt8)).length)*16<=140737488355328)/\J3 [z1,(Lt.rWord a1_t.A)]) else (J3 [z1]))) (fun v4=>(v4.length+a1_t.To.length<=4611686018427387904/\(v4.length+a1_t.To.length)*16<=140737488355328)/\joinP (α:=List (List UInt8)) (fun J7=>if (decide (a1_t.Kind=4))=true then ((Lt.preNum a1_t.N)/\((v4++a1_t.To).length+z2.length<=4611686018427387904/\((v4++a1_t.To).length+z2.length)*16<=140737488355328)/\J7 ((v4++a1_t.To)++z2)) else (J7 (v4++a1_t.To))) (fun v8=>(Lt.preRPut a0_out v8)/\KK (Lt.rPut a0_out v8)))))
def F_kind (a0_s:List UInt8) (KK:Bool->Prop):Prop:=
 joinP (α:=Bool) (fun J1=>if (decide (a0_s=[105,110,116]))=true then (J1 true) else (if (decide (a0_s=[102,108,111,97,116]))=true then (J1 true) else (J1 (Lt.Name a0_s)))) (fun v2=>KK v2)
def F_letter (a0_c:UInt8) (KK:Bool->Prop):Prop:=
 joinP (α:=Bool) (fun J1=>if (decide ((((97:UInt8).toNat:Nat):Int)<=((a0_c.toNat:Nat):Int)))=true then (if (decide (((a0_c.toNat:Nat):Int)<=(((122:UInt8).toNat:Nat):Int)))=true then (J1 true) else (if (decide ((((65:UInt8).toNat:Nat):Int)<=((a0_c.toNat:Nat):Int)))=true then (if (decide (((a0_c.toNat:Nat):Int)<=(((90:UInt8).toNat:Nat):Int)))=true then (J1 true) else (J1 (decide (((a0_c.toNat:Nat):Int)=(((95:UInt8).toNat:Nat):Int))))) else (J1 (decide (((a0_c.toNat:Nat):Int)=(((95:UInt8).toNat:Nat):Int)))))) else (if (decide ((((65:UInt8).toNat:Nat):Int)<=((a0_c.toNat:Nat):Int)))=true then (if (decide (((a0_c.toNat:Nat):Int)<=(((90:UInt8).toNat:Nat):Int)))=true then (J1 true) else (J1 (decide (((a0_c.toNat:Nat):Int)=(((95:UInt8).toNat:Nat):Int))))) else (J1 (decide (((a0_c.toNat:Nat):Int)=(((95:UInt8).toNat:Nat):Int)))))) (fun v2=>KK v2)
def F_kept (a0_s:List UInt8) (KK:Bool->Prop):Prop:=
 joinP (α:=Bool) (fun J1=>if (decide (a0_s=[110,117,108,108]))=true then (J1 true) else (if (decide (a0_s=[105,110,116]))=true then (J1 true) else (J1 (decide (a0_s=[102,108,111,97,116]))))) (fun v2=>KK v2)
def F_wordDigit (a0_c:UInt8) (KK:Bool->Prop):Prop:=
 if (decide ((((48:UInt8).toNat:Nat):Int)<=((a0_c.toNat:Nat):Int)))=true then (KK (decide (((a0_c.toNat:Nat):Int)<=(((57:UInt8).toNat:Nat):Int)))) else (KK false)
def F_block (a0_b:Lt.Block) (KK:Bool->Prop):Prop:=
 joinP (α:=Bool) (fun J1=>if (!(Lt.Name a0_b.Name))=true then (J1 true) else (J1 (!(Lt.showEnd a0_b.End)))) (fun v2=>if v2=true then (KK false) else ((a0_b.Phis.length<=4611686018427387904->loopP (α:=Int) (fun R3 v4=>if (decide (v4 < (a0_b.Phis.length:Int)))=true then (((0:Int)<=v4/\v4.toNat<a0_b.Phis.length)/\if (!(Lt.phi (a0_b.Phis.getD v4.toNat default)))=true then (KK false) else (R3 (IntKind.i64.wrap (v4+1)))) else ((a0_b.Code.length<=4611686018427387904->loopP (α:=Int) (fun R5 v6=>if (decide (v6 < (a0_b.Code.length:Int)))=true then (((0:Int)<=v6/\v6.toNat<a0_b.Code.length)/\if (!(Lt.instr (a0_b.Code.getD v6.toNat default)))=true then (KK false) else (R5 (IntKind.i64.wrap (v6+1)))) else (KK true)) 0))) 0)))
def F_sameBlock (a0_a:Lt.Block) (a1_b:Lt.Block) (KK:Bool->Prop):Prop:=
 joinP (α:=Bool) (fun J1=>if (!decide (a0_a.Name=a1_b.Name))=true then (J1 true) else (if (!decide ((a0_a.Phis.length:Int)=(a1_b.Phis.length:Int)))=true then (J1 true) else (if (!decide ((a0_a.Code.length:Int)=(a1_b.Code.length:Int)))=true then (J1 true) else (if (!decide (a0_a.End.Kind=a1_b.End.Kind))=true then (J1 true) else (if (!(decide (a0_a.End.A.Kind=a1_b.End.A.Kind)&&(decide (a0_a.End.A.S=a1_b.End.A.S)&&decide (a0_a.End.A.N=a1_b.End.A.N))))=true then (J1 true) else (if (!decide (a0_a.End.N=a1_b.End.N))=true then (J1 true) else (J1 (!decide ((a0_a.End.To.length:Int)=(a1_b.End.To.length:Int)))))))))) (fun v2=>if v2=true then (KK false) else (loopP (α:=Int) (fun R3 v4=>(a0_a.End.To.length<=4611686018427387904->if (decide (v4 < (a0_a.End.To.length:Int)))=true then (((0:Int)<=v4/\v4.toNat<a0_a.End.To.length)/\((0:Int)<=v4/\v4.toNat<a1_b.End.To.length)/\if (!decide ((a0_a.End.To.getD v4.toNat default)=(a1_b.End.To.getD v4.toNat default)))=true then (KK false) else (R3 (IntKind.i64.wrap (v4+1)))) else (loopP (α:=Int) (fun R5 v6=>have z5:=((0:Int)<=v6/\v6.toNat<a1_b.Phis.length); have z4:=a1_b.Phis.getD v6.toNat default; have z3:=((0:Int)<=v6/\v6.toNat<a0_a.Phis.length); have z1:=(a0_a.Phis.getD v6.toNat default).Ins; (a0_a.Phis.length<=4611686018427387904->if (decide (v6 < (a0_a.Phis.length:Int)))=true then (joinP (α:=Bool) (fun J7=>z3/\z5/\if (!decide ((a0_a.Phis.getD v6.toNat default).Dst=z4.Dst))=true then (J7 true) else (z3/\z5/\J7 (!decide ((z1.length:Int)=((z4.Ins).length:Int))))) (fun v8=>if v8=true then (KK false) else (loopP (α:=Int) (fun R9 v10=>have z6:=z1.getD v10.toNat default; have z2:=(z4.Ins).getD v10.toNat default; z3/\(z1.length<=4611686018427387904->if (decide (v10 < (z1.length:Int)))=true then (z3/\((0:Int)<=v10/\v10.toNat<z1.length)/\z5/\((0:Int)<=v10/\v10.toNat < (z4.Ins).length)/\if (!(decide (z6.Block=z2.Block)&&(decide ((z6.A).Kind=(z2.A).Kind)&&(decide ((z6.A).S=(z2.A).S)&&decide ((z6.A).N=(z2.A).N)))))=true then (KK false) else (R9 (IntKind.i64.wrap (v10+1)))) else (R5 (IntKind.i64.wrap (v6+1))))) 0))) else (loopP (α:=Int) (fun R11 v12=>(a0_a.Code.length<=4611686018427387904->if (decide (v12 < (a0_a.Code.length:Int)))=true then (((0:Int)<=v12/\v12.toNat<a0_a.Code.length)/\((0:Int)<=v12/\v12.toNat<a1_b.Code.length)/\if (!(Lt.SameInstr (a0_a.Code.getD v12.toNat default) (a1_b.Code.getD v12.toNat default)))=true then (KK false) else (R11 (IntKind.i64.wrap (v12+1)))) else (KK true))) 0))) 0))) 0))
def F_countInstr (a0_x:Lt.Instr) (a1_most:Int) (KK:Int->Prop):Prop:=
 have z2:=(IntKind.i64.wrap ((IntKind.i64.wrap ((IntKind.i64.wrap (1+(a0_x.Dst.length:Int)))+(a0_x.Frames.length:Int)))+(a0_x.Objs.length:Int))); joinP (α:=Bool) (fun J1=>(a0_x.Frames.length<=4611686018427387904->if (decide (a1_most < (a0_x.Frames.length:Int)))=true then (J1 true) else (J1 (decide (a1_most < (a0_x.Objs.length:Int)))))) (fun v2=>if v2=true then (KK (IntKind.i64.wrap (a1_most+1))) else ((a0_x.Dst.length<=4611686018427387904->(a0_x.Frames.length<=4611686018427387904->(a0_x.Objs.length<=4611686018427387904->joinP (α:=Int) (fun J3=>if (decide (z2<=a1_most))=true then ((a0_x.Name.length<=4611686018427387904->J3 (IntKind.i64.wrap (z2+(a0_x.Name.length:Int))))) else (J3 z2)) (fun v4=>joinP (α:=Int) (fun J5=>if (decide (v4<=a1_most))=true then (J5 (IntKind.i64.wrap (v4+(Lt.countArgs a0_x.Args a1_most)))) else (J5 v4)) (fun v6=>loopP (α:=Int×Int) (fun R7 v8=>have z4:=((0:Int)<=v8.2/\v8.2.toNat<a0_x.Frames.length); have z1:=a0_x.Frames.getD v8.2.toNat default; have z6:=(IntKind.i64.wrap (v8.1+((z1.Func).length:Int))); joinP (α:=Bool) (fun J9=>(a0_x.Frames.length<=4611686018427387904->if (decide (v8.2 < (a0_x.Frames.length:Int)))=true then (J9 (decide (v8.1<=a1_most))) else (J9 false))) (fun v10=>if v10=true then (z4/\((z1.Func).length<=4611686018427387904->joinP (α:=Int) (fun J11=>if (decide (z6<=a1_most))=true then (z4/\((z1.Block).length<=4611686018427387904->J11 (IntKind.i64.wrap (z6+((z1.Block).length:Int))))) else (J11 z6)) (fun v12=>loopP (α:=Int×Int) (fun R13 v14=>have z7:=(z1.Vars).getD v14.2.toNat default; have z3:=(IntKind.i64.wrap ((IntKind.i64.wrap (v14.1+1))+((z7.Name).length:Int))); joinP (α:=Bool) (fun J15=>z4/\((z1.Vars).length<=4611686018427387904->if (decide (v14.2 < ((z1.Vars).length:Int)))=true then (J15 (decide (v14.1<=a1_most))) else (J15 false))) (fun v16=>if v16=true then (joinP (α:=Int) (fun J17=>z4/\((0:Int)<=v14.2/\v14.2.toNat < (z1.Vars).length)/\((z7.Name).length<=4611686018427387904->if (decide (z3<=a1_most))=true then (z4/\((0:Int)<=v14.2/\v14.2.toNat < (z1.Vars).length)/\(((z7.A).S).length<=4611686018427387904->J17 (IntKind.i64.wrap (z3+(((z7.A).S).length:Int))))) else (J17 z3))) (fun v18=>R13 (v18,(IntKind.i64.wrap (v14.2+1))))) else (R7 (v14.1,(IntKind.i64.wrap (v8.2+1)))))) (v12,0)))) else (loopP (α:=Int×Int) (fun R19 v20=>have z8:=a0_x.Objs.getD v20.2.toNat default; have z5:=(IntKind.i64.wrap (v20.1+((z8.Class).length:Int))); joinP (α:=Bool) (fun J21=>(a0_x.Objs.length<=4611686018427387904->if (decide (v20.2 < (a0_x.Objs.length:Int)))=true then (J21 (decide (v20.1<=a1_most))) else (J21 false))) (fun v22=>if v22=true then (joinP (α:=Int) (fun J23=>((0:Int)<=v20.2/\v20.2.toNat<a0_x.Objs.length)/\((z8.Class).length<=4611686018427387904->if (decide (z5<=a1_most))=true then (((0:Int)<=v20.2/\v20.2.toNat<a0_x.Objs.length)/\J23 (IntKind.i64.wrap (z5+(Lt.countArgs (z8.Vals) a1_most)))) else (J23 z5))) (fun v24=>R19 (v24,(IntKind.i64.wrap (v20.2+1))))) else (KK v20.1))) (v8.1,0)))) (v6,0))))))))
def F_wordRight (a0_a:Lt.Arg) (KK:Bool->Prop):Prop:=
 if (decide (a0_a.Kind=1))=true then (if (Lt.Name a0_a.S)=true then (KK (decide (a0_a.N=0))) else (KK false)) else (if (decide (a0_a.Kind=2))=true then (KK (decide (a0_a.S=([]:List UInt8)))) else (if (decide (a0_a.Kind=3))=true then (joinP (α:=Bool) (fun J1=>if (decide (a0_a.S=([]:List UInt8)))=true then ((J1 (decide ((Lt.Plain a0_a.N)=a0_a.N)))/\(J1 (decide ((Lt.Plain a0_a.N)=a0_a.N)))) else ((J1 false)/\(J1 false))) (fun v2=>KK v2)) else (if (decide (a0_a.Kind=4))=true then (if (decide (a0_a.S=([]:List UInt8)))=true then (KK (decide (a0_a.N=0))) else (KK false)) else (if (decide (a0_a.Kind=5))=true then (joinP (α:=Bool) (fun J3=>if (decide (a0_a.S=([]:List UInt8)))=true then (if (decide (0<=a0_a.N))=true then (J3 (decide (a0_a.N<=999))) else (J3 false)) else (J3 false)) (fun v4=>KK v4)) else (KK false)))))
def F_floPut (a0_n:Int) (KK:(List UInt8)->Prop):Prop:=
 have z2:=([48,49,50,51,52,53,54,55,56,57,97,98,99,100,101,102]:List UInt8); loopP (α:=List UInt8×Int) (fun R1 v2=>have z1:=(IntKind.u64.wrap ((BitVec.ofInt IntKind.u64.bits (Int.fdiv (IntKind.u64.wrap (Lt.Plain a0_n)) (2 ^ (min (IntKind.u64.wrap v2.2).toNat IntKind.u64.bits))) &&& BitVec.ofInt IntKind.u64.bits 15).toNat:Nat)); have z3:=([(z2.getD z1.toNat 0)]:List UInt8); if (decide (0<=v2.2))=true then ((0:Int)<=(IntKind.u64.wrap v2.2)/\((0:Int)<=z1/\z1.toNat<z2.length)/\(v2.1.length+z3.length<=4611686018427387904/\(v2.1.length+z3.length)*1<=140737488355328)/\R1 ((v2.1++z3),(IntKind.i64.wrap (v2.2 - 4)))) else (KK v2.1)) ([(48:UInt8),(102:UInt8)],60)
def F_puts (a0_l:List Lt.Arg) (KK:(List (List UInt8))->Prop):Prop:=
 (a0_l.length<=4611686018427387904->loopP (α:=List (List UInt8)×Int) (fun R1 v2=>if (decide (v2.2 < (a0_l.length:Int)))=true then (((0:Int)<=v2.2/\v2.2.toNat<a0_l.length)/\(Lt.prePut (a0_l.getD v2.2.toNat default))/\(v2.1.length+([(Lt.wordPut (a0_l.getD v2.2.toNat default))]:List (List UInt8)).length<=4611686018427387904/\(v2.1.length+([(Lt.wordPut (a0_l.getD v2.2.toNat default))]:List (List UInt8)).length)*16<=140737488355328)/\R1 ((v2.1++([(Lt.wordPut (a0_l.getD v2.2.toNat default))]:List (List UInt8))),(IntKind.i64.wrap (v2.2+1)))) else (KK v2.1)) ([],0))
def F_rSize (a0_n:Int) (KK:Int->Prop):Prop:=
 if (decide (a0_n < 0))=true then (KK (IntKind.u64.wrap (0 - (IntKind.u64.wrap a0_n)))) else (KK (IntKind.u64.wrap a0_n))
def F_rRight (a0_a:Lt.Arg) (KK:Bool->Prop):Prop:=
 have z2:=decide (a0_a.Kind=4); have z1:=decide (a0_a.Kind=5); if (decide (a0_a.Kind=1))=true then (if (Lt.rName a0_a.S)=true then (KK (decide (a0_a.N=0))) else (KK false)) else (joinP (α:=Bool) (fun J1=>if (decide (a0_a.Kind < 1))=true then (J1 true) else (if (decide (5<a0_a.Kind))=true then (J1 true) else (J1 (!decide (a0_a.S=([]:List UInt8)))))) (fun v2=>if v2=true then (KK false) else (joinP (α:=Bool) (fun J3=>if (decide (a0_a.Kind=2))=true then ((J3 true)/\(J3 true)) else (if (decide (a0_a.Kind=3))=true then ((if (decide ((Lt.rPlain a0_a.N)=a0_a.N))=true then (J3 true) else (if z2=true then (if (decide (a0_a.N=0))=true then (J3 true) else (if z1=true then (if (decide (0<=a0_a.N))=true then (J3 (decide (a0_a.N<=999))) else (J3 false)) else (J3 false))) else (if z1=true then (if (decide (0<=a0_a.N))=true then (J3 (decide (a0_a.N<=999))) else (J3 false)) else (J3 false))))/\(if (decide ((Lt.rPlain a0_a.N)=a0_a.N))=true then (J3 true) else (if z2=true then (if (decide (a0_a.N=0))=true then (J3 true) else (if z1=true then (if (decide (0<=a0_a.N))=true then (J3 (decide (a0_a.N<=999))) else (J3 false)) else (J3 false))) else (if z1=true then (if (decide (0<=a0_a.N))=true then (J3 (decide (a0_a.N<=999))) else (J3 false)) else (J3 false))))) else ((if z2=true then (if (decide (a0_a.N=0))=true then (J3 true) else (if z1=true then (if (decide (0<=a0_a.N))=true then (J3 (decide (a0_a.N<=999))) else (J3 false)) else (J3 false))) else (if z1=true then (if (decide (0<=a0_a.N))=true then (J3 (decide (a0_a.N<=999))) else (J3 false)) else (J3 false)))/\(if z2=true then (if (decide (a0_a.N=0))=true then (J3 true) else (if z1=true then (if (decide (0<=a0_a.N))=true then (J3 (decide (a0_a.N<=999))) else (J3 false)) else (J3 false))) else (if z1=true then (if (decide (0<=a0_a.N))=true then (J3 (decide (a0_a.N<=999))) else (J3 false)) else (J3 false)))))) (fun v4=>KK v4))))
def F_rFlo (a0_n:Int) (KK:(List UInt8)->Prop):Prop:=
 loopP (α:=Int×List UInt8×Int) (fun R1 v2=>if (decide (v2.2.2 < 16))=true then ((16:Int)≠0/\joinP (α:=UInt8) (fun J3=>if (decide ((((UInt8.ofNat (IntKind.u8.wrap (Int.tmod v2.1 16)).toNat).toNat:Nat):Int) < (((10:UInt8).toNat:Nat):Int)))=true then (J3 (UInt8.ofNat (IntKind.u8.wrap ((((UInt8.ofNat (IntKind.u8.wrap (Int.tmod v2.1 16)).toNat).toNat:Nat):Int)+(((48:UInt8).toNat:Nat):Int))).toNat)) else (J3 (UInt8.ofNat (IntKind.u8.wrap ((((UInt8.ofNat (IntKind.u8.wrap (Int.tmod v2.1 16)).toNat).toNat:Nat):Int)+(((87:UInt8).toNat:Nat):Int))).toNat))) (fun v4=>(([v4]:List UInt8).length+v2.2.1.length<=4611686018427387904/\(([v4]:List UInt8).length+v2.2.1.length)*1<=140737488355328)/\(16:Int)≠0/\R1 ((IntKind.u64.wrap (Int.tdiv v2.1 16)),(([v4]:List UInt8)++v2.2.1),(IntKind.i64.wrap (v2.2.2+1))))) else ([48,102].length+v2.2.1.length<=4611686018427387904/\KK ([48,102]++v2.2.1))) ((IntKind.u64.wrap (Lt.rPlain a0_n)),[],0)
def F_rArgs (a0_l:List (List UInt8)) (a1_a:List Lt.Arg) (KK:(List (List UInt8))->Prop):Prop:=
 loopP (α:=List (List UInt8)×Int) (fun R1 v2=>(a1_a.length<=4611686018427387904->if (decide (v2.2 < (a1_a.length:Int)))=true then (((0:Int)<=v2.2/\v2.2.toNat<a1_a.length)/\(Lt.prePut (a1_a.getD v2.2.toNat default))/\(v2.1.length+([(Lt.rWord (a1_a.getD v2.2.toNat default))]:List (List UInt8)).length<=4611686018427387904/\(v2.1.length+([(Lt.rWord (a1_a.getD v2.2.toNat default))]:List (List UInt8)).length)*16<=140737488355328)/\R1 ((v2.1++([(Lt.rWord (a1_a.getD v2.2.toNat default))]:List (List UInt8))),(IntKind.i64.wrap (v2.2+1)))) else (KK v2.1))) (a0_l,0)
def F_showEnd (a0_t:Lt.Term) (KK:Bool->Prop):Prop:=
 (a0_t.To.length<=4611686018427387904->loopP (α:=Int) (fun R1 v2=>if (decide (v2 < (a0_t.To.length:Int)))=true then (((0:Int)<=v2/\v2.toNat<a0_t.To.length)/\if (!(Lt.Name (a0_t.To.getD v2.toNat default)))=true then (KK false) else (R1 (IntKind.i64.wrap (v2+1)))) else (if (decide (a0_t.Kind=1))=true then (joinP (α:=Bool) (fun J3=>if (decide (a0_t.A.Kind=0)&&(decide (a0_t.A.S=([]:List UInt8))&&decide (a0_t.A.N=0)))=true then (if (decide ((a0_t.To.length:Int)=1))=true then (J3 (decide (a0_t.N=0))) else (J3 false)) else (J3 false)) (fun v4=>KK v4)) else (if (decide (a0_t.Kind=2))=true then (joinP (α:=Bool) (fun J5=>if (Lt.showArgs [a0_t.A] false)=true then (if (decide ((a0_t.To.length:Int)=2))=true then (J5 (decide (a0_t.N=0))) else (J5 false)) else (J5 false)) (fun v6=>KK v6)) else (if (decide (a0_t.Kind=3))=true then (joinP (α:=Bool) (fun J7=>if (Lt.showArgs [a0_t.A] false)=true then (if (decide ((a0_t.To.length:Int)=0))=true then (J7 (decide (a0_t.N=0))) else (J7 false)) else (J7 false)) (fun v8=>KK v8)) else (if (decide (a0_t.Kind=4))=true then (if (decide (a0_t.A.Kind=0)&&(decide (a0_t.A.S=([]:List UInt8))&&decide (a0_t.A.N=0)))=true then (KK (decide ((a0_t.To.length:Int)=0))) else (KK false)) else (KK false)))))) 0)
def F_phi (a0_x:Lt.Phi) (KK:Bool->Prop):Prop:=
 joinP (α:=Bool) (fun J1=>if (!(Lt.Name a0_x.Dst))=true then (J1 true) else (if (decide ((a0_x.Ins.length:Int)=0))=true then (J1 true) else (J1 (decide (256 < (a0_x.Ins.length:Int)))))) (fun v2=>if v2=true then (KK false) else ((a0_x.Ins.length<=4611686018427387904->loopP (α:=Int) (fun R3 v4=>if (decide (v4 < (a0_x.Ins.length:Int)))=true then (((0:Int)<=v4/\v4.toNat<a0_x.Ins.length)/\joinP (α:=Bool) (fun J5=>if (!(Lt.Name ((a0_x.Ins.getD v4.toNat default).Block)))=true then (J5 true) else (J5 (!(Lt.showArgs [((a0_x.Ins.getD v4.toNat default).A)] false)))) (fun v6=>if v6=true then (KK false) else (R3 (IntKind.i64.wrap (v4+1))))) else (KK true)) 0)))
def F_instr (a0_i:Lt.Instr) (KK:Bool->Prop):Prop:=
 joinP (α:=Bool) (fun J1=>if (!((Lt.Of a0_i.Op).2))=true then (J1 true) else (if (!(((Lt.Of a0_i.Op).1).Dst==(!decide (a0_i.Dst=([]:List UInt8)))))=true then (J1 true) else (if (!(((Lt.Of a0_i.Op).1).Named==(!decide (a0_i.Name=([]:List UInt8)))))=true then (J1 true) else (if (((Lt.Of a0_i.Op).1).Dst)=true then (if (!(Lt.Name a0_i.Dst))=true then (J1 true) else (if (((Lt.Of a0_i.Op).1).Named)=true then (J1 (!(Lt.Name a0_i.Name))) else (J1 false))) else (if (((Lt.Of a0_i.Op).1).Named)=true then (J1 (!(Lt.Name a0_i.Name))) else (J1 false)))))) (fun v2=>if v2=true then (KK false) else (joinP (α:=Bool) (fun J3=>(a0_i.Args.length<=4611686018427387904->if (decide ((a0_i.Args.length:Int) < ((Lt.Of a0_i.Op).1).Least))=true then (J3 true) else (if (decide (((Lt.Of a0_i.Op).1).Most < (a0_i.Args.length:Int)))=true then (J3 true) else (if (!(Lt.showArgs a0_i.Args false))=true then (J3 true) else (if (decide (16 < (a0_i.Frames.length:Int)))=true then (J3 true) else (J3 (decide (99 < (a0_i.Objs.length:Int))))))))) (fun v4=>if v4=true then (KK false) else (joinP (α:=Bool) (fun J5=>if (!decide (a0_i.Op=31))=true then (J5 (!decide (a0_i.Op=34))) else (J5 false)) (fun v6=>if v6=true then ((a0_i.Frames.length<=4611686018427387904->if (decide ((a0_i.Frames.length:Int)=0))=true then (KK (decide ((a0_i.Objs.length:Int)=0))) else (KK false))) else ((a0_i.Frames.length<=4611686018427387904->loopP (α:=Int) (fun R7 v8=>if (decide (v8 < (a0_i.Frames.length:Int)))=true then (((0:Int)<=v8/\v8.toNat<a0_i.Frames.length)/\if (!(Lt.frame (a0_i.Frames.getD v8.toNat default)))=true then (KK false) else (R7 (IntKind.i64.wrap (v8+1)))) else ((a0_i.Objs.length<=4611686018427387904->loopP (α:=Int) (fun R9 v10=>have z1:=a0_i.Objs.getD v10.toNat default; if (decide (v10 < (a0_i.Objs.length:Int)))=true then (((0:Int)<=v10/\v10.toNat<a0_i.Objs.length)/\joinP (α:=Bool) (fun J11=>if (!(Lt.Name (z1.Class)))=true then (J11 true) else (if (decide (8 < ((z1.Vals).length:Int)))=true then (J11 true) else (J11 (!(Lt.showArgs (z1.Vals) true))))) (fun v12=>if v12=true then (KK false) else (R9 (IntKind.i64.wrap (v10+1))))) else (KK true)) 0))) 0)))))))
def F_SameInstr (a0_a:Lt.Instr) (a1_b:Lt.Instr) (KK:Bool->Prop):Prop:=
 joinP (α:=Bool) (fun J1=>if (!decide (a0_a.Op=a1_b.Op))=true then (J1 true) else (if (!decide (a0_a.Dst=a1_b.Dst))=true then (J1 true) else (if (!decide (a0_a.Name=a1_b.Name))=true then (J1 true) else (if (!(Lt.sameArgs a0_a.Args a1_b.Args))=true then (J1 true) else (if (!decide ((a0_a.Frames.length:Int)=(a1_b.Frames.length:Int)))=true then (J1 true) else (J1 (!decide ((a0_a.Objs.length:Int)=(a1_b.Objs.length:Int))))))))) (fun v2=>if v2=true then (KK false) else (loopP (α:=Int) (fun R3 v4=>have z2:=a1_b.Frames.getD v4.toNat default; have z1:=a0_a.Frames.getD v4.toNat default; (a0_a.Frames.length<=4611686018427387904->if (decide (v4 < (a0_a.Frames.length:Int)))=true then (((0:Int)<=v4/\v4.toNat<a0_a.Frames.length)/\((0:Int)<=v4/\v4.toNat<a1_b.Frames.length)/\joinP (α:=Bool) (fun J5=>if (!decide (z1.Func=z2.Func))=true then (J5 true) else (if (!decide (z1.Block=z2.Block))=true then (J5 true) else (if (!decide (z1.At=z2.At))=true then (J5 true) else (J5 (!decide (((z1.Vars).length:Int)=((z2.Vars).length:Int))))))) (fun v6=>if v6=true then (KK false) else (loopP (α:=Int) (fun R7 v8=>have z4:=(z2.Vars).getD v8.toNat default; have z3:=(z1.Vars).getD v8.toNat default; ((z1.Vars).length<=4611686018427387904->if (decide (v8 < ((z1.Vars).length:Int)))=true then (((0:Int)<=v8/\v8.toNat < (z1.Vars).length)/\((0:Int)<=v8/\v8.toNat < (z2.Vars).length)/\if (!(decide (z3.Name=z4.Name)&&(decide ((z3.A).Kind=(z4.A).Kind)&&(decide ((z3.A).S=(z4.A).S)&&decide ((z3.A).N=(z4.A).N)))))=true then (KK false) else (R7 (IntKind.i64.wrap (v8+1)))) else (R3 (IntKind.i64.wrap (v4+1))))) 0))) else (loopP (α:=Int) (fun R9 v10=>(a0_a.Objs.length<=4611686018427387904->if (decide (v10 < (a0_a.Objs.length:Int)))=true then (joinP (α:=Bool) (fun J11=>((0:Int)<=v10/\v10.toNat<a0_a.Objs.length)/\((0:Int)<=v10/\v10.toNat<a1_b.Objs.length)/\if (!decide ((a0_a.Objs.getD v10.toNat default).Class=(a1_b.Objs.getD v10.toNat default).Class))=true then (J11 true) else (((0:Int)<=v10/\v10.toNat<a0_a.Objs.length)/\((0:Int)<=v10/\v10.toNat<a1_b.Objs.length)/\J11 (!(Lt.sameArgs ((a0_a.Objs.getD v10.toNat default).Vals) ((a1_b.Objs.getD v10.toNat default).Vals))))) (fun v12=>if v12=true then (KK false) else (R9 (IntKind.i64.wrap (v10+1))))) else (KK true))) 0))) 0))
def F_countArgs (a0_l:List Lt.Arg) (a1_most:Int) (KK:Int->Prop):Prop:=
 (a0_l.length<=4611686018427387904->if (decide (a1_most < (a0_l.length:Int)))=true then (KK (IntKind.i64.wrap (a1_most+1))) else ((a0_l.length<=4611686018427387904->loopP (α:=Int×Int) (fun R1 v2=>joinP (α:=Bool) (fun J3=>(a0_l.length<=4611686018427387904->if (decide (v2.2 < (a0_l.length:Int)))=true then (J3 (decide (v2.1<=a1_most))) else (J3 false))) (fun v4=>if v4=true then (((0:Int)<=v2.2/\v2.2.toNat<a0_l.length)/\(((a0_l.getD v2.2.toNat default).S).length<=4611686018427387904->R1 ((IntKind.i64.wrap (v2.1+(((a0_l.getD v2.2.toNat default).S).length:Int))),(IntKind.i64.wrap (v2.2+1))))) else (KK v2.1))) ((a0_l.length:Int),0))))
def F_Plain (a0_n:Int) (KK:Int->Prop):Prop:=
 joinP (α:=Bool) (fun J1=>if (decide ((IntKind.i64.wrap ((BitVec.ofInt IntKind.i64.bits a0_n &&& BitVec.ofInt IntKind.i64.bits 9218868437227405312).toNat:Nat))=9218868437227405312))=true then (J1 (!decide ((IntKind.i64.wrap ((BitVec.ofInt IntKind.i64.bits a0_n &&& BitVec.ofInt IntKind.i64.bits 4503599627370495).toNat:Nat))=0))) else (J1 false)) (fun v2=>if v2=true then (KK 9221120237041090560) else (KK a0_n))
def F_rName (a0_s:List UInt8) (KK:Bool->Prop):Prop:=
 loopP (α:=Int) (fun R1 v2=>have z1:=(((a0_s.getD v2.toNat 0).toNat:Nat):Int); have z3:=(decide (z1 < (((97:UInt8).toNat:Nat):Int))); have z2:=(decide ((((122:UInt8).toNat:Nat):Int)<z1)); (a0_s.length<=4611686018427387904->if (decide (v2 < (a0_s.length:Int)))=true then (((0:Int)<=v2/\v2.toNat<a0_s.length)/\joinP (α:=Bool) (fun J3=>if (decide ((((48:UInt8).toNat:Nat):Int)<=z1))=true then (J3 (decide (z1<=(((57:UInt8).toNat:Nat):Int)))) else (J3 false)) (fun v4=>joinP (α:=Bool) (fun J5=>if v4=true then (if (!(decide (0<v2)))=true then (if (!decide (z1=(((95:UInt8).toNat:Nat):Int)))=true then (if (decide (z1 < (((65:UInt8).toNat:Nat):Int)))=true then (if z3=true then (J5 true) else (J5 z2)) else (if (decide ((((90:UInt8).toNat:Nat):Int)<z1))=true then (if z3=true then (J5 true) else (J5 z2)) else (J5 false))) else (J5 false)) else (J5 false)) else (if (!false)=true then (if (!decide (z1=(((95:UInt8).toNat:Nat):Int)))=true then (if (decide (z1 < (((65:UInt8).toNat:Nat):Int)))=true then (if z3=true then (J5 true) else (J5 z2)) else (if (decide ((((90:UInt8).toNat:Nat):Int)<z1))=true then (if z3=true then (J5 true) else (J5 z2)) else (J5 false))) else (J5 false)) else (J5 false))) (fun v6=>if v6=true then (KK false) else (R1 (IntKind.i64.wrap (v2+1)))))) else (joinP (α:=Bool) (fun J7=>(a0_s.length<=4611686018427387904->if (decide (1<=(a0_s.length:Int)))=true then (if (decide ((a0_s.length:Int)<=16))=true then (if (!decide (a0_s=[110,117,108,108]))=true then (if (!decide (a0_s=[105,110,116]))=true then (J7 (!decide (a0_s=[102,108,111,97,116]))) else (J7 false)) else (J7 false)) else (J7 false)) else (J7 false))) (fun v8=>KK v8)))) 0
def F_rPlain (a0_n:Int) (KK:Int->Prop):Prop:=
 if (Lt.rIsNan a0_n)=true then (KK 9221120237041090560) else (KK a0_n)
def F_showArgs (a0_l:List Lt.Arg) (a1_objs:Bool) (KK:Bool->Prop):Prop:=
 (a0_l.length<=4611686018427387904->loopP (α:=Int) (fun R1 v2=>if (decide (v2 < (a0_l.length:Int)))=true then (((0:Int)<=v2/\v2.toNat<a0_l.length)/\joinP (α:=Bool) (fun J3=>if (!(Lt.wordRight (a0_l.getD v2.toNat default)))=true then (J3 true) else (if (decide ((a0_l.getD v2.toNat default).Kind=5))=true then (J3 (!a1_objs)) else (J3 false))) (fun v4=>if v4=true then (KK false) else (R1 (IntKind.i64.wrap (v2+1))))) else (KK true)) 0)
def F_frame (a0_f:Lt.Frame) (KK:Bool->Prop):Prop:=
 joinP (α:=Bool) (fun J1=>if (!(Lt.Name a0_f.Func))=true then (J1 true) else (if (!(Lt.Name a0_f.Block))=true then (J1 true) else (if (decide (a0_f.At < 0))=true then (J1 true) else (if (decide (1024<a0_f.At))=true then (J1 true) else (J1 (decide (16 < (a0_f.Vars.length:Int)))))))) (fun v2=>if v2=true then (KK false) else ((a0_f.Vars.length<=4611686018427387904->loopP (α:=Int) (fun R3 v4=>if (decide (v4 < (a0_f.Vars.length:Int)))=true then (((0:Int)<=v4/\v4.toNat<a0_f.Vars.length)/\joinP (α:=Bool) (fun J5=>if (!(Lt.Name ((a0_f.Vars.getD v4.toNat default).Name)))=true then (J5 true) else (J5 (!(Lt.showArgs [((a0_f.Vars.getD v4.toNat default).A)] true)))) (fun v6=>if v6=true then (KK false) else (R3 (IntKind.i64.wrap (v4+1))))) else (KK true)) 0)))
def F_sameArgs (a0_a:List Lt.Arg) (a1_b:List Lt.Arg) (KK:Bool->Prop):Prop:=
 (a0_a.length<=4611686018427387904->(a1_b.length<=4611686018427387904->if (!decide ((a0_a.length:Int)=(a1_b.length:Int)))=true then (KK false) else (loopP (α:=Int) (fun R1 v2=>(a0_a.length<=4611686018427387904->if (decide (v2 < (a0_a.length:Int)))=true then (((0:Int)<=v2/\v2.toNat<a0_a.length)/\((0:Int)<=v2/\v2.toNat<a1_b.length)/\if (!(decide ((a0_a.getD v2.toNat default).Kind=(a1_b.getD v2.toNat default).Kind)&&(decide ((a0_a.getD v2.toNat default).S=(a1_b.getD v2.toNat default).S)&&decide ((a0_a.getD v2.toNat default).N=(a1_b.getD v2.toNat default).N))))=true then (KK false) else (R1 (IntKind.i64.wrap (v2+1)))) else (KK true))) 0)))
def F_rIsNan (a0_n:Int) (KK:Bool->Prop):Prop:=
 (9223372036854775808:Int)≠0/\KK (decide (9218868437227405312 < (Int.tmod (IntKind.u64.wrap a0_n) 9223372036854775808)))
def F_sHalf (a0_n:Int) (KK:Int->Prop):Prop:=
 KK (IntKind.i64.wrap a0_n)
end Go.Am
end

section
namespace Go.Am
open Go
set_option linter.unusedVariables false
set_option linter.unusedSimpArgs false
theorem ifk {c:Prop} [Decidable c] {A B:Prop} (h1:c->A) (h2:¬ c->B):if c then A else B:=by
 by_cases hc:c
 ·rw [if_pos hc]; exact h1 hc
 ·rw [if_neg hc]; exact h2 hc
theorem kk {α:Type} {KK:α->Prop} {a b:α} (h:KK a) (e:a=b):KK b:=e ▸ h
theorem law_kept (s:List UInt8) (KK:Bool->Prop) (h:KK (Lt.kept s)):F_kept s KK:=by
 unfold F_kept; (try simp only [jn_app,jn_and,jn_imp,jval,bor,band,bnand,bimp,and_self]); unfold Lt.kept at h; simpa only [Bool.or_assoc] using h
theorem law_kind (s:List UInt8) (KK:Bool->Prop) (h:KK (Lt.kind s)):F_kind s KK:=by
 unfold F_kind; (try simp only [jn_app,jn_and,jn_imp,jval,bor,band,bnand,bimp,and_self]); unfold Lt.kind at h; simpa only [Bool.or_assoc] using h
theorem law_letter (c:UInt8) (KK:Bool->Prop) (h:KK (Lt.letter c)):F_letter c KK:=by
 unfold F_letter; (try simp only [jn_app,jn_and,jn_imp,jval,bor,band,bnand,bimp,and_self])
 refine kk h ?_
 unfold Lt.letter Lt.letterI
 grind
theorem law_wordDigit (c:UInt8) (KK:Bool->Prop) (h:KK (Lt.wordDigit c)):F_wordDigit c KK:=by
 unfold F_wordDigit; (try simp only [jn_app,jn_and,jn_imp,jval,bor,band,bnand,bimp,and_self]); exact h
theorem law_example6 (t:Lt.Term) (KK:Lt.Program->Prop) (h:KK (Lt.example6 t)):F_example6 t KK:=h
theorem law_number (n:Int) (hp:Lt.preNum n) (KK:List UInt8->Prop) (h:KK (Lt.number n)):F_number n KK:=⟨hp,h⟩
theorem law_Plain (n:Int) (KK:Int->Prop) (h:KK (Lt.Plain n)):F_Plain n KK:=by
 unfold F_Plain; (try simp only [jn_app,jn_and,jn_imp,jval,bor,band,bnand,bimp,and_self]); unfold Lt.Plain at h; exact h
theorem law_Name (s:List UInt8) (KK:Bool->Prop) (h:KK (Lt.Name s)):F_Name s KK:=by
 unfold F_Name; (try simp only [jn_app,jn_and,jn_imp,jval,bor,band,bnand,bimp,and_self,up_lr,up_l,up_r])
 have hn:¬ s=[]->0<s.length:=by cases s <;> simp
 refine ⟨fun h1 h2=>⟨Int.le_refl _,by grind⟩,?_⟩
 split
 ·refine kk h ?_
  unfold Lt.Name; grind
 ·intro hl
  refine all_loop (α:=UInt8) s hl Lt.nameByte true KK _ (fun R i hi ih hF=>?_) (fun R h=>?_) (kk h ?_)
  ·have hd:s.getD i 0=s.getD i default:=rfl
   simp only [lt_t hi,if_true,Int.toNat_natCast,hd]
   unfold Lt.nameByte at ih hF
   refine ⟨fun _=>⟨Int.natCast_nonneg i,hi⟩,fun _ _=>⟨Int.natCast_nonneg i,hi⟩,?_⟩
   grind
  ·simp only [lt_f,Bool.false_eq_true,if_false]; exact ⟨False.elim,False.elim,h⟩
  ·unfold Lt.Name; grind
theorem law_typed (l:List Lt.Var) (most:Int) (KK:Bool->Prop) (h:KK (Lt.typed l most)):F_typed l most KK:=by
 unfold F_typed; (try simp only [jn_app,jn_and,jn_imp,jval,bor,band,bnand,bimp,and_self])
 unfold Lt.typed at h
 intro hl
 split
 ·refine kk h ?_; grind
 ·intro _
  refine all_loop l hl (fun v=>Lt.Name v.Name&&Lt.kind v.Type_) true KK _ (fun R i hi ih hF=>?_) (fun R h=>?_) (kk h ?_)
  ·simp only [lt_t hi,if_true,Int.toNat_natCast]
   refine ⟨⟨Int.natCast_nonneg i,hi⟩,?_⟩
   grind
  ·simp only [lt_f,Bool.false_eq_true,if_false]; exact h
  ·grind
theorem law_wordRight (a:Lt.Arg) (KK:Bool->Prop) (h:KK (Lt.wordRight a)):F_wordRight a KK:=by
 unfold F_wordRight; (try simp only [jn_app,jn_and,jn_imp,jval,bor,band,bnand,bimp,and_self])
 refine kk h ?_
 unfold Lt.wordRight
 grind
theorem law_showArgs (l:List Lt.Arg) (objs:Bool) (KK:Bool->Prop) (h:KK (Lt.showArgs l objs)):F_showArgs l objs KK:=by
 unfold F_showArgs; (try simp only [jn_app,jn_and,jn_imp,jval,bor,band,bnand,bimp,and_self])
 intro hl
 refine all_loop l hl (Lt.argRight objs) true KK _ (fun R i hi ih hF=>?_) (fun R h=>?_) (kk h ?_)
 ·simp only [lt_t hi,if_true,Int.toNat_natCast]
  refine ⟨⟨Int.natCast_nonneg i,hi⟩,?_⟩
  unfold Lt.argRight at ih hF
  grind
 ·simp only [lt_f,Bool.false_eq_true,if_false]; exact h
 ·simp [Lt.showArgs]
theorem args1 (a:Lt.Arg) (o:Bool):Lt.showArgs [a] o=Lt.argRight o a:=by simp [Lt.showArgs]
theorem law_frame (f:Lt.Frame) (KK:Bool->Prop) (h:KK (Lt.frame f)):F_frame f KK:=by
 unfold F_frame; (try simp only [jn_app,jn_and,jn_imp,jval,bor,band,bnand,bimp,and_self])
 unfold Lt.frame at h
 split
 ·refine kk h ?_; grind
 ·intro hl
  refine all_loop f.Vars hl Lt.bindRight true KK _ (fun R i hi ih hF=>?_) (fun R h=>?_) (kk h ?_)
  ·simp only [lt_t hi,if_true,Int.toNat_natCast,args1]
   refine ⟨⟨Int.natCast_nonneg i,hi⟩,?_⟩
   unfold Lt.bindRight at ih hF
   grind
  ·simp only [lt_f,Bool.false_eq_true,if_false]; exact h
  ·grind
theorem law_nth (l:List UInt8) (n:Int) (KK:List UInt8->Prop) (h:KK (Lt.nth l n)):F_nth l n KK:=by
 unfold F_nth; (try simp only [jn_app,jn_and,jn_imp,jn_const,jn_ite,jval,bor,band,bnand,bimp,and_self])
 unfold Lt.nth at h
 by_cases hl:l.length<=LEN
 ·refine nat_loop _ (l.length+1) (fun k x=>∃ (n:Int) (f i:Nat),x=(n,(f:Int),(i:Int))/\i=k+1/\f<i/\f<=l.length/\KK (Lt.nthG l (l.length+1-k) n f i)) (fun R k x hk hP hR=>?_) (fun R x hP=>?_) _ ⟨n,0,1,rfl,by omega,by omega,by omega,h⟩
  ·obtain ⟨n,f,i,rfl,hi1,hf,hf2,h⟩:=hP
   intro _
   by_cases hi:i<l.length
   ·simp only [lt_t hi,if_true,Int.toNat_natCast]
    refine ⟨⟨Int.natCast_nonneg i,hi⟩,?_⟩
    rw [show l.length+1-k=(l.length+1 - (k+1))+1 by omega] at h
    simp only [Lt.nthG,hi,if_true] at h
    have w1:IntKind.i64.wrap ((i:Int)+1)=((i+1:Nat):Int):=wrap_succ (by unfold LEN at hl; omega)
    have w2:IntKind.i64.wrap ((f:Int)+1)=((f+1:Nat):Int):=wrap_succ (by unfold LEN at hl; omega)
    rw [w1,w2]
    dsimp +instances only [Int.toNat_natCast]
    split
    ·rename_i hc
     have hc':¬ (((l.getD i 0).toNat:Nat):Int)=32:=by simpa using hc
     rw [if_neg hc'] at h
     exact hR _ ⟨n,f,i+1,rfl,by omega,by omega,by omega,h⟩
    ·rename_i hc
     have hc':(((l.getD i 0).toNat:Nat):Int)=32:=by simpa using hc
     rw [if_pos hc'] at h
     split
     ·rename_i hz
      have hz':IntKind.i64.wrap (n - 1)=0:=by simpa using hz
      rw [if_pos hz'] at h
      exact ⟨Int.natCast_nonneg _,Int.natCast_nonneg _,⟨by omega,by omega⟩,h⟩
     ·rename_i hz
      have hz':¬ IntKind.i64.wrap (n - 1)=0:=by simpa using hz
      rw [if_neg hz'] at h
      exact hR _ ⟨_,i,i+1,rfl,by omega,by omega,by omega,h⟩
   ·have hf:decide ((i:Int) < (l.length:Int))=false:=by simp; omega
    simp only [hf,Bool.false_eq_true,if_false]
    rw [show l.length+1-k=(l.length+1 - (k+1))+1 by omega] at h
    simp only [Lt.nthG,hi,if_false] at h
    exact h
  ·obtain ⟨n,f,i,rfl,hi1,hf,hf2,h⟩:=hP
   intro _
   have hf:decide ((i:Int) < (l.length:Int))=false:=by simp; omega
   simp only [hf,Bool.false_eq_true,if_false]
   rw [show l.length+1 - (l.length+1)=0 by omega] at h
   exact h
 ·exact ⟨1,fun h=>absurd h hl⟩
theorem law_Of (op:Int) (KK:Lt.Form×Bool->Prop) (h:KK (Lt.Of op)):F_Of op KK:=by
 unfold F_Of; (try simp only [jn_app,jn_and,jn_imp,jval,bor,band,bnand,bimp,and_self])
 refine kk h ?_
 unfold Lt.Of Lt.two
 simp only [Bool.and_eq_true,decide_eq_true_eq]
end Go.Am
end

section
namespace Go.Am
open Go
set_option linter.unusedVariables false
set_option linter.unusedSimpArgs false
theorem wrap_small {n:Int} (h1:-9223372036854775808<=n) (h2:n < 9223372036854775808):IntKind.i64.wrap n=n:=by
 simp only [IntKind.wrap,IntKind.signed,IntKind.bits]
 simp
 omega
theorem digs_small {n:Nat} (h:n < 10):Lt.digs n=[UInt8.ofNat (48+n)]:=by
 rw [Lt.digs,if_pos h]
theorem digs_big {n:Nat} (h:¬ n < 10):Lt.digs n=Lt.digs (n / 10)++[UInt8.ofNat (48+n % 10)]:=by
 rw [Lt.digs,if_neg h]
theorem digs_len:∀ (k n:Nat),n < 10 ^ (k+1)->(Lt.digs n).length<=k+1
 | 0,n,h=>by rw [digs_small (by omega)]; simp
 | k+1,n,h=>by
  by_cases h10:n < 10
  ·rw [digs_small h10]; simp
  ·rw [digs_big h10]
   have:=digs_len k (n / 10) (by rw [Nat.pow_succ] at h; omega)
   simp only [List.length_append,List.length_cons,List.length_nil]
   omega
theorem numPut_len {n:Int} (h:Lt.inR n):(Lt.numPut n).length<=20:=by
 unfold Lt.inR at h
 have:=digs_len 18 n.natAbs (by omega)
 unfold Lt.numPut
 simp only [List.length_append]
 split <;> simp <;> omega
theorem and15 (x:Int):((BitVec.ofInt IntKind.u64.bits x &&& BitVec.ofInt IntKind.u64.bits 15).toNat:Nat) < 16:=by
 have e:(BitVec.ofInt IntKind.u64.bits 15).toNat=15:=by decide
 rw [BitVec.toNat_and,e]
 exact Nat.lt_of_le_of_lt Nat.and_le_right (by omega)
theorem wrapu_small {n:Nat} (h:n < 18446744073709551616):IntKind.u64.wrap (n:Int)=(n:Int):=by
 simp only [IntKind.wrap,IntKind.signed,IntKind.bits]
 simp
 omega
theorem hexAt_ok (u x:Int):(0:Int)<=(IntKind.u64.wrap ((BitVec.ofInt IntKind.u64.bits (Int.fdiv (IntKind.u64.wrap u) (2 ^ (min (IntKind.u64.wrap x).toNat IntKind.u64.bits))) &&& BitVec.ofInt IntKind.u64.bits 15).toNat:Nat)) /\
  (IntKind.u64.wrap ((BitVec.ofInt IntKind.u64.bits (Int.fdiv (IntKind.u64.wrap u) (2 ^ (min (IntKind.u64.wrap x).toNat IntKind.u64.bits))) &&& BitVec.ofInt IntKind.u64.bits 15).toNat:Nat)).toNat < ([48,49,50,51,52,53,54,55,56,57,97,98,99,100,101,102]:List UInt8).length:=by
 have h:=and15 (Int.fdiv (IntKind.u64.wrap u) (2 ^ (min (IntKind.u64.wrap x).toNat IntKind.u64.bits)))
 rw [wrapu_small (by omega),Int.toNat_natCast]
 exact ⟨Int.natCast_nonneg _,h⟩
theorem law_floPut (n:Int) (KK:List UInt8->Prop) (h:KK (Lt.floPut n)):F_floPut n KK:=by
 unfold F_floPut; dsimp only; (try simp only [jn_app,jn_and,jn_imp,jn_const,jn_ite,jval,bor,band,bnand,bimp,and_self])
 refine nat_loop _ 16 (fun i x=>x=([48,102]++(List.range i).map fun (j:Nat)=>Lt.hexAt (Lt.Plain n) (60 - 4*(j:Int)),60 - 4*(i:Int))) (fun R i x hi hP hR=>?_) (fun R x hP=>?_) _ rfl
 ·subst hP
  have hd:decide ((0:Int)<=60 - 4*(i:Int))=true:=by simp; omega
  simp only [hd,if_true]
  have w:IntKind.i64.wrap (60 - 4*(i:Int) - 4)=60 - 4*((i+1:Nat):Int):=by rw [wrap_small (by omega) (by omega)]; omega
  refine ⟨?_,hexAt_ok _ _,?_,hR _ ?_⟩
  ·have:IntKind.u64.wrap (60 - 4*(i:Int))=60 - 4*(i:Int):=by
    have:=wrapu_small (n:=60 - 4*i) (by omega)
    rw [show ((60 - 4*i:Nat):Int)=60 - 4*(i:Int) by omega] at this
    exact this
   rw [this]; omega
  ·simp only [List.length_append,List.length_map,List.length_range,List.length_cons,List.length_nil]
   omega
  ·rw [w,List.range_succ,List.map_append,<- List.append_assoc]; rfl
 ·subst hP
  have:decide ((0:Int)<=60 - 4*((16:Nat):Int))=false:=by decide
  simp only [this,Bool.false_eq_true,if_false]
  exact h
theorem floPut_len (n:Int):(Lt.floPut n).length=18:=by simp [Lt.floPut]
theorem law_wordPut (a:Lt.Arg) (hp:Lt.prePut a) (KK:List UInt8->Prop) (h:KK (Lt.wordPut a)):F_wordPut a KK:=by
 unfold F_wordPut; (try simp only [jn_app,jn_and,jn_imp,jval,bor,band,bnand,bimp,and_self]); unfold Lt.wordPut at h
 unfold Lt.prePut Lt.Arg.ok at hp
 have hq:Lt.preNum a.N:=hp
 have:=numPut_len hp
 have e:(35::Lt.numPut a.N).length<=4611686018427387904:=by simp only [List.length_cons]; omega
 grind
theorem law_puts (l:List Lt.Arg) (hp:Lt.prePuts l) (KK:List (List UInt8)->Prop) (h:KK (Lt.puts l)):F_puts l KK:=by
 obtain ⟨hp,hl⟩:=hp
 unfold F_puts; (try simp only [jn_app,jn_and,jn_imp,jn_const,jn_ite,jval,bor,band,bnand,bimp,and_self])
 intro _
 refine idx_loop l.length (by unfold LEN; omega) (fun i=>Lt.puts (l.take i)) _ (fun R i hi ih=>?_) (fun R=>?_) rfl
 ·simp only [lt_t hi,if_true,Int.toNat_natCast]
  refine ⟨⟨Int.natCast_nonneg i,hi⟩,hp _ (mem_getD l hi),?_,?_⟩
  ·simp only [Lt.puts,List.length_map,List.length_take,List.length_cons,List.length_nil]; omega
  ·rw [take_snoc l hi] at ih
   simp only [Lt.puts,List.map_append,List.map_cons,List.map_nil] at ih ⊢
   exact ih
 ·simp only [lt_f,Bool.false_eq_true,if_false,List.take_length]; exact h
end Go.Am
end

section
namespace Go.Am
open Go
set_option linter.unusedVariables false
set_option linter.unusedSimpArgs false
theorem len0 {α:Type} (l:List α):((l.length:Int)=0)=(l=[]):=by
 cases l <;> simp
 omega
theorem law_phi (x:Lt.Phi) (KK:Bool->Prop) (h:KK (Lt.phi x)):F_phi x KK:=by
 unfold F_phi; (try simp only [jn_app,jn_and,jn_imp,jn_const,jn_ite,jval,bor,band,bnand,bimp,and_self])
 have e0:=len0 x.Ins
 unfold Lt.phi at h
 split
 ·refine kk h ?_; grind
 ·intro hl
  refine all_loop x.Ins hl Lt.inRight true KK _ (fun R i hi ih hF=>?_) (fun R h=>?_) (kk h ?_)
  ·simp only [lt_t hi,if_true,Int.toNat_natCast,args1]
   refine ⟨⟨Int.natCast_nonneg i,hi⟩,?_⟩
   unfold Lt.inRight at ih hF
   grind
  ·simp only [lt_f,Bool.false_eq_true,if_false]; exact h
  ·grind
theorem noArg_eq (a:Lt.Arg):(decide (a.Kind=0)&&(decide (a.S=([]:List UInt8))&&decide (a.N=0)))=Lt.noArg a:=by
 obtain ⟨k,s,n⟩:=a
 simp only [Lt.noArg,Lt.Arg.mk.injEq]
 by_cases h1:k=0 <;> by_cases h2:s=[] <;> by_cases h3:n=0 <;> simp [h1,h2,h3]
theorem law_showEnd (t:Lt.Term) (KK:Bool->Prop) (h:KK (Lt.showEnd t)):F_showEnd t KK:=by
 unfold F_showEnd; (try simp only [jn_app,jn_and,jn_imp,jn_const,jn_ite,jval,bor,band,bnand,bimp,and_self])
 intro hl
 unfold Lt.showEnd at h
 refine all_loop t.To hl Lt.Name _ KK _ (fun R i hi ih hF=>?_) (fun R h=>?_) h
 ·simp only [lt_t hi,if_true,Int.toNat_natCast]
  refine ⟨⟨Int.natCast_nonneg i,hi⟩,?_⟩
  grind
 ·simp only [lt_f,Bool.false_eq_true,if_false,noArg_eq,args1]
  have e0:((t.To.length:Int)=0)=(t.To.length=0):=propext (by omega)
  have e1:((t.To.length:Int)=1)=(t.To.length=1):=propext (by omega)
  have e2:((t.To.length:Int)=2)=(t.To.length=2):=propext (by omega)
  refine kk h ?_
  simp only [e0,e1,e2]
  grind
theorem law_instr (x:Lt.Instr) (KK:Bool->Prop) (h:KK (Lt.instr x)):F_instr x KK:=by
 unfold F_instr; dsimp only; (try simp only [jn_app,jn_and,jn_imp,jval,bor,band,bnand,bimp,and_self])
 have e0:=len0 x.Frames
 have e1:=len0 x.Objs
 unfold Lt.instr at h
 refine ifk (fun hc=>kk h (by grind)) (fun hA hl=>?_)
 refine ifk (fun hc=>kk h (by grind)) (fun hB=>?_)
 refine ifk (fun hc hl=>kk h (by grind)) (fun hC hl=>?_)
 refine all_loop x.Frames hl Lt.frame (x.Objs.all Lt.virt) KK _ (fun R i hi ih hF=>?_) (fun R h=>?_) (kk h ?_)
 ·simp only [lt_t hi,if_true,Int.toNat_natCast]
  refine ⟨⟨Int.natCast_nonneg i,hi⟩,?_⟩
  grind
 ·simp only [lt_f,Bool.false_eq_true,if_false]
  intro hl2
  refine all_loop x.Objs hl2 Lt.virt true KK _ (fun R i hi ih hF=>?_) (fun R h=>?_) (kk h ?_)
  ·simp only [lt_t hi,if_true,Int.toNat_natCast]
   refine ⟨⟨Int.natCast_nonneg i,hi⟩,?_⟩
   unfold Lt.virt at ih hF
   grind
  ·simp only [lt_f,Bool.false_eq_true,if_false]; exact h
  ·simp
 ·grind
theorem law_block (b:Lt.Block) (KK:Bool->Prop) (h:KK (Lt.block b)):F_block b KK:=by
 unfold F_block; (try simp only [jn_app,jn_and,jn_imp,jval,bor,band,bnand,bimp,and_self])
 unfold Lt.block at h
 split
 ·refine kk h ?_; grind
 ·intro hl
  refine all_loop b.Phis hl Lt.phi (b.Code.all Lt.instr) KK _ (fun R i hi ih hF=>?_) (fun R h=>?_) (kk h ?_)
  ·simp only [lt_t hi,if_true,Int.toNat_natCast]
   refine ⟨⟨Int.natCast_nonneg i,hi⟩,?_⟩
   grind
  ·simp only [lt_f,Bool.false_eq_true,if_false]
   intro hl2
   refine all_loop b.Code hl2 Lt.instr true KK _ (fun R i hi ih hF=>?_) (fun R h=>?_) (kk h ?_)
   ·simp only [lt_t hi,if_true,Int.toNat_natCast]
    refine ⟨⟨Int.natCast_nonneg i,hi⟩,?_⟩
    grind
   ·simp only [lt_f,Bool.false_eq_true,if_false]; exact h
   ·simp
  ·grind
theorem law_showFunction (f:Lt.Func) (KK:Bool->Prop) (h:KK (Lt.showFunction f)):F_showFunction f KK:=by
 unfold F_showFunction; dsimp only; (try simp only [jn_app,jn_and,jn_imp,jval,bor,band,bnand,bimp,and_self])
 have e0:=len0 f.Blocks
 unfold Lt.showFunction at h
 refine ifk (fun hc=>kk h (by grind)) (fun hA hl=>?_)
 refine drop_loopS f.Blocks hl (fun (b:{b:Nat // b<=1024}) i=>((b.1:Int),i)) (fun t b=>Lt.blocks t b.1) KK _ (fun R b i hi ih h=>?_) (fun R b h=>?_) ⟨0,by omega⟩ (kk h (by grind))
 ·obtain ⟨b,hb⟩:=b
  simp only [lt_t hi,if_true,Int.toNat_natCast]
  try dsimp +instances only [Int.toNat_natCast]
  refine ⟨⟨Int.natCast_nonneg i,hi⟩,?_⟩
  generalize f.Blocks.getD i default=x at h
  obtain ⟨bn,bp,bc,⟨k,a,t,n⟩⟩:=x
  dsimp only at h ih ⊢
  simp only [Lt.blocks] at h
  intro _
  refine ifk (fun hc=>kk h (by grind)) (fun hc _ _=>?_)
  simp only [Bool.or_eq_true,decide_eq_true_eq,not_or] at hc
  have w1:IntKind.i64.wrap ((bp.length:Int)+(bc.length:Int))=((bp.length+bc.length:Nat):Int):=by rw [wrap_small (by omega) (by omega)]; omega
  have w2:IntKind.i64.wrap ((b:Int)+((bp.length+bc.length:Nat):Int))=((b+(bp.length+bc.length):Nat):Int):=by rw [wrap_small (by omega) (by omega)]; omega
  rw [w1,w2]
  refine ifk (fun hc=>kk h (by grind)) (fun hc=>?_)
  have hle:b+(bp.length+bc.length)<=1024:=by grind
  exact ih ⟨_,hle⟩ (kk h (by grind))
 ·simp only [lt_f,Bool.false_eq_true,if_false]
  simpa only [Lt.blocks] using h
theorem law_showRight (p:Lt.Program) (KK:Bool->Prop) (h:KK (Lt.showRight p)):F_showRight p KK:=by
 unfold F_showRight; dsimp only; (try simp only [jn_app,jn_and,jn_imp,jval,bor,band,bnand,bimp,and_self])
 unfold Lt.showRight at h
 intro _
 refine ifk (fun hc=>kk h (by grind)) (fun hA hl=>?_)
 refine all_loop p.Classes hl Lt.classRight (p.Externs.all Lt.externRight&&p.Funcs.all Lt.showFunction) KK _ (fun R i hi ih hF=>?_) (fun R h=>?_) (kk h (by grind))
 ·simp only [lt_t hi,if_true,Int.toNat_natCast]
  refine ⟨⟨Int.natCast_nonneg i,hi⟩,?_⟩
  unfold Lt.classRight at ih hF
  grind
 ·simp only [lt_f,Bool.false_eq_true,if_false]
  intro hl2
  refine all_loop p.Externs hl2 Lt.externRight (p.Funcs.all Lt.showFunction) KK _ (fun R i hi ih hF=>?_) (fun R h=>?_) h
  ·simp only [lt_t hi,if_true,Int.toNat_natCast]
   refine ⟨⟨Int.natCast_nonneg i,hi⟩,?_⟩
   unfold Lt.externRight at ih hF
   grind
  ·simp only [lt_f,Bool.false_eq_true,if_false]
   intro hl3
   refine all_loop p.Funcs hl3 Lt.showFunction true KK _ (fun R i hi ih hF=>?_) (fun R h=>?_) (kk h (by simp))
   ·simp only [lt_t hi,if_true,Int.toNat_natCast]
    refine ⟨⟨Int.natCast_nonneg i,hi⟩,?_⟩
    grind
   ·simp only [lt_f,Bool.false_eq_true,if_false]; exact h
end Go.Am
end

section
namespace Go.Am
open Go
set_option linter.unusedVariables false
set_option linter.unusedSimpArgs false
theorem Of_most (op:Int):(Lt.Of op).1.Most<=8:=by
 unfold Lt.Of
 simp only [apply_ite Prod.fst,apply_ite Lt.Form.Most]
 repeat' split
 all_goals omega
theorem Of_least {op:Int} (h:op=26\/op=27):1<=(Lt.Of op).1.Least:=by
 rcases h with rfl | rfl <;> decide
structure InstrOk (i:Lt.Instr):Prop where
 args:i.Args.length<=8
 frames:i.Frames.length<=16
 objs:i.Objs.length<=99
 fr:∀ f∈i.Frames,Lt.frame f=true
 ob:∀ o∈i.Objs,Lt.virt o=true
 least:i.Op=26\/i.Op=27->1<=i.Args.length
 aok:Lt.showArgs i.Args false=true
 of:(Lt.Of i.Op).2=true
 dst:(Lt.Of i.Op).1.Dst=!decide (i.Dst=[])
 nm:(Lt.Of i.Op).1.Named=!decide (i.Name=[])
 dstN:(Lt.Of i.Op).1.Dst=true->Lt.Name i.Dst=true
 nmN:(Lt.Of i.Op).1.Named=true->Lt.Name i.Name=true
 lo:(Lt.Of i.Op).1.Least<=(i.Args.length:Int)
 hi:(i.Args.length:Int)<=(Lt.Of i.Op).1.Most
 none:i.Op≠31/\i.Op≠34->i.Frames=[]/\i.Objs=[]
theorem instr_ok {i:Lt.Instr} (h:Lt.instr i=true):InstrOk i:=by
 unfold Lt.instr at h
 simp only [Bool.and_eq_true,decide_eq_true_eq,beq_iff_eq,Bool.not_eq_true',Bool.and_eq_false_iff] at h
 obtain ⟨⟨⟨⟨⟨⟨h1,h2⟩,h3⟩,h4⟩,h5⟩,⟨⟨⟨h6,h7⟩,h8⟩,h9⟩,h10⟩,h11⟩:=h
 have hm:=Of_most i.Op
 have hfo:(∀ f∈i.Frames,Lt.frame f=true)/\(∀ o∈i.Objs,Lt.virt o=true):=by
  split at h11
  ·simp only [Bool.and_eq_true,decide_eq_true_eq] at h11
   rw [h11.1,h11.2]; simp
  ·simpa [List.all_eq_true] using h11
 refine ⟨by omega,h9,h10,hfo.1,hfo.2,fun ho=>?_,h8,h1,h2,h3,fun hd=>?_,fun hd=>?_,h6,h7,fun ho=>?_⟩
 ·have:=Of_least ho
  omega
 ·rcases h4 with h4 | h4
  ·rw [h4] at hd; cases hd
  ·simpa using h4
 ·rcases h5 with h5 | h5
  ·rw [h5] at hd; cases hd
  ·simpa using h5
 ·rw [if_pos ho] at h11
  simpa using h11
theorem frame_ok {f:Lt.Frame} (h:Lt.frame f=true):Lt.Name f.Func=true/\Lt.Name f.Block=true/\0<=f.At/\f.At<=1024/\f.Vars.length<=16/\∀ b∈f.Vars,Lt.bindRight b=true:=by
 unfold Lt.frame at h
 simp only [Bool.and_eq_true,decide_eq_true_eq,List.all_eq_true] at h
 obtain ⟨⟨⟨⟨⟨h1,h2⟩,h3⟩,h4⟩,h5⟩,h6⟩:=h
 exact ⟨h1,h2,h3,h4,h5,h6⟩
theorem virt_ok {o:Lt.Virt} (h:Lt.virt o=true):Lt.Name o.Class=true/\o.Vals.length<=8/\Lt.showArgs o.Vals true=true:=by
 unfold Lt.virt at h
 simp only [Bool.and_eq_true,decide_eq_true_eq] at h
 exact ⟨h.1.1,h.1.2,h.2⟩
theorem phi_ok {x:Lt.Phi} (h:Lt.phi x=true):Lt.Name x.Dst=true/\x.Ins≠[]/\x.Ins.length<=256/\∀ i∈x.Ins,Lt.inRight i=true:=by
 unfold Lt.phi at h
 simp only [Bool.and_eq_true,decide_eq_true_eq,Bool.not_eq_true',decide_eq_false_iff_not,List.all_eq_true] at h
 obtain ⟨⟨⟨h1,h2⟩,h3⟩,h4⟩:=h
 exact ⟨h1,h2,h3,h4⟩
theorem block_ok {b:Lt.Block} (h:Lt.block b=true):Lt.Name b.Name=true/\Lt.showEnd b.End=true/\(∀ x∈b.Phis,Lt.phi x=true)/\∀ i∈b.Code,Lt.instr i=true:=by
 unfold Lt.block at h
 simp only [Bool.and_eq_true,List.all_eq_true] at h
 exact ⟨h.1.1,h.1.2,h.2.1,h.2.2⟩
def longs (l:List Lt.Block):Nat:=(l.map fun b=>b.Phis.length+b.Code.length).sum
theorem blocks_ok:∀ (l:List Lt.Block) (n:Nat),n<=1024->Lt.blocks l n=true->n+longs l<=1024/\∀ b∈l,Lt.block b=true
 | [],n,hn,_=>⟨by simp [longs]; exact hn,by simp⟩
 | b::r,n,hn,h=>by
  simp only [Lt.blocks,Bool.and_eq_true,decide_eq_true_eq] at h
  obtain ⟨⟨h1,h2⟩,h3⟩:=h
  obtain ⟨k1,k2⟩:=blocks_ok r _ h1 h3
  refine ⟨?_,?_⟩
  ·simp only [longs,List.map_cons,List.sum_cons] at k1 ⊢; omega
  ·intro x hx
   rcases List.mem_cons.1 hx with rfl | hx
   ·exact h2
   ·exact k2 x hx
structure FuncOk (f:Lt.Func):Prop where
 name:Lt.Name f.Name=true
 res:Lt.kind f.Result=true
 params:Lt.typed f.Params 6=true
 vars:Lt.typed f.Vars 1024=true
 ne:f.Blocks≠[]
 len:f.Blocks.length<=256
 long:longs f.Blocks<=1024
 bl:∀ b∈f.Blocks,Lt.block b=true
theorem func_ok {f:Lt.Func} (h:Lt.showFunction f=true):FuncOk f:=by
 unfold Lt.showFunction at h
 simp only [Bool.and_eq_true,decide_eq_true_eq,Bool.not_eq_true',decide_eq_false_iff_not] at h
 obtain ⟨⟨⟨⟨⟨⟨h1,h2⟩,h3⟩,h4⟩,h5⟩,h6⟩,h7⟩:=h
 obtain ⟨k1,k2⟩:=blocks_ok _ 0 (by omega) h7
 exact ⟨h1,h2,h3,h4,h5,h6,by omega,k2⟩
theorem typed_len {l:List Lt.Var} {n:Int} (h:Lt.typed l n=true):(l.length:Int)<=n:=by
 unfold Lt.typed at h
 simp only [Bool.and_eq_true,decide_eq_true_eq] at h
 exact h.1
structure ProgOk (p:Lt.Program):Prop where
 nc:p.Classes.length<=8
 ne:p.Externs.length<=8
 nf:p.Funcs.length<=8
 glob:Lt.typed p.Globals 8=true
 cl:∀ c∈p.Classes,Lt.classRight c=true
 ex:∀ x∈p.Externs,Lt.externRight x=true
 fn:∀ f∈p.Funcs,Lt.showFunction f=true
theorem prog_ok {p:Lt.Program} (h:Lt.showRight p=true):ProgOk p:=by
 unfold Lt.showRight at h
 simp only [Bool.and_eq_true,decide_eq_true_eq,List.all_eq_true] at h
 obtain ⟨⟨⟨⟨h1,h2⟩,h3⟩,h4⟩,h5,h6,h7⟩:=h
 exact ⟨h1,h2,h3,h4,h5,h6,h7⟩
theorem flat2 {α:Type} (f g:α->List UInt8) (l:List α):(l.flatMap fun b=>[f b,g b]).length=2*l.length:=by
 induction l with
 | nil=>rfl
 | cons a l ih=>rw [List.flatMap_cons,List.length_append,ih]; simp; omega
theorem flat_snoc {α β:Type} [Inhabited α] (f:α->List β) (l:List α) {i:Nat} (h:i<l.length):(l.take (i+1)).flatMap f=(l.take i).flatMap f++f (l.getD i default):=by
 rw [take_snoc l h,List.flatMap_append]; simp
theorem map_snoc {α β:Type} [Inhabited α] (f:α->β) (l:List α) {i:Nat} (h:i<l.length):(l.take (i+1)).map f=(l.take i).map f++[f (l.getD i default)]:=by
 rw [take_snoc l h,List.map_append]; rfl
theorem law_sheetLine (s:Lt.Sheet) (w:List (List UInt8)) (hp:Lt.preLine s w) (KK:Unit×Lt.Sheet->Prop) (h:KK (Lt.sheetLine s w)):F_sheetLine s w KK:=by
 unfold Lt.preLine Lt.room at hp
 unfold F_sheetLine; (try simp only [jn_app,jn_and,jn_imp,jval,bor,band,bnand,bimp,and_self])
 exact ⟨⟨by simp only [List.length_cons,List.length_nil]; omega,by simp only [List.length_cons,List.length_nil]; omega⟩,h⟩
theorem law_sheetVars (s:Lt.Sheet) (first:List UInt8) (l:List Lt.Var) (hp:Lt.preVars s first l) (KK:Unit×Lt.Sheet->Prop) (h:KK (Lt.sheetVars s first l)):F_sheetVars s first l KK:=by
 unfold Lt.preVars Lt.room at hp
 unfold F_sheetVars; (try simp only [jn_app,jn_and,jn_imp,jn_const,jn_ite,jval,bor,band,bnand,bimp,and_self])
 intro hl
 refine idx_loopF l.length hl (fun i=>(⟨s.l++Lt.varsL first (l.take i)⟩:Lt.Sheet)) _ (fun R i hi ih=>?_) (fun R=>?_) (by simp [Lt.varsL])
 ·simp only [lt_t hi,if_true,Int.toNat_natCast]
  try dsimp +instances only [Int.toNat_natCast]
  refine ⟨⟨Int.natCast_nonneg i,hi⟩,?_,?_⟩
  ·unfold Lt.preLine Lt.room
   simp only [Lt.varsL,List.length_append,List.length_map,List.length_take]
   omega
  ·simp only [Lt.varsL,map_snoc _ l hi,<- List.append_assoc] at ih
   exact ih
 ·simp only [lt_f,Bool.false_eq_true,if_false]
  rw [List.take_length]
  exact h
theorem puts_len (l:List Lt.Arg):(Lt.puts l).length=l.length:=by simp [Lt.puts]
theorem getD_list {α:Type} [Inhabited α] {l:List α} {P:α->Prop} (h:∀ x∈l,P x) {i:Nat} (hi:i<l.length):P (l.getD i default):=h _ (mem_getD l hi)
theorem law_sheetCode (s:Lt.Sheet) (i:Lt.Instr) (hp:Lt.preCode s i) (KK:Unit×Lt.Sheet->Prop) (h:KK (Lt.sheetCode s i)):F_sheetCode s i KK:=by
 obtain ⟨hok,hi,hroom⟩:=hp
 unfold Lt.room at hroom
 obtain ⟨okA,okF,okO⟩:=hok
 have I:=instr_ok hi
 have a8:=I.args; have f16:=I.frames; have o99:=I.objs
 have hpl:=puts_len i.Args
 unfold F_sheetCode; dsimp only; (try simp only [jn_app,jn_and,jn_imp,jval,bor,band,bnand,bimp,and_self])
 intro J1 hJ1
 have j1:∀ x1:List (List UInt8),x1=(if (Lt.Of i.Op).1.Dst then [i.Dst,[61]] else [])->x1.length<=2->J1 x1:=by
  intro v2 e hlen
  refine hJ1 v2 ⟨⟨by simp only [List.length_cons,List.length_nil]; omega,by simp only [List.length_cons,List.length_nil]; omega⟩,⟨okA,by omega⟩,?_⟩
  intro J5 hJ5
  have j5:∀ x2 x3,x2++x3=Lt.words i->x2.length+x3.length<=100->J5 (x2,x3):=by
   intro x2 x3 e hlen
   refine hJ5 _ ⟨⟨by dsimp only; omega,by dsimp only; omega⟩,by unfold Lt.preLine Lt.room; omega,fun hl=>?_⟩
   dsimp only
   rw [e]
   refine idx_loopF i.Frames.length hl (fun k=>(⟨s.l++[Lt.ln (Lt.words i)]++(i.Frames.take k).map (fun f=>Lt.ln (Lt.frameW f))⟩:Lt.Sheet)) _ (fun R k hk ih=>?_) (fun R=>?_) (by simp [Lt.sheetLine,Lt.ln])
   ·simp only [lt_t hk,if_true,Int.toNat_natCast]
    try dsimp +instances only [Int.toNat_natCast]
    have V:=frame_ok (getD_list I.fr hk)
    refine ⟨⟨Int.natCast_nonneg k,hk⟩,?_,fun hl2=>?_⟩
    ·have:=V.2.2.1; have:=V.2.2.2.1
     exact ⟨by omega,by omega⟩
    ·have v16:=V.2.2.2.2.1
     have okf:(i.Frames.getD k default).ok:=getD_list okF hk
     refine idx_loop (i.Frames.getD k default).Vars.length hl2 (fun j=>[[97,116],(i.Frames.getD k default).Func,(i.Frames.getD k default).Block,Lt.number (i.Frames.getD k default).At]++((i.Frames.getD k default).Vars.take j).flatMap fun b=>[b.Name,Lt.wordPut b.A]) _
      (fun R2 j hj ih2=>?_) (fun R2=>?_) (by simp)
     ·simp only [lt_t hj,if_true,Int.toNat_natCast]
      try dsimp +instances only [Int.toNat_natCast]
      refine ⟨⟨Int.natCast_nonneg j,hj⟩,okf.2 _ (mem_getD _ hj),?_,?_⟩
      ·simp only [List.length_append,flat2,List.length_cons,List.length_nil,List.length_take]
       omega
      ·simp only [flat_snoc _ _ hj,<- List.append_assoc] at ih2
       exact ih2
     ·simp only [lt_f,Bool.false_eq_true,if_false]
      refine ⟨?_,?_⟩
      ·unfold Lt.preLine Lt.room
       simp only [List.length_append,List.length_map,List.length_take,List.length_cons,List.length_nil]
       omega
      ·simp only [map_snoc _ i.Frames hk,<- List.append_assoc] at ih
       rw [List.take_length]
       exact ih
   ·simp only [lt_f,Bool.false_eq_true,if_false]
    intro hl
    rw [List.take_length]
    refine idx_loopF i.Objs.length hl (fun k=>(⟨s.l++[Lt.ln (Lt.words i)]++i.Frames.map (fun f=>Lt.ln (Lt.frameW f))++(i.Objs.take k).map (fun o=>Lt.ln (Lt.virtW o))⟩:Lt.Sheet)) _ (fun R k hk ih=>?_) (fun R=>?_) (by simp)
    ·simp only [lt_t hk,if_true,Int.toNat_natCast]
     try dsimp +instances only [Int.toNat_natCast]
     have V:=virt_ok (getD_list I.ob hk)
     have hlen:(Lt.puts (i.Objs.getD k default).Vals).length<=8:=by rw [puts_len]; exact V.2.1
     refine ⟨⟨Int.natCast_nonneg k,hk⟩,⟨getD_list okO hk,by omega⟩,⟨by simp only [List.length_cons,List.length_nil]; omega,by simp only [List.length_cons,List.length_nil]; omega⟩,?_,?_⟩
     ·unfold Lt.preLine Lt.room
      simp only [List.length_append,List.length_map,List.length_take,List.length_cons,List.length_nil]
      omega
     ·simp only [map_snoc _ i.Objs hk,<- List.append_assoc] at ih
      exact ih
    ·simp only [lt_f,Bool.false_eq_true,if_false]
     rw [List.take_length]
     simp only [Lt.sheetCode,Lt.codeL,<- List.append_assoc] at h
     exact h
  refine ifk (fun hc=>?_) (fun hc=>?_)
  ·have hc':i.Op=26\/i.Op=27:=by simpa using hc
   have h1:=I.least hc'
   refine ⟨⟨Int.le_refl _,by omega⟩,?_,by omega,⟨by omega,by omega⟩,?_⟩
   ·simp only [List.length_append,List.length_cons,List.length_nil]; omega
   ·refine j5 _ _ ?_ ?_
    ·rw [Lt.words,if_pos hc',<- e,List.take_of_length_le (by simp)]
     simp
    ·simp only [List.length_append,List.length_cons,List.length_nil,List.length_take,List.length_drop]; omega
  ·have hc':¬ (i.Op=26\/i.Op=27):=by simpa using hc
   refine ifk (fun hn=>?_) (fun hn=>?_)
   ·refine ⟨?_,j5 _ _ ?_ ?_⟩
    ·simp only [List.length_append,List.length_cons,List.length_nil]; omega
    ·rw [Lt.words,if_neg hc',<- e,if_pos hn]
     simp
    ·simp only [List.length_append,List.length_cons,List.length_nil]; omega
   ·refine j5 _ _ ?_ ?_
    ·rw [Lt.words,if_neg hc',<- e,if_neg hn]
     simp
    ·simp only [List.length_append,List.length_cons,List.length_nil]; omega
 refine ifk (fun hd=>⟨by simp,j1 _ (by rw [if_pos hd]) (by simp)⟩) (fun hd=>j1 _ (by rw [if_neg hd]) (by simp))
theorem law_sheetEnd (s:Lt.Sheet) (t:Lt.Term) (hp:Lt.preEnd s t) (KK:Unit×Lt.Sheet->Prop) (h:KK (Lt.sheetEnd s t)):F_sheetEnd s t KK:=by
 obtain ⟨⟨okA,okN⟩,ht,hroom⟩:=hp
 unfold Lt.room at hroom
 have hl:∀ w,Lt.preLine s w:=fun w=>by unfold Lt.preLine Lt.room; omega
 unfold Lt.showEnd at ht
 rw [Bool.and_eq_true] at ht
 replace ht:=ht.2
 unfold Lt.sheetEnd Lt.endW at h
 unfold F_sheetEnd; dsimp only; (try simp only [jn_app,jn_and,jn_imp,jval,bor,band,bnand,bimp,and_self])
 simp only [decide_eq_true_eq]
 refine ifk (fun hc=>?_) (fun hc=>?_)
 ·rw [if_pos hc] at h ht
  simp only [Bool.and_eq_true,decide_eq_true_eq] at ht
  exact ⟨⟨Int.le_refl _,by omega⟩,hl _,h⟩
 rw [if_neg hc] at h ht
 refine ifk (fun hc=>?_) (fun hc=>?_)
 ·rw [if_pos hc] at h ht
  simp only [Bool.and_eq_true,decide_eq_true_eq] at ht
  have a:(0:Int)<=0/\0<t.To.length:=⟨Int.le_refl _,by omega⟩
  have b:(0:Int)<=1/\1<t.To.length:=⟨by omega,by omega⟩
  exact ⟨⟨okA,a,b,hl _,h⟩,⟨a,⟨okA,b,hl _,h⟩,b,okA,hl _,h⟩,b,⟨okA,a,hl _,h⟩,a,okA,hl _,h⟩
 rw [if_neg hc] at h ht
 refine ifk (fun hc=>?_) (fun hc=>?_)
 ·rw [if_pos hc] at h
  exact ⟨okA,hl _,h⟩
 ·rw [if_neg hc] at h
  exact ⟨okN,hl _,h⟩
theorem codeL_len {i:Lt.Instr} (h:Lt.instr i=true):(Lt.codeL i).length<=116:=by
 have I:=instr_ok h
 have:=I.frames; have:=I.objs
 simp only [Lt.codeL,List.length_append,List.length_map,List.length_cons,List.length_nil]
 omega
theorem flatMap_le {α β:Type} (f:α->List β) (k:Nat):∀ (l:List α),(∀ x∈l,(f x).length<=k)->(l.flatMap f).length<=k*l.length
 | [],_=>by simp
 | a::l,h=>by
  have:=flatMap_le f k l (fun x hx=>h x (List.mem_cons_of_mem _ hx))
  have:=h a (by simp)
  rw [List.flatMap_cons,List.length_append,List.length_cons,Nat.mul_add]
  omega
theorem mem_take {α:Type} {l:List α} {i:Nat} {x:α} (h:x∈l.take i):x∈l:=List.mem_of_mem_take h
theorem blockL_len {b:Lt.Block} (h:Lt.block b=true):(Lt.blockL b).length<=2+116*(b.Phis.length+b.Code.length):=by
 have B:=block_ok h
 have:=flatMap_le Lt.codeL 116 b.Code (fun x hx=>codeL_len (B.2.2.2 x hx))
 simp only [Lt.blockL,List.length_append,List.length_map,List.length_cons,List.length_nil]
 omega
theorem blocksL_len:∀ (l:List Lt.Block),(∀ b∈l,Lt.block b=true)->(l.flatMap Lt.blockL).length<=2*l.length+116*longs l
 | [],_=>by simp
 | b::l,h=>by
  have h1:=blocksL_len l (fun x hx=>h x (List.mem_cons_of_mem _ hx))
  have h2:=blockL_len (h b (by simp))
  rw [List.flatMap_cons,List.length_append,List.length_cons]
  simp only [longs,List.map_cons,List.sum_cons] at h1 ⊢
  omega
theorem longs_take (l:List Lt.Block) (i:Nat):longs (l.take i)<=longs l:=by
 have:longs l=longs (l.take i)+longs (l.drop i):=by
  unfold longs
  rw [<- List.sum_append,<- List.map_append,List.take_append_drop]
 omega
theorem longs_get (l:List Lt.Block) {i:Nat} (h:i<l.length):longs (l.take i)+((l.getD i default).Phis.length+(l.getD i default).Code.length)<=longs l:=by
 have:=longs_take l (i+1)
 rw [take_snoc l h] at this
 unfold longs at this ⊢
 rw [List.map_append,List.sum_append] at this
 simp only [List.map_cons,List.map_nil,List.sum_cons,List.sum_nil] at this
 omega
theorem funcL_len {f:Lt.Func} (h:Lt.showFunction f=true):(Lt.funcL f).length<=130000:=by
 have F:=func_ok h
 have h1:=typed_len F.params; have h2:=typed_len F.vars
 have h3:=blocksL_len f.Blocks F.bl
 have:=F.len; have:=F.long
 simp only [Lt.funcL,Lt.varsL,List.length_append,List.length_map,List.length_cons,List.length_nil]
 omega
theorem law_sheetFunction (s:Lt.Sheet) (f:Lt.Func) (hp:Lt.preFunction s f) (KK:Unit×Lt.Sheet->Prop) (h:KK (Lt.sheetFunction s f)):F_sheetFunction s f KK:=by
 obtain ⟨hok,hf,hroom⟩:=hp
 unfold Lt.room at hroom
 have F:=func_ok hf
 have p6:=typed_len F.params; have v1024:=typed_len F.vars
 have hbl:=F.len; have hlong:=F.long
 unfold F_sheetFunction; dsimp only; (try simp only [jn_app,jn_and,jn_imp,jval,bor,band,bnand,bimp,and_self])
 refine ⟨?_,?_,?_,fun hl=>?_⟩
 ·unfold Lt.preLine Lt.room; omega
 ·unfold Lt.preVars Lt.room
  simp only [Lt.sheetLine,List.length_append,List.length_cons,List.length_nil]
  omega
 ·unfold Lt.preVars Lt.room
  simp only [Lt.sheetLine,Lt.sheetVars,Lt.varsL,List.length_append,List.length_cons,List.length_nil,List.length_map]
  omega
 ·generalize hx0:(Lt.sheetVars (Lt.sheetVars (Lt.sheetLine s [[102,117,110,99],f.Name,f.Result]).2 [112,97,114,97,109] f.Params).2 [118,97,114] f.Vars).2=x0
  obtain ⟨x0⟩:=x0
  have hx0l:x0.length<=s.l.length+1031:=by
   have:=congrArg (fun x=>x.l.length) hx0
   simp only [Lt.sheetLine,Lt.sheetVars,Lt.varsL,List.length_append,List.length_cons,List.length_nil,List.length_map] at this
   omega
  have h':KK ((),⟨x0++f.Blocks.flatMap Lt.blockL⟩):=by
   have e:x0=_:=(congrArg Lt.Sheet.l hx0).symm
   rw [e]
   simp only [Lt.sheetFunction,Lt.funcL,Lt.sheetVars,Lt.sheetLine,List.append_assoc] at h ⊢
   exact h
  refine idx_loopF f.Blocks.length hl (fun k=>(⟨x0++(f.Blocks.take k).flatMap Lt.blockL⟩:Lt.Sheet)) _ (fun R k hk ih=>?_) (fun R=>?_) (by simp)
  ·simp only [lt_t hk,if_true,Int.toNat_natCast]
   try dsimp +instances only [Int.toNat_natCast]
   generalize hb:f.Blocks.getD k default=b
   have B:=block_ok (getD_list F.bl hk)
   have hpre:=blocksL_len (f.Blocks.take k) (fun x hx=>F.bl x (mem_take hx))
   have hget:=longs_get f.Blocks hk
   have okb:=getD_list hok hk
   rw [hb] at B hget okb
   have hlk:(f.Blocks.take k).length<=256:=by rw [List.length_take]; omega
   generalize hX:(f.Blocks.take k).flatMap Lt.blockL=X at hpre
   simp only [flat_snoc Lt.blockL f.Blocks hk,hX,hb] at ih
   have hXl:X.length+116*(b.Phis.length+b.Code.length)<=119296:=by omega
   refine ⟨⟨Int.natCast_nonneg k,hk⟩,?_,fun hl2=>?_⟩
   ·unfold Lt.preLine Lt.room
    simp only [List.length_append]
    omega
   ·refine idx_loopF b.Phis.length hl2 (fun j=>(⟨x0++X++[Lt.ln [[98,108,111,99,107],b.Name]]++(b.Phis.take j).map (fun x=>Lt.ln (Lt.phiW x))⟩:Lt.Sheet)) _ (fun R2 j hj ih2=>?_) (fun R2=>?_) (by simp [Lt.sheetLine])
    ·simp only [lt_t hj,if_true,Int.toNat_natCast]
     try dsimp +instances only [Int.toNat_natCast]
     refine ⟨⟨Int.natCast_nonneg j,hj⟩,fun hl3=>?_⟩
     generalize hp:b.Phis.getD j default=x at *
     have P:=phi_ok (getD_list B.2.2.1 hj)
     have okx:=getD_list okb.1 hj
     rw [hp] at P okx
     have p256:=P.2.2.1
     refine idx_loop x.Ins.length hl3 (fun i=>[[112,104,105],x.Dst]++(x.Ins.take i).flatMap fun i=>[i.Block,Lt.wordPut i.A]) _ (fun R3 i hi ih3=>?_) (fun R3=>?_) (by simp)
     ·simp only [lt_t hi,if_true,Int.toNat_natCast]
      try dsimp +instances only [Int.toNat_natCast]
      refine ⟨⟨Int.natCast_nonneg i,hi⟩,okx.2 _ (mem_getD _ hi),?_,?_⟩
      ·simp only [List.length_append,flat2,List.length_cons,List.length_nil,List.length_take]
       omega
      ·simp only [flat_snoc _ _ hi,<- List.append_assoc] at ih3
       exact ih3
     ·simp only [lt_f,Bool.false_eq_true,if_false]
      refine ⟨?_,?_⟩
      ·unfold Lt.preLine Lt.room
       simp only [List.length_append,List.length_map,List.length_take,List.length_cons,List.length_nil]
       omega
      ·simp only [map_snoc _ b.Phis hj,<- List.append_assoc,hp] at ih2
       rw [List.take_length]
       exact ih2
    ·simp only [lt_f,Bool.false_eq_true,if_false]
     rw [List.take_length]
     intro hl4
     refine idx_loopF b.Code.length hl4 (fun j=>(⟨x0++X++[Lt.ln [[98,108,111,99,107],b.Name]]++b.Phis.map (fun x=>Lt.ln (Lt.phiW x))++(b.Code.take j).flatMap Lt.codeL⟩:Lt.Sheet)) _ (fun R3 j hj ih2=>?_) (fun R3=>?_) (by simp)
     ·simp only [lt_t hj,if_true,Int.toNat_natCast]
      try dsimp +instances only [Int.toNat_natCast]
      have hc:=flatMap_le Lt.codeL 116 (b.Code.take j) (fun x hx=>codeL_len (B.2.2.2 x (mem_take hx)))
      have hcl:(b.Code.take j).length<=b.Code.length:=by rw [List.length_take]; omega
      have hmul:116*(b.Code.take j).length<=116*b.Code.length:=Nat.mul_le_mul_left _ hcl
      refine ⟨⟨Int.natCast_nonneg j,hj⟩,⟨getD_list okb.2.1 hj,getD_list B.2.2.2 hj,?_⟩,?_⟩
      ·unfold Lt.room
       simp only [List.length_append,List.length_map,List.length_cons,List.length_nil]
       omega
      ·simp only [flat_snoc _ _ hj,<- List.append_assoc] at ih2
       exact ih2
     ·simp only [lt_f,Bool.false_eq_true,if_false]
      rw [List.take_length]
      have hc:=flatMap_le Lt.codeL 116 b.Code (fun x hx=>codeL_len (B.2.2.2 x hx))
      refine ⟨⟨okb.2.2,B.2.1,?_⟩,?_⟩
      ·unfold Lt.room
       simp only [List.length_append,List.length_map,List.length_cons,List.length_nil]
       omega
      ·simp only [Lt.blockL,<- List.append_assoc] at ih
       exact ih
  ·simp only [lt_f,Bool.false_eq_true,if_false]
   rw [List.take_length]
   exact h'
end Go.Am
end

section
namespace Go.Am
open Go
set_option linter.unusedVariables false
set_option linter.unusedSimpArgs false
def small (w:List UInt8):Prop:=w.length<=100
instance (w:List UInt8):Decidable (small w):=inferInstanceAs (Decidable (w.length<=100))
def lineOk (x:Lt.Line):Prop:=x.Words.length<=600/\∀ w∈x.Words,small w
theorem jw_le:∀ (ws:List (List UInt8)) (b:Bool),(∀ w∈ws,small w)->(Lt.jw b ws).length<=101*ws.length
 | [],_,_=>by simp [Lt.jw]
 | w::r,b,h=>by
  have h1:=jw_le r true (fun x hx=>h x (List.mem_cons_of_mem _ hx))
  have h2:w.length<=100:=h w (by simp)
  rw [Lt.jw]
  simp only [List.length_append,List.length_cons]
  split <;> simp only [List.length_cons,List.length_nil] <;> omega
theorem joinB_small:∀ (l:List Lt.Line),(∀ x∈l,lineOk x)->(Lt.joinB l).length<=60601*l.length
 | [],_=>by simp [Lt.joinB]
 | x::l,h=>by
  have h1:=joinB_small l (fun y hy=>h y (List.mem_cons_of_mem _ hy))
  obtain ⟨h2,h3⟩:=h x (by simp)
  have h4:=jw_le x.Words false h3
  have:101*x.Words.length<=101*600:=Nat.mul_le_mul_left _ h2
  rw [Lt.joinB,List.flatMap_cons]
  rw [Lt.joinB] at h1
  simp only [List.length_append,List.length_cons,List.length_nil]
  omega
theorem Name_len {s:List UInt8} (h:Lt.Name s=true):s.length<=16:=by
 unfold Lt.Name at h
 simp only [Bool.and_eq_true,decide_eq_true_eq] at h
 exact h.1.1.1.2
theorem Name_small {s:List UInt8} (h:Lt.Name s=true):small s:=by have:=Name_len h; unfold small; omega
theorem kind_small {s:List UInt8} (h:Lt.kind s=true):small s:=by
 unfold Lt.kind at h
 simp only [Bool.or_eq_true,decide_eq_true_eq] at h
 rcases h with (rfl | rfl) | h
 ·decide
 ·decide
 ·exact Name_small h
theorem nthG_len (l:List UInt8):∀ (k:Nat) (n:Int) (f i:Nat),(Lt.nthG l k n f i).length<=l.length
 | 0,_,_,_=>by simp [Lt.nthG]
 | k+1,n,f,i=>by
  rw [Lt.nthG]
  split
  ·split
   ·split
    ·simp; omega
    ·exact nthG_len l k _ _ _
   ·exact nthG_len l k _ _ _
  ·simp
theorem ite_le {c:Prop} [Decidable c] {a b k:Nat} (h1:a<=k) (h2:b<=k):(if c then a else b)<=k:=by split <;> assumption
theorem Of_small (op:Int):small (Lt.Of op).1.Word:=by
 have h1:(Lt.nth Lt.two op).length<=100:=Nat.le_trans (nthG_len _ _ _ _ _) (by decide)
 have h2:(Lt.nth [32,105,116,111,102,32,102,116,111,105,32,109,111,118,32] (IntKind.i64.wrap (op - 21))).length<=100:=Nat.le_trans (nthG_len _ _ _ _ _) (by decide)
 unfold small Lt.Of
 simp only [apply_ite Prod.fst,apply_ite Lt.Form.Word,apply_ite List.length,List.length_cons,List.length_nil]
 refine ite_le h1 (ite_le h2 ?_)
 repeat refine ite_le (by omega) ?_
 omega
theorem wordRight_cases {a:Lt.Arg} (h:Lt.wordRight a=true):(a.Kind=1/\Lt.Name a.S=true/\a.N=0)\/(a.Kind=2/\a.S=[])\/(a.Kind=3/\a.S=[]/\Lt.Plain a.N=a.N)\/(a.Kind=4/\a.S=[]/\a.N=0)\/(a.Kind=5/\a.S=[]/\0<=a.N/\a.N<=999):=by
 unfold Lt.wordRight at h
 split at h
 ·rename_i h1; simp only [Bool.and_eq_true,decide_eq_true_eq] at h; exact .inl ⟨h1,h⟩
 ·split at h
  ·rename_i h1; simp only [Bool.and_eq_true,decide_eq_true_eq] at h; exact .inr (.inl ⟨h1,h⟩)
  ·split at h
   ·rename_i h1; simp only [Bool.and_eq_true,decide_eq_true_eq] at h; exact .inr (.inr (.inl ⟨h1,h⟩))
   ·split at h
    ·rename_i h1; simp only [Bool.and_eq_true,decide_eq_true_eq] at h; exact .inr (.inr (.inr (.inl ⟨h1,h⟩)))
    ·split at h
     ·rename_i h1; simp only [Bool.and_eq_true,decide_eq_true_eq] at h; exact .inr (.inr (.inr (.inr ⟨h1,h.1.1,h.1.2,h.2⟩)))
     ·cases h
theorem wordPut_small {a:Lt.Arg} (h:a.ok):small (Lt.wordPut a):=by
 have hn:=numPut_len h
 have hf:=floPut_len a.N
 unfold small Lt.wordPut
 split
 ·rename_i hr
  split
  ·omega
  ·split
   ·omega
   ·split
    ·decide
    ·split
     ·simp only [List.length_cons]; omega
     ·rcases wordRight_cases hr with h | h | h | h | h
      ·have:=Name_len h.2.1; omega
      ·exact absurd h.1 (by assumption)
      ·exact absurd h.1 (by assumption)
      ·exact absurd h.1 (by assumption)
      ·exact absurd h.1 (by assumption)
 ·decide
theorem puts_small {l:List Lt.Arg} (h:Lt.argsOk l):∀ w∈Lt.puts l,small w:=by
 intro w hw
 obtain ⟨a,ha,rfl⟩:=List.mem_map.1 hw
 exact wordPut_small (h a ha)
theorem varsL_ok (first:List UInt8) (hf:small first) {l:List Lt.Var} {n:Int} (h:Lt.typed l n=true):∀ x∈Lt.varsL first l,lineOk x:=by
 intro x hx
 obtain ⟨v,hv,rfl⟩:=List.mem_map.1 hx
 unfold Lt.typed at h
 simp only [Bool.and_eq_true,List.all_eq_true] at h
 have:=h.2 v hv
 refine ⟨by simp [Lt.ln],fun w hw=>?_⟩
 simp only [Lt.ln,List.mem_cons,List.not_mem_nil,or_false] at hw
 rcases hw with rfl | rfl | rfl
 ·exact hf
 ·exact Name_small this.1
 ·exact kind_small this.2
theorem number_small {n:Int} (h:Lt.inR n):small (Lt.number n):=by have:=numPut_len h; unfold small Lt.number; omega
theorem codeL_ok {i:Lt.Instr} (h:Lt.instr i=true) (hok:i.ok):∀ x∈Lt.codeL i,lineOk x:=by
 have I:=instr_ok h
 obtain ⟨okA,okF,okO⟩:=hok
 have a8:=I.args
 intro x hx
 simp only [Lt.codeL,List.mem_append,List.mem_singleton,List.mem_map] at hx
 rcases hx with (rfl | ⟨f,hf,rfl⟩) | ⟨o,ho,rfl⟩
 ·refine ⟨?_,fun w hw=>?_⟩
  ·simp only [Lt.ln,Lt.words,List.length_append]
   split <;> split <;> (try split) <;> simp only [List.length_cons,List.length_nil,List.length_append,List.length_drop,puts_len] <;> omega
  ·have hp:=puts_small okA
   simp only [Lt.ln,Lt.words,List.mem_append] at hw
   rcases hw with (hw | hw) | hw
   ·split at hw
    ·rename_i hd
     simp only [List.mem_cons,List.not_mem_nil,or_false] at hw
     rcases hw with rfl | rfl
     ·exact Name_small (I.dstN hd)
     ·decide
    ·cases hw
   ·simp only [List.mem_singleton] at hw
    subst hw
    exact Of_small _
   ·split at hw
    ·rename_i hc
     have h1:=I.least hc
     simp only [List.mem_cons] at hw
     rcases hw with rfl | rfl | hw
     ·exact hp _ (mem_getD _ (by rw [puts_len]; omega))
     ·have:(Lt.Of i.Op).1.Named=true:=by rcases hc with e | e <;> rw [e] <;> decide
      exact Name_small (I.nmN this)
     ·exact hp _ (List.mem_of_mem_drop hw)
    ·simp only [List.mem_append] at hw
     rcases hw with hw | hw
     ·split at hw
      ·rename_i hd
       simp only [List.mem_singleton] at hw
       subst hw
       exact Name_small (I.nmN hd)
      ·cases hw
     ·exact hp _ hw
 ·have V:=frame_ok (I.fr f hf)
  refine ⟨?_,fun w hw=>?_⟩
  ·have:=V.2.2.2.2.1
   simp only [Lt.ln,Lt.frameW,List.length_append,flat2,List.length_cons,List.length_nil]
   omega
  ·simp only [Lt.ln,Lt.frameW,List.mem_append,List.mem_cons,List.not_mem_nil,or_false,List.mem_flatMap] at hw
   rcases hw with (rfl | rfl | rfl | rfl) | ⟨b,hb,rfl | rfl⟩
   ·decide
   ·exact Name_small V.1
   ·exact Name_small V.2.1
   ·have:=V.2.2.1; have:=V.2.2.2.1
    exact number_small ⟨by omega,by omega⟩
   ·have:=V.2.2.2.2.2 b hb
    unfold Lt.bindRight at this
    rw [Bool.and_eq_true] at this
    exact Name_small this.1
   ·exact wordPut_small ((okF f hf).2 b hb)
 ·have V:=virt_ok (I.ob o ho)
  refine ⟨?_,fun w hw=>?_⟩
  ·simp only [Lt.ln,Lt.virtW,List.length_append,puts_len,List.length_cons,List.length_nil]
   omega
  ·simp only [Lt.ln,Lt.virtW,List.mem_append,List.mem_cons,List.not_mem_nil,or_false] at hw
   rcases hw with (rfl | rfl) | hw
   ·decide
   ·exact Name_small V.1
   ·exact puts_small (okO o ho) _ hw
theorem endW_ok {t:Lt.Term} (h:Lt.showEnd t=true) (hok:t.ok):lineOk (Lt.ln (Lt.endW t)):=by
 unfold Lt.showEnd at h
 rw [Bool.and_eq_true,List.all_eq_true] at h
 obtain ⟨h1,h2⟩:=h
 refine ⟨?_,fun w hw=>?_⟩
 ·simp only [Lt.ln,Lt.endW]
  repeat' split
  all_goals simp
 ·simp only [Lt.ln,Lt.endW] at hw
  split at hw
  ·rename_i hc
   rw [if_pos hc] at h2
   simp only [Bool.and_eq_true,decide_eq_true_eq] at h2
   simp only [List.mem_cons,List.not_mem_nil,or_false] at hw
   rcases hw with rfl | rfl
   ·decide
   ·exact Name_small (h1 _ (mem_getD _ (by omega)))
  ·rename_i hc
   rw [if_neg hc] at h2
   split at hw
   ·rename_i hc
    rw [if_pos hc] at h2
    simp only [Bool.and_eq_true,decide_eq_true_eq] at h2
    simp only [List.mem_cons,List.not_mem_nil,or_false] at hw
    rcases hw with rfl | rfl | rfl | rfl
    ·decide
    ·exact wordPut_small hok.1
    ·exact Name_small (h1 _ (mem_getD _ (by omega)))
    ·exact Name_small (h1 _ (mem_getD _ (by omega)))
   ·split at hw
    ·simp only [List.mem_cons,List.not_mem_nil,or_false] at hw
     rcases hw with rfl | rfl
     ·decide
     ·exact wordPut_small hok.1
    ·simp only [List.mem_cons,List.not_mem_nil,or_false] at hw
     rcases hw with rfl | rfl
     ·decide
     ·exact number_small hok.2
theorem blockL_ok {b:Lt.Block} (h:Lt.block b=true) (hok:b.ok):∀ x∈Lt.blockL b,lineOk x:=by
 have B:=block_ok h
 intro x hx
 simp only [Lt.blockL,List.mem_append,List.mem_singleton,List.mem_map,List.mem_flatMap] at hx
 rcases hx with ((rfl | ⟨y,hy,rfl⟩) | ⟨i,hi,hx⟩) | rfl
 ·refine ⟨by simp [Lt.ln],fun w hw=>?_⟩
  simp only [Lt.ln,List.mem_cons,List.not_mem_nil,or_false] at hw
  rcases hw with rfl | rfl
  ·decide
  ·exact Name_small B.1
 ·have P:=phi_ok (B.2.2.1 y hy)
  refine ⟨?_,fun w hw=>?_⟩
  ·have:=P.2.2.1
   simp only [Lt.ln,Lt.phiW,List.length_append,flat2,List.length_cons,List.length_nil]
   omega
  ·simp only [Lt.ln,Lt.phiW,List.mem_append,List.mem_cons,List.not_mem_nil,or_false,List.mem_flatMap] at hw
   rcases hw with (rfl | rfl) | ⟨b',hb,rfl | rfl⟩
   ·decide
   ·exact Name_small P.1
   ·have:=P.2.2.2 b' hb
    unfold Lt.inRight at this
    rw [Bool.and_eq_true] at this
    exact Name_small this.1
   ·exact wordPut_small ((hok.1 y hy).2 b' hb)
 ·exact codeL_ok (B.2.2.2 i hi) (hok.2.1 i hi) x hx
 ·exact endW_ok B.2.1 hok.2.2
theorem funcL_ok {f:Lt.Func} (h:Lt.showFunction f=true) (hok:f.ok):∀ x∈Lt.funcL f,lineOk x:=by
 have F:=func_ok h
 intro x hx
 simp only [Lt.funcL,List.mem_append,List.mem_singleton,List.mem_flatMap] at hx
 rcases hx with ((rfl | hx) | hx) | ⟨b,hb,hx⟩
 ·refine ⟨by simp [Lt.ln],fun w hw=>?_⟩
  simp only [Lt.ln,List.mem_cons,List.not_mem_nil,or_false] at hw
  rcases hw with rfl | rfl | rfl
  ·decide
  ·exact Name_small F.name
  ·exact kind_small F.res
 ·exact varsL_ok _ (by decide) F.params x hx
 ·exact varsL_ok _ (by decide) F.vars x hx
 ·exact blockL_ok (F.bl b hb) (hok b hb) x hx
theorem progL_ok {p:Lt.Program} (h:Lt.showRight p=true) (hok:p.ok):∀ x∈Lt.progL p,lineOk x:=by
 have P:=prog_ok h
 intro x hx
 simp only [Lt.progL,List.mem_append,List.mem_flatMap,List.mem_map] at hx
 rcases hx with (((hx | ⟨c,hc,hx⟩) | hx) | ⟨e,he,rfl⟩) | ⟨f,hf,hx⟩
 ·split at hx
  ·simp only [List.mem_singleton] at hx
   subst hx
   refine ⟨by simp [Lt.ln],fun w hw=>?_⟩
   simp only [Lt.ln,List.mem_singleton] at hw
   subst hw
   decide
  ·cases hx
 ·have C:=P.cl c hc
  unfold Lt.classRight at C
  rw [Bool.and_eq_true] at C
  simp only [Lt.classL,List.mem_append,List.mem_singleton] at hx
  rcases hx with rfl | hx
  ·refine ⟨by simp [Lt.ln],fun w hw=>?_⟩
   simp only [Lt.ln,List.mem_cons,List.not_mem_nil,or_false] at hw
   rcases hw with rfl | rfl
   ·decide
   ·exact Name_small C.1
  ·exact varsL_ok _ (by decide) C.2 x hx
 ·exact varsL_ok _ (by decide) P.glob x hx
 ·have E:=P.ex e he
  unfold Lt.externRight at E
  simp only [Bool.and_eq_true,decide_eq_true_eq] at E
  refine ⟨by simp [Lt.ln,Lt.externL],fun w hw=>?_⟩
  simp only [Lt.ln,Lt.externL,List.mem_cons,List.not_mem_nil,or_false] at hw
  rcases hw with rfl | rfl | rfl
  ·decide
  ·exact Name_small E.1.1
  ·exact number_small ⟨by omega,by omega⟩
 ·exact funcL_ok (P.fn f hf) (hok f hf) x hx
theorem classL_len {c:Lt.Class} (h:Lt.classRight c=true):(Lt.classL c).length<=9:=by
 unfold Lt.classRight at h
 rw [Bool.and_eq_true] at h
 have:=typed_len h.2
 simp only [Lt.classL,Lt.varsL,List.length_append,List.length_map,List.length_cons,List.length_nil]
 omega
theorem progL_len {p:Lt.Program} (h:Lt.showRight p=true):(Lt.progL p).length<=1050000:=by
 have P:=prog_ok h
 have h1:=flatMap_le Lt.classL 9 p.Classes (fun c hc=>classL_len (P.cl c hc))
 have h2:=flatMap_le Lt.funcL 130000 p.Funcs (fun f hf=>funcL_len (P.fn f hf))
 have h3:=typed_len P.glob
 have:=P.nc; have:=P.ne; have:=P.nf
 have h4:(if p.SSA=true then [Lt.ln [[115,115,97]]] else []).length<=1:=by split <;> simp
 simp only [Lt.progL,Lt.varsL,List.length_append,List.length_map]
 omega
theorem law_showText (p:Lt.Program) (hp:Lt.preText p) (KK:List UInt8×Int->Prop) (h:KK (Lt.showText p)):F_showText p KK:=by
 unfold Lt.preText at hp
 unfold F_showText; dsimp only; (try simp only [jn_app,jn_and,jn_imp,jval,bor,band,bnand,bimp,and_self])
 unfold Lt.showText at h
 refine ifk (fun hc=>kk h (by grind)) (fun hr=>?_)
 replace hr:Lt.showRight p=true:=by simpa using hr
 have P:=prog_ok hr
 have hnc:=P.nc; have hne:=P.ne; have hnf:=P.nf
 have hglob:=typed_len P.glob
 rw [hr,if_pos rfl] at h
 have hjb:(Lt.joinB (Lt.progL p)).length<=140737488355328:=by
  have h1:=joinB_small _ (progL_ok hr hp)
  have h2:=progL_len hr
  omega
 intro J hJ
 have j1:∀ x:List Lt.Line,x=(if p.SSA=true then [Lt.ln [[115,115,97]]] else [])->J ⟨x⟩:=by
  intro x hx
  refine hJ _ (fun hl=>?_)
  have hxl:x.length<=1:=by rw [hx]; split <;> simp
  refine idx_loopF p.Classes.length hl (fun i=>(⟨x++(p.Classes.take i).flatMap Lt.classL⟩:Lt.Sheet)) _ (fun R i hi ih=>?_) (fun R=>?_) (by simp)
  ·simp only [lt_t hi,if_true,Int.toNat_natCast]
   try dsimp +instances only [Int.toNat_natCast]
   have C:=getD_list P.cl hi
   have hC:=C
   unfold Lt.classRight at C
   rw [Bool.and_eq_true] at C
   have hcl:=flatMap_le Lt.classL 9 (p.Classes.take i) (fun c hc=>classL_len (P.cl c (mem_take hc)))
   have hct:(p.Classes.take i).length<=8:=by rw [List.length_take]; omega
   have htl:=typed_len C.2
   refine ⟨⟨Int.natCast_nonneg i,hi⟩,?_,?_,?_⟩
   ·unfold Lt.preLine Lt.room
    simp only [List.length_append]; omega
   ·unfold Lt.preVars Lt.room
    simp only [Lt.sheetLine,List.length_append,List.length_cons,List.length_nil]; omega
   ·simp only [flat_snoc _ _ hi,<- List.append_assoc,Lt.classL] at ih
    exact ih
  ·simp only [lt_f,Bool.false_eq_true,if_false]
   rw [List.take_length]
   have hcl:=flatMap_le Lt.classL 9 p.Classes (fun c hc=>classL_len (P.cl c hc))
   refine ⟨?_,fun hl2=>?_⟩
   ·unfold Lt.preVars Lt.room
    simp only [List.length_append]; omega
   ·generalize hy:(Lt.sheetVars ⟨x++p.Classes.flatMap Lt.classL⟩ [103,108,111,98,97,108] p.Globals).2=y
    obtain ⟨y⟩:=y
    have hy':=congrArg Lt.Sheet.l hy
    have hyl:y.length<=100:=by
     rw [show y=_ from hy'.symm]
     simp only [Lt.sheetVars,Lt.varsL,List.length_append,List.length_map]
     omega
    refine idx_loopF p.Externs.length hl2 (fun i=>(⟨y++(p.Externs.take i).map Lt.externL⟩:Lt.Sheet)) _ (fun R i hi ih=>?_) (fun R=>?_) (by simp)
    ·simp only [lt_t hi,if_true,Int.toNat_natCast]
     try dsimp +instances only [Int.toNat_natCast]
     have E:=getD_list P.ex hi
     unfold Lt.externRight at E
     simp only [Bool.and_eq_true,decide_eq_true_eq] at E
     refine ⟨⟨Int.natCast_nonneg i,hi⟩,⟨by omega,by omega⟩,?_,?_⟩
     ·unfold Lt.preLine Lt.room
      simp only [List.length_append,List.length_map,List.length_take]; omega
     ·simp only [map_snoc _ _ hi,<- List.append_assoc] at ih
      exact ih
    ·simp only [lt_f,Bool.false_eq_true,if_false]
     rw [List.take_length]
     intro hl3
     refine idx_loopF p.Funcs.length hl3 (fun i=>(⟨y++p.Externs.map Lt.externL++(p.Funcs.take i).flatMap Lt.funcL⟩:Lt.Sheet)) _ (fun R i hi ih=>?_) (fun R=>?_) (by simp)
     ·simp only [lt_t hi,if_true,Int.toNat_natCast]
      try dsimp +instances only [Int.toNat_natCast]
      have hcl:=flatMap_le Lt.funcL 130000 (p.Funcs.take i) (fun f hf=>funcL_len (P.fn f (mem_take hf)))
      have hct:(p.Funcs.take i).length<=8:=by rw [List.length_take]; omega
      refine ⟨⟨Int.natCast_nonneg i,hi⟩,⟨getD_list hp hi,getD_list P.fn hi,?_⟩,?_⟩
      ·unfold Lt.room
       simp only [List.length_append,List.length_map]; omega
      ·simp only [flat_snoc _ _ hi,<- List.append_assoc] at ih
       exact ih
     ·simp only [lt_f,Bool.false_eq_true,if_false]
      rw [List.take_length]
      have e:y++p.Externs.map Lt.externL++p.Funcs.flatMap Lt.funcL=Lt.progL p:=by
       rw [show y=_ from hy'.symm,Lt.progL,<- hx]; rfl
      rw [e]
      refine ⟨hjb,fun _=>kk h ?_⟩
      unfold Lt.Join
      grind
 exact ifk (fun hs=>⟨by unfold Lt.preLine Lt.room; simp,j1 _ (by rw [if_pos hs]; rfl)⟩) (fun hs=>j1 _ (by rw [if_neg hs]))
end Go.Am
end

section
namespace Go.Am
open Go
set_option linter.unusedVariables false
set_option linter.unusedSimpArgs false
theorem same_loop {α:Type} [Inhabited α] [DecidableEq α] (a b:List α) (hl:a.length<=LEN) (hlen:a.length=b.length) (rest:Bool) (KK:Bool->Prop) (body:(Int->Prop)->Int->Prop)
  (hs:∀ R i,i<a.length->(a.getD i default=b.getD i default->R (IntKind.i64.wrap ((i:Int)+1)))->(a.getD i default≠b.getD i default->KK false)->body R (i:Int))
  (he:∀ R,KK rest->body R (a.length:Int)) (h:KK (decide (a=b)&&rest)):loopP body 0:=by
 refine nat_loop body a.length (fun i x=>x=(i:Int)/\KK (decide (a.drop i=b.drop i)&&rest)) (fun R i x hi hx ih=>?_) (fun R x hx=>?_) _ ⟨rfl,by simpa using h⟩
 ·obtain ⟨rfl,h⟩:=hx
  have hb:i<b.length:=by omega
  rw [List.drop_eq_getElem_cons hi,List.drop_eq_getElem_cons hb] at h
  have ea:a.getD i default=a[i]:=by rw [List.getD,List.getElem?_eq_getElem hi]; rfl
  have eb:b.getD i default=b[i]:=by rw [List.getD,List.getElem?_eq_getElem hb]; rfl
  refine hs _ i hi (fun e=>?_) (fun e=>?_)
  ·refine ih _ ⟨wrap_succ (by unfold LEN at hl; omega),?_⟩
   rw [ea,eb] at e
   simp only [e,List.cons.injEq,true_and] at h
   exact h
  ·rw [ea,eb] at e
   simp only [List.cons.injEq,e,false_and,decide_false,Bool.false_and] at h
   exact h
 ·obtain ⟨rfl,h⟩:=hx
  rw [List.drop_length,hlen,List.drop_length] at h
  exact he _ (by simpa using h)
theorem same_loopX {α:Type} [Inhabited α] [DecidableEq α] (a b:List α) (hlen:a.length=b.length) (rest:Bool) (KK:Bool->Prop) (body:(Int->Prop)->Int->Prop)
  (hs:∀ R i,a.length<=LEN->i<a.length->(a.getD i default=b.getD i default->R (IntKind.i64.wrap ((i:Int)+1)))->(a.getD i default≠b.getD i default->KK false)->body R (i:Int))
  (he:∀ R,KK rest->body R (a.length:Int)) (h:KK (decide (a=b)&&rest)):loopP (fun R v=>a.length<=4611686018427387904->body R v) 0:=by
 by_cases hl:a.length<=LEN
 ·exact same_loop a b hl hlen rest KK _ (fun R i hi h1 h2 _=>hs R i hl hi h1 h2) (fun R h _=>he R h) h
 ·exact ⟨1,fun h=>absurd h hl⟩
theorem eq_var (x y:Lt.Var):(decide (x.Name=y.Name)&&decide (x.Type_=y.Type_))=decide (x=y):=by
 obtain ⟨a,b⟩:=x; obtain ⟨c,d⟩:=y
 by_cases h1:a=c <;> by_cases h2:b=d <;> simp [h1,h2]
theorem eq_arg (x y:Lt.Arg):(decide (x.Kind=y.Kind)&&(decide (x.S=y.S)&&decide (x.N=y.N)))=decide (x=y):=by
 obtain ⟨a,b,c⟩:=x; obtain ⟨d,e,f⟩:=y
 by_cases h1:a=d <;> by_cases h2:b=e <;> by_cases h3:c=f <;> simp [h1,h2,h3]
theorem eq_bind (x y:Lt.Bind):(decide (x.Name=y.Name)&&(decide (x.A.Kind=y.A.Kind)&&(decide (x.A.S=y.A.S)&&decide (x.A.N=y.A.N))))=decide (x=y):=by
 rw [eq_arg]
 obtain ⟨a,b⟩:=x; obtain ⟨c,d⟩:=y
 by_cases h1:a=c <;> by_cases h2:b=d <;> simp [h1,h2]
theorem eq_in (x y:Lt.In):(decide (x.Block=y.Block)&&(decide (x.A.Kind=y.A.Kind)&&(decide (x.A.S=y.A.S)&&decide (x.A.N=y.A.N))))=decide (x=y):=by
 rw [eq_arg]
 obtain ⟨a,b⟩:=x; obtain ⟨c,d⟩:=y
 by_cases h1:a=c <;> by_cases h2:b=d <;> simp [h1,h2]
theorem eq_extern (x y:Lt.Extern):(decide (x.Name=y.Name)&&decide (x.N=y.N))=decide (x=y):=by
 obtain ⟨a,b⟩:=x; obtain ⟨c,d⟩:=y
 by_cases h1:a=c <;> by_cases h2:b=d <;> simp [h1,h2]
theorem ob2 {α β:Type} {a:List α} {b:List β} {i:Nat} (h:i<a.length) (e:a.length=b.length):(0:Int)<=(i:Int)/\i<b.length:=⟨Int.natCast_nonneg i,by omega⟩
theorem law_sameVars (a b:List Lt.Var) (KK:Bool->Prop) (h:KK (Lt.sameVars a b)):F_sameVars a b KK:=by
 unfold F_sameVars; (try simp only [jn_app,jn_and,jn_imp,jval,bor,band,bnand,bimp,and_self])
 intro _ _
 unfold Lt.sameVars at h
 refine ifk (fun hc=>kk h (by grind)) (fun hc=>?_)
 have hlen:a.length=b.length:=by grind
 refine same_loopX a b hlen true KK _ (fun R i hl hi ih hF=>?_) (fun R h=>?_) (kk h (by simp))
 ·simp only [lt_t hi,if_true,Int.toNat_natCast]
  try dsimp +instances only [Int.toNat_natCast]
  refine ⟨⟨Int.natCast_nonneg i,hi⟩,ob2 hi hlen,?_⟩
  rw [eq_var]
  grind
 ·simp only [lt_f,Bool.false_eq_true,if_false]; exact h
theorem law_sameArgs (a b:List Lt.Arg) (KK:Bool->Prop) (h:KK (Lt.sameArgs a b)):F_sameArgs a b KK:=by
 unfold F_sameArgs; (try simp only [jn_app,jn_and,jn_imp,jval,bor,band,bnand,bimp,and_self])
 intro _ _
 unfold Lt.sameArgs at h
 refine ifk (fun hc=>kk h (by grind)) (fun hc=>?_)
 have hlen:a.length=b.length:=by grind
 refine same_loopX a b hlen true KK _ (fun R i hl hi ih hF=>?_) (fun R h=>?_) (kk h (by simp))
 ·simp only [lt_t hi,if_true,Int.toNat_natCast]
  try dsimp +instances only [Int.toNat_natCast]
  refine ⟨⟨Int.natCast_nonneg i,hi⟩,ob2 hi hlen,?_⟩
  rw [eq_arg]
  grind
 ·simp only [lt_f,Bool.false_eq_true,if_false]; exact h
theorem law_SameInstr (a b:Lt.Instr) (KK:Bool->Prop) (h:KK (Lt.SameInstr a b)):F_SameInstr a b KK:=by
 unfold F_SameInstr; dsimp only; (try simp only [jn_app,jn_and,jn_imp,jval,bor,band,bnand,bimp,and_self])
 unfold Lt.SameInstr at h
 unfold Lt.sameArgs
 refine ifk (fun hc=>kk h (by grind)) (fun hc=>?_)
 simp only [Bool.or_eq_true,Bool.not_eq_true',decide_eq_false_iff_not,not_or,Bool.not_eq_false,decide_eq_true_eq,Classical.not_not] at hc
 obtain ⟨h1,h2,h3,h4,h5,h6⟩:=hc
 have e:decide (a=b)=(decide (a.Frames=b.Frames)&&(decide (a.Objs=b.Objs)&&true)):=by
  obtain ⟨a1,a2,a3,a4,a5,a6⟩:=a; obtain ⟨b1,b2,b3,b4,b5,b6⟩:=b
  dsimp only at h1 h2 h3 h4
  subst h1; subst h2; subst h3; subst h4
  by_cases g1:a5=b5 <;> by_cases g2:a6=b6 <;> simp [g1,g2]
 rw [e] at h
 have hlF:a.Frames.length=b.Frames.length:=by omega
 have hlO:a.Objs.length=b.Objs.length:=by omega
 refine same_loopX a.Frames b.Frames hlF _ KK _ (fun R i hl hi ih hF=>?_) (fun R h=>?_) h
 ·simp only [lt_t hi,if_true,Int.toNat_natCast]
  try dsimp +instances only [Int.toNat_natCast]
  refine ⟨⟨Int.natCast_nonneg i,hi⟩,ob2 hi hlF,?_⟩
  generalize a.Frames.getD i default=x at ih hF ⊢
  generalize b.Frames.getD i default=y at ih hF ⊢
  refine ifk (fun hc=>hF (by grind)) (fun hc=>?_)
  have hlV:x.Vars.length=y.Vars.length:=by grind
  refine same_loopX x.Vars y.Vars hlV true (fun b=>if b=true then R (IntKind.i64.wrap ((i:Int)+1)) else KK false) _ (fun R2 j hl hj ih2 hF2=>?_) (fun R2 h=>?_) ?_
  ·simp only [lt_t hj,if_true,Int.toNat_natCast]
   try dsimp +instances only [Int.toNat_natCast]
   refine ⟨⟨Int.natCast_nonneg j,hj⟩,ob2 hj hlV,?_⟩
   rw [eq_bind]
   simp only [Bool.false_eq_true,if_false] at hF2
   grind
  ·simp only [lt_f,Bool.false_eq_true,if_false]; simpa using h
  ·refine ifk (fun hv=>ih ?_) (fun hv=>hF ?_)
   ·obtain ⟨x1,x2,x3,x4⟩:=x; obtain ⟨y1,y2,y3,y4⟩:=y; grind
   ·grind
 ·simp only [lt_f,Bool.false_eq_true,if_false]
  refine same_loopX a.Objs b.Objs hlO _ KK _ (fun R i hl hi ih hF=>?_) (fun R h=>?_) h
  ·simp only [lt_t hi,if_true,Int.toNat_natCast]
   try dsimp +instances only [Int.toNat_natCast]
   refine ⟨⟨Int.natCast_nonneg i,hi⟩,ob2 hi hlO,?_⟩
   have o1:(0:Int)<=(i:Int)/\i<a.Objs.length:=⟨Int.natCast_nonneg i,hi⟩
   have o2:=ob2 hi hlO
   simp only [o1,o2,and_self,true_and]; (try simp only [jn_app,jn_and,jn_imp,jval,bor,band,bnand,bimp,and_self])
   generalize a.Objs.getD i default=x at ih hF ⊢
   generalize b.Objs.getD i default=y at ih hF ⊢
   obtain ⟨x1,x2⟩:=x; obtain ⟨y1,y2⟩:=y
   grind
  ·simp only [lt_f,Bool.false_eq_true,if_false]; exact h
theorem law_sameBlock (a b:Lt.Block) (KK:Bool->Prop) (h:KK (Lt.sameBlock a b)):F_sameBlock a b KK:=by
 unfold F_sameBlock; dsimp only; (try simp only [jn_app,jn_and,jn_imp,jval,bor,band,bnand,bimp,and_self])
 unfold Lt.sameBlock at h
 rw [eq_arg]
 refine ifk (fun hc=>kk h (by grind)) (fun hc=>?_)
 simp only [Bool.or_eq_true,Bool.not_eq_true',decide_eq_false_iff_not,not_or,Bool.not_eq_false,decide_eq_true_eq,Classical.not_not] at hc
 obtain ⟨h1,h2,h3,h4,h5,h6,h7⟩:=hc
 have e:decide (a=b)=(decide (a.End.To=b.End.To)&&(decide (a.Phis=b.Phis)&&(decide (a.Code=b.Code)&&true))):=by
  obtain ⟨a1,a2,a3,⟨a4,a5,a6,a7⟩⟩:=a; obtain ⟨b1,b2,b3,⟨b4,b5,b6,b7⟩⟩:=b
  dsimp only at h1 h4 h5 h6
  subst h1; subst h4; subst h5; subst h6
  by_cases g1:a2=b2 <;> by_cases g2:a3=b3 <;> by_cases g3:a6=b6 <;> simp [g1,g2,g3]
 rw [e] at h
 have hlT:a.End.To.length=b.End.To.length:=by omega
 have hlP:a.Phis.length=b.Phis.length:=by omega
 have hlC:a.Code.length=b.Code.length:=by omega
 refine same_loopX a.End.To b.End.To hlT _ KK _ (fun R i hl hi ih hF=>?_) (fun R h=>?_) h
 ·simp only [lt_t hi,if_true,Int.toNat_natCast]
  try dsimp +instances only [Int.toNat_natCast]
  refine ⟨⟨Int.natCast_nonneg i,hi⟩,ob2 hi hlT,?_⟩
  grind
 ·simp only [lt_f,Bool.false_eq_true,if_false]
  refine same_loopX a.Phis b.Phis hlP _ KK _ (fun R i hl hi ih hF=>?_) (fun R h=>?_) h
  ·simp only [lt_t hi,if_true,Int.toNat_natCast]
   try dsimp +instances only [Int.toNat_natCast]
   have o1:(0:Int)<=(i:Int)/\i<a.Phis.length:=⟨Int.natCast_nonneg i,hi⟩
   have o2:=ob2 hi hlP
   simp only [o1,o2,and_self,true_and]; (try simp only [jn_app,jn_and,jn_imp,jval,bor,band,bnand,bimp,and_self])
   generalize a.Phis.getD i default=x at ih hF ⊢
   generalize b.Phis.getD i default=y at ih hF ⊢
   obtain ⟨x1,x2⟩:=x; obtain ⟨y1,y2⟩:=y
   dsimp only
   refine ifk (fun hc=>hF (by grind)) (fun hc=>?_)
   have hlV:x2.length=y2.length:=by grind
   refine same_loopX x2 y2 hlV true (fun b=>if b=true then R (IntKind.i64.wrap ((i:Int)+1)) else KK false) _ (fun R2 j hl hj ih2 hF2=>?_) (fun R2 h=>?_) ?_
   ·simp only [lt_t hj,if_true,Int.toNat_natCast]
    try dsimp +instances only [Int.toNat_natCast]
    have p1:(0:Int)<=(j:Int)/\j<x2.length:=⟨Int.natCast_nonneg j,hj⟩
    have p2:=ob2 hj hlV
    simp only [p1,p2,and_self,true_and]
    rw [eq_in]
    simp only [Bool.false_eq_true,if_false] at hF2
    grind
   ·simp only [lt_f,Bool.false_eq_true,if_false]; simpa using h
   ·exact ifk (fun hv=>ih (by grind)) (fun hv=>hF (by grind))
  ·simp only [lt_f,Bool.false_eq_true,if_false]
   refine same_loopX a.Code b.Code hlC _ KK _ (fun R i hl hi ih hF=>?_) (fun R h=>?_) h
   ·simp only [lt_t hi,if_true,Int.toNat_natCast]
    try dsimp +instances only [Int.toNat_natCast]
    refine ⟨⟨Int.natCast_nonneg i,hi⟩,ob2 hi hlC,?_⟩
    unfold Lt.SameInstr
    grind
   ·simp only [lt_f,Bool.false_eq_true,if_false]; exact h
theorem law_SameFunc (a b:Lt.Func) (KK:Bool->Prop) (h:KK (Lt.SameFunc a b)):F_SameFunc a b KK:=by
 unfold F_SameFunc; dsimp only; (try simp only [jn_app,jn_and,jn_imp,jval,bor,band,bnand,bimp,and_self])
 unfold Lt.SameFunc at h
 unfold Lt.sameVars
 refine ifk (fun hc=>kk h (by grind)) (fun hc=>?_)
 simp only [Bool.or_eq_true,Bool.not_eq_true',decide_eq_false_iff_not,not_or,Bool.not_eq_false,decide_eq_true_eq,Classical.not_not] at hc
 obtain ⟨h1,h2,h3,h4,h5⟩:=hc
 have e:decide (a=b)=(decide (a.Blocks=b.Blocks)&&true):=by
  obtain ⟨a1,a2,a3,a4,a5⟩:=a; obtain ⟨b1,b2,b3,b4,b5⟩:=b
  dsimp only at h1 h2 h3 h4
  subst h1; subst h2; subst h3; subst h4
  by_cases g1:a5=b5 <;> simp [g1]
 rw [e] at h
 have hlB:a.Blocks.length=b.Blocks.length:=by omega
 refine same_loopX a.Blocks b.Blocks hlB _ KK _ (fun R i hl hi ih hF=>?_) (fun R h=>?_) h
 ·simp only [lt_t hi,if_true,Int.toNat_natCast]
  try dsimp +instances only [Int.toNat_natCast]
  refine ⟨⟨Int.natCast_nonneg i,hi⟩,ob2 hi hlB,?_⟩
  generalize a.Blocks.getD i default=x at ih hF ⊢
  generalize b.Blocks.getD i default=y at ih hF ⊢
  obtain ⟨x1,x2,x3,⟨x4,x5,x6,x7⟩⟩:=x; obtain ⟨y1,y2,y3,⟨y4,y5,y6,y7⟩⟩:=y
  unfold Lt.sameBlock
  dsimp only
  grind
 ·simp only [lt_f,Bool.false_eq_true,if_false]; exact h
theorem law_Same (a b:Lt.Program) (KK:Bool->Prop) (h:KK (Lt.Same a b)):F_Same a b KK:=by
 unfold F_Same; (try simp only [jn_app,jn_and,jn_imp,jval,bor,band,bnand,bimp,and_self])
 unfold Lt.Same at h
 unfold Lt.sameVars Lt.SameFunc
 refine ifk (fun hc=>kk h (by grind)) (fun hc=>?_)
 simp only [Bool.or_eq_true,Bool.not_eq_true',decide_eq_false_iff_not,not_or,Bool.not_eq_false,decide_eq_true_eq,Classical.not_not,beq_iff_eq] at hc
 obtain ⟨h1,h2,h3,h4,h5⟩:=hc
 have e:decide (a=b)=(decide (a.Classes=b.Classes)&&(decide (a.Externs=b.Externs)&&(decide (a.Funcs=b.Funcs)&&true))):=by
  obtain ⟨a1,a2,a3,a4,a5⟩:=a; obtain ⟨b1,b2,b3,b4,b5⟩:=b
  dsimp only at h1 h3
  subst h1; subst h3
  by_cases g1:a2=b2 <;> by_cases g2:a4=b4 <;> by_cases g3:a5=b5 <;> simp [g1,g2,g3]
 rw [e] at h
 have hlC:a.Classes.length=b.Classes.length:=by omega
 have hlE:a.Externs.length=b.Externs.length:=by omega
 have hlF:a.Funcs.length=b.Funcs.length:=by omega
 refine same_loopX a.Classes b.Classes hlC _ KK _ (fun R i hl hi ih hF=>?_) (fun R h=>?_) h
 ·simp only [lt_t hi,if_true,Int.toNat_natCast]
  try dsimp +instances only [Int.toNat_natCast]
  have o1:(0:Int)<=(i:Int)/\i<a.Classes.length:=⟨Int.natCast_nonneg i,hi⟩
  have o2:=ob2 hi hlC
  simp only [o1,o2,and_self,true_and]; (try simp only [jn_app,jn_and,jn_imp,jval,bor,band,bnand,bimp,and_self])
  generalize a.Classes.getD i default=x at ih hF ⊢
  generalize b.Classes.getD i default=y at ih hF ⊢
  obtain ⟨x1,x2⟩:=x; obtain ⟨y1,y2⟩:=y
  grind
 ·simp only [lt_f,Bool.false_eq_true,if_false]
  refine same_loopX a.Externs b.Externs hlE _ KK _ (fun R i hl hi ih hF=>?_) (fun R h=>?_) h
  ·simp only [lt_t hi,if_true,Int.toNat_natCast]
   try dsimp +instances only [Int.toNat_natCast]
   refine ⟨⟨Int.natCast_nonneg i,hi⟩,ob2 hi hlE,?_⟩
   rw [eq_extern]
   grind
  ·simp only [lt_f,Bool.false_eq_true,if_false]
   refine same_loopX a.Funcs b.Funcs hlF _ KK _ (fun R i hl hi ih hF=>?_) (fun R h=>?_) h
   ·simp only [lt_t hi,if_true,Int.toNat_natCast]
    try dsimp +instances only [Int.toNat_natCast]
    refine ⟨⟨Int.natCast_nonneg i,hi⟩,ob2 hi hlF,?_⟩
    grind
   ·simp only [lt_f,Bool.false_eq_true,if_false]; exact h
end Go.Am
end

section
namespace Go.Am
open Go
set_option linter.unusedVariables false
set_option linter.unusedSimpArgs false
theorem cnt_loop {α:Type} [Inhabited α] (l:List α) (most:Int) (go:List α->Int->Int) (h0:∀ b,go [] b=b) (h1:∀ x r b,¬ b<=most->go (x::r) b=b) (KK:Int->Prop) (A B:(Int×Int->Prop)->Int×Int->Prop)
  (hs:∀ R b i,l.length<=LEN->i<l.length->b<=most->(∀ b',KK (go (l.drop (i+1)) b')->R (b',IntKind.i64.wrap ((i:Int)+1)))->KK (go (l.getD i default::l.drop (i+1)) b)->A R (b,(i:Int)))
  (he:∀ R b i,KK b->B R (b,i)) (b:Int) (h:KK (go l b)):loopP (fun R v=>l.length<=4611686018427387904->if (decide (v.2 < (l.length:Int))&&decide (v.1<=most))=true then A R v else B R v) (b,0):=by
 by_cases hl:l.length<=LEN
 ·refine drop_loop l hl go KK _ (fun R b i hi ih h _=>?_) (fun R b h _=>?_) b h
  ·by_cases hb:b<=most
   ·rw [if_pos (by simp only [lt_t hi,hb,decide_true,Bool.and_self])]
    exact hs R b i hl hi hb ih h
   ·rw [if_neg (by simp [hb])]
    rw [h1 _ _ _ hb] at h
    exact he R b i h
  ·rw [if_neg (by simp)]
   rw [h0] at h
   exact he R b _ h
 ·exact ⟨1,fun h=>absurd h hl⟩
theorem law_countVars (l:List Lt.Var) (most:Int) (KK:Int->Prop) (h:KK (Lt.countVars l most)):F_countVars l most KK:=by
 unfold F_countVars; (try simp only [jn_app,jn_and,jn_imp,jn_const,jn_ite,jval,bor,band,bnand,bimp,and_self])
 unfold Lt.countVars at h
 intro _
 refine ifk (fun hc=>kk h (by grind)) (fun hc _=>?_)
 refine cnt_loop l most (Lt.cVars most) (fun _=>rfl) (fun x r b hb=>by simp [Lt.cVars,hb]) KK _ _ (fun R b i hl hi hb ih h=>?_) (fun R b i h=>h) _ (kk h (by grind))
 simp only [Int.toNat_natCast]
 try dsimp +instances only [Int.toNat_natCast]
 refine ⟨⟨Int.natCast_nonneg i,hi⟩,fun _=>?_⟩
 simp only [Lt.cVars,Lt.plus,hb,if_true] at h
 have o:=ob hi
 grind
theorem law_countArgs (l:List Lt.Arg) (most:Int) (KK:Int->Prop) (h:KK (Lt.countArgs l most)):F_countArgs l most KK:=by
 unfold F_countArgs; (try simp only [jn_app,jn_and,jn_imp,jn_const,jn_ite,jval,bor,band,bnand,bimp,and_self])
 unfold Lt.countArgs at h
 intro _
 refine ifk (fun hc=>kk h (by grind)) (fun hc _=>?_)
 refine cnt_loop l most (Lt.cArgs most) (fun _=>rfl) (fun x r b hb=>by simp [Lt.cArgs,hb]) KK _ _ (fun R b i hl hi hb ih h=>?_) (fun R b i h=>h) _ (kk h (by grind))
 simp only [Int.toNat_natCast]
 try dsimp +instances only [Int.toNat_natCast]
 refine ⟨⟨Int.natCast_nonneg i,hi⟩,fun _=>?_⟩
 simp only [Lt.cArgs,Lt.plus,hb,if_true] at h
 exact ih _ h
theorem law_countInstr (x:Lt.Instr) (most:Int) (hp:Lt.preCI x most) (KK:Int->Prop) (h:KK (Lt.countInstr x most)):F_countInstr x most KK:=by
 obtain ⟨⟨_,okF,_⟩,hm⟩:=hp
 unfold F_countInstr; dsimp only; (try simp only [jn_app,jn_and,jn_imp,jval,bor,band,bnand,bimp,and_self])
 unfold Lt.countInstr at h
 intro _
 refine ifk (fun hc=>kk h (by grind)) (fun hc _ _ _=>?_)
 rw [if_neg hc] at h
 intro J hJ
 have hj:J (Lt.upto most (Lt.plus (Lt.plus (Lt.plus 1 x.Dst.length) x.Frames.length) x.Objs.length) (x.Name.length:Int)):=by
  refine hJ _ ?_
  dsimp only
  refine cnt_loop x.Frames most (Lt.cFrames most) (fun _=>rfl) (fun x r b hb=>by simp [Lt.cFrames,hb]) (fun n=>KK (Lt.cObjs most x.Objs n)) _ _ (fun R b i hl hi hb ih h=>?_) (fun R b i h=>?_) _ (kk h (by unfold Lt.upto; grind))
  ·simp only [Int.toNat_natCast]
   try dsimp +instances only [Int.toNat_natCast]
   have o:(0:Int)<=(i:Int)/\i<x.Frames.length:=⟨Int.natCast_nonneg i,hi⟩
   simp only [o,and_self,true_and]
   intro _
   simp only [Lt.cFrames,Lt.plus,hb,if_true] at h
   have okf:=getD_list okF hi
   generalize x.Frames.getD i default=f at h okf ⊢
   intro J2 hJ2
   have hj2:J2 (if IntKind.i64.wrap (b+(f.Func.length:Int))<=most then IntKind.i64.wrap (IntKind.i64.wrap (b+(f.Func.length:Int))+(f.Block.length:Int)) else IntKind.i64.wrap (b+(f.Func.length:Int))):=by
    refine hJ2 _ ?_
    refine cnt_loop f.Vars most (Lt.cBinds most) (fun _=>rfl) (fun x r b hb=>by simp [Lt.cBinds,hb]) (fun n=>KK (Lt.cObjs most x.Objs (Lt.cFrames most (x.Frames.drop (i+1)) n))) _ _ (fun R2 b2 j hl2 hj hb2 ih2 h=>?_) (fun R2 b2 j h=>?_) _ (kk h (by grind))
    ·simp only [Int.toNat_natCast]
     try dsimp +instances only [Int.toNat_natCast]
     have o2:(0:Int)<=(j:Int)/\j<f.Vars.length:=⟨Int.natCast_nonneg j,hj⟩
     simp only [o2,and_self,true_and]; (try simp only [jn_app,jn_and,jn_imp,jn_const,jn_ite,jval,bor,band,bnand,bimp,and_self])
     intro _
     simp only [Lt.cBinds,Lt.plus,hb2,if_true] at h
     grind
    ·exact ih _ h
   grind
  ·refine cnt_loop x.Objs most (Lt.cObjs most) (fun _=>rfl) (fun x r b hb=>by simp [Lt.cObjs,hb]) KK _ _ (fun R b i hl hi hb ih h=>?_) (fun R b i h=>h) _ h
   simp only [Int.toNat_natCast]
   try dsimp +instances only [Int.toNat_natCast]
   have o:(0:Int)<=(i:Int)/\i<x.Objs.length:=⟨Int.natCast_nonneg i,hi⟩
   simp only [o,and_self,true_and]; (try simp only [jn_app,jn_and,jn_imp,jn_const,jn_ite,jval,bor,band,bnand,bimp,and_self])
   intro _
   simp only [Lt.cObjs,Lt.plus,hb,if_true] at h
   grind
 unfold Lt.upto Lt.plus at hj
 grind
theorem law_countBlock (b:Lt.Block) (most:Int) (hp:Lt.preCB b most) (KK:Int->Prop) (h:KK (Lt.countBlock b most)):F_countBlock b most KK:=by
 obtain ⟨⟨okP,okC,okE⟩,hm⟩:=hp
 unfold F_countBlock; dsimp only; (try simp only [jn_app,jn_and,jn_imp,jval,bor,band,bnand,bimp,and_self])
 unfold Lt.countBlock at h
 intro _
 refine ifk (fun hc=>kk h (by grind)) (fun hc _=>?_)
 rw [if_neg (by simpa only [Bool.or_assoc] using hc)] at h
 intro J hJ
 have hj:J (Lt.upto most (Lt.plus 1 b.Name.length) (b.End.A.S.length:Int)):=by
  refine hJ _ ?_
  refine cnt_loop b.End.To most (Lt.cTo most) (fun _=>rfl) (fun x r b hb=>by simp [Lt.cTo,hb]) (fun n=>KK (Lt.cCode most b.Code (Lt.cPhis most b.Phis n))) _ _ (fun R n i hl hi hb ih h=>?_) (fun R n i h=>?_) _ h
  ·simp only [Int.toNat_natCast]
   try dsimp +instances only [Int.toNat_natCast]
   refine ⟨⟨Int.natCast_nonneg i,hi⟩,fun _=>?_⟩
   simp only [Lt.cTo,Lt.plus,hb,if_true] at h
   exact ih _ h
  ·refine cnt_loop b.Phis most (Lt.cPhis most) (fun _=>rfl) (fun x r b hb=>by simp [Lt.cPhis,hb]) (fun n=>KK (Lt.cCode most b.Code n)) _ _ (fun R n i hl hi hb ih h=>?_) (fun R n i h=>?_) _ h
   ·simp only [Int.toNat_natCast]
    try dsimp +instances only [Int.toNat_natCast]
    have o:(0:Int)<=(i:Int)/\i<b.Phis.length:=⟨Int.natCast_nonneg i,hi⟩
    simp only [o,and_self,true_and]
    intro _
    simp only [Lt.cPhis,Lt.plus,hb,if_true] at h
    generalize b.Phis.getD i default=x at h ⊢
    refine cnt_loop x.Ins most (Lt.cIns most) (fun _=>rfl) (fun x r b hb=>by simp [Lt.cIns,hb]) (fun n=>KK (Lt.cCode most b.Code (Lt.cPhis most (b.Phis.drop (i+1)) n))) _ _ (fun R2 b2 j hl2 hj hb2 ih2 h=>?_) (fun R2 b2 j h=>?_) _ h
    ·simp only [Int.toNat_natCast]
     try dsimp +instances only [Int.toNat_natCast]
     have o2:(0:Int)<=(j:Int)/\j<x.Ins.length:=⟨Int.natCast_nonneg j,hj⟩
     simp only [o2,and_self,true_and]; (try simp only [jn_app,jn_and,jn_imp,jn_const,jn_ite,jval,bor,band,bnand,bimp,and_self])
     intro _
     simp only [Lt.cIns,Lt.plus,hb2,if_true] at h
     grind
    ·exact ih _ h
   ·refine cnt_loop b.Code most (Lt.cCode most) (fun _=>rfl) (fun x r b hb=>by simp [Lt.cCode,hb]) KK _ _ (fun R n i hl hi hb ih h=>?_) (fun R n i h=>h) _ h
    simp only [Int.toNat_natCast]
    try dsimp +instances only [Int.toNat_natCast]
    refine ⟨⟨Int.natCast_nonneg i,hi⟩,⟨getD_list okC hi,hm⟩,?_⟩
    simp only [Lt.cCode,hb,if_true] at h
    exact ih _ h
 unfold Lt.upto Lt.plus at hj
 grind
theorem law_FewFunc (f:Lt.Func) (most:Int) (hp:Lt.preFF f most) (KK:Int->Prop) (h:KK (Lt.FewFunc f most)):F_FewFunc f most KK:=by
 obtain ⟨okB,hm⟩:=hp
 unfold F_FewFunc; dsimp only; (try simp only [jn_app,jn_and,jn_imp,jval,bor,band,bnand,bimp,and_self])
 unfold Lt.FewFunc at h
 intro _
 refine ifk (fun hc=>kk h (by grind)) (fun hc _=>?_)
 rw [if_neg (by simpa using hc)] at h
 intro J hJ
 have hj:J (Lt.upto most (Lt.plus 1 f.Name.length) (f.Result.length:Int)):=by
  refine hJ _ ?_
  refine cnt_loop f.Blocks most (Lt.cBlocks most) (fun _=>rfl) (fun x r b hb=>by simp [Lt.cBlocks,hb]) KK _ _ (fun R n i hl hi hb ih h=>?_) (fun R n i h=>h) _ (kk h (by unfold Lt.upto; grind))
  simp only [Int.toNat_natCast]
  try dsimp +instances only [Int.toNat_natCast]
  refine ⟨⟨Int.natCast_nonneg i,hi⟩,⟨getD_list okB hi,hm⟩,?_⟩
  simp only [Lt.cBlocks,hb,if_true] at h
  exact ih _ h
 unfold Lt.upto Lt.plus at hj
 grind
theorem law_Few (p:Lt.Program) (most:Int) (hp:Lt.preFew p most) (KK:Bool->Prop) (h:KK (Lt.Few p most)):F_Few p most KK:=by
 obtain ⟨okF,hm⟩:=hp
 unfold F_Few; dsimp only; (try simp only [jn_app,jn_and,jn_imp,jn_const,jn_ite,jval,bor,band,bnand,bimp,and_self])
 unfold Lt.Few at h
 intro _
 refine ifk (fun hc=>kk h (by grind)) (fun hc=>?_)
 rw [if_neg (by simpa only [Bool.or_assoc] using hc)] at h
 refine cnt_loop p.Classes most (Lt.cClasses most) (fun _=>rfl) (fun x r b hb=>by simp [Lt.cClasses,hb]) (fun n=>KK (decide (Lt.cFuncs most p.Funcs (Lt.cExterns most p.Externs n)<=most))) _ _ (fun R n i hl hi hb ih h=>?_) (fun R n i h=>?_) _ h
 ·simp only [Int.toNat_natCast]
  try dsimp +instances only [Int.toNat_natCast]
  have o:(0:Int)<=(i:Int)/\i<p.Classes.length:=⟨Int.natCast_nonneg i,hi⟩
  simp only [o,and_self,true_and]
  intro _
  simp only [Lt.cClasses,Lt.plus,hb,if_true] at h
  grind
 ·refine cnt_loop p.Externs most (Lt.cExterns most) (fun _=>rfl) (fun x r b hb=>by simp [Lt.cExterns,hb]) (fun n=>KK (decide (Lt.cFuncs most p.Funcs n<=most))) _ _ (fun R n i hl hi hb ih h=>?_) (fun R n i h=>?_) _ h
  ·simp only [Int.toNat_natCast]
   try dsimp +instances only [Int.toNat_natCast]
   refine ⟨⟨Int.natCast_nonneg i,hi⟩,fun _=>?_⟩
   simp only [Lt.cExterns,Lt.plus,hb,if_true] at h
   exact ih _ h
  ·refine cnt_loop p.Funcs most (Lt.cFuncs most) (fun _=>rfl) (fun x r b hb=>by simp [Lt.cFuncs,hb]) (fun n=>KK (decide (n<=most))) _ _ (fun R n i hl hi hb ih h=>?_) (fun R n i h=>h) _ h
   simp only [Int.toNat_natCast]
   try dsimp +instances only [Int.toNat_natCast]
   refine ⟨⟨Int.natCast_nonneg i,hi⟩,⟨getD_list okF hi,hm⟩,?_⟩
   simp only [Lt.cFuncs,hb,if_true] at h
   exact ih _ h
end Go.Am
end

section
namespace Go.Am
open Go
set_option linter.unusedVariables false
set_option linter.unusedSimpArgs false
theorem text5:Lt.showText (Lt.example6 (Lt.Term.mk 3 (Lt.Arg.mk 2 [] 5) [] 0))=([102,117,110,99,32,102,32,105,110,116,10,98,108,111,99,107,32,98,10,114,101,116,32,53,10],0):=by
 have hr:Lt.showRight (Lt.example6 (Lt.Term.mk 3 (Lt.Arg.mk 2 [] 5) [] 0))=true:=by decide
 have h5:Lt.numPut 5=[53]:=by
  unfold Lt.numPut
  rw [digs_small (by decide)]
  rfl
 have hw:Lt.wordPut (Lt.Arg.mk 2 [] 5)=[53]:=by
  have:Lt.wordRight (Lt.Arg.mk 2 [] 5)=true:=by decide
  rw [Lt.wordPut,if_pos this,if_pos rfl]
  exact h5
 have hj:Lt.joinB (Lt.progL (Lt.example6 (Lt.Term.mk 3 (Lt.Arg.mk 2 [] 5) [] 0)))=[102,117,110,99,32,102,32,105,110,116,10,98,108,111,99,107,32,98,10,114,101,116,32,53,10]:=by
  have he:Lt.endW (Lt.Term.mk 3 (Lt.Arg.mk 2 [] 5) [] 0)=[[114,101,116],[53]]:=by
   rw [Lt.endW,if_neg (by decide),if_neg (by decide),if_pos rfl,hw]
  simp only [Lt.progL,Lt.example6,Lt.funcL,Lt.blockL,Lt.varsL,he,List.map_nil,List.flatMap_nil,List.flatMap_cons,List.append_nil,List.nil_append,List.cons_append,List.map_cons]
  decide
 rw [Lt.showText,if_pos hr,hj]
 rfl
theorem text0:Lt.showText (Lt.example6 (Lt.Term.mk 0 (Lt.Arg.mk 0 [] 0) [] 0))=([],1):=by
 have hr:Lt.showRight (Lt.example6 (Lt.Term.mk 0 (Lt.Arg.mk 0 [] 0) [] 0))=false:=by decide
 rw [Lt.showText,hr]
 rfl
theorem ok_example {t:Lt.Term} (h:t.ok):(Lt.example6 t).ok:=by
 intro f hf
 simp only [Lt.example6,List.mem_singleton] at hf
 subst hf
 intro b hb
 simp only [List.mem_singleton] at hb
 subst hb
 exact ⟨by simp,by simp,h⟩
theorem law_awake (KK:Bool->Prop) (h:KK Lt.awake):F_awake KK:=by
 unfold F_awake; (try simp only [jn_app,jn_and,jn_imp,jval,bor,band,bnand,bimp,and_self])
 rw [text5,text0]
 exact ⟨ok_example ⟨⟨by decide,by decide⟩,by decide,by decide⟩,ok_example ⟨⟨by decide,by decide⟩,by decide,by decide⟩,h⟩
theorem app_loop {α β:Type} [Inhabited α] (l:List α) (g:α->List β) (out:List β) (body:(List β×Int->Prop)->List β×Int->Prop)
  (hs:∀ R i b,l.length<=LEN->i<l.length->b=out++(l.take i).flatMap g->R (b++g (l.getD i default),IntKind.i64.wrap ((i:Int)+1))->body R (b,(i:Int)))
  (he:∀ R,l.length<=LEN->body R (out++l.flatMap g,(l.length:Int))):loopP (fun R v=>l.length<=4611686018427387904->body R v) (out,0):=by
 by_cases hl:l.length<=LEN
 ·refine idx_loop l.length hl (fun i=>out++(l.take i).flatMap g) _ (fun R i hi ih _=>?_) (fun R _=>?_) (by simp)
  ·refine hs R i _ hl hi rfl ?_
   rw [flat_snoc g l hi,<- List.append_assoc] at ih
   exact ih
  ·have:=he R hl
   rw [List.take_length]
   exact this
 ·exact ⟨1,fun h=>absurd h hl⟩
theorem flat_le {α β:Type} [Inhabited α] (g:α->List β) (l:List α) {i:Nat} (h:i<l.length):((l.take i).flatMap g).length+(g (l.getD i default)).length<=(l.flatMap g).length:=by
 have e:l.flatMap g=(l.take (i+1)).flatMap g++(l.drop (i+1)).flatMap g:=by rw [<- List.flatMap_append,List.take_append_drop]
 rw [e,flat_snoc g l h]
 simp only [List.length_append]
 omega
theorem jw_ge:∀ (ws:List (List UInt8)),ws.length<=(Lt.jw true ws).length
 | []=>by simp
 | w::r=>by
  have:=jw_ge r
  rw [Lt.jw]
  simp only [List.length_append,List.length_cons,List.length_nil,if_true]
  omega
theorem lnT_ge (ws:List (List UInt8)):ws.length<=(Lt.lnT ws).length:=by
 unfold Lt.lnT
 cases ws with
 | nil=>simp
 | cons w r=>
  have:=jw_ge r
  rw [Lt.jw]
  simp only [List.length_append,List.length_cons,List.length_nil]
  omega
theorem law_rPut (out:List UInt8) (l:List (List UInt8)) (hp:Lt.preRPut out l) (KK:List UInt8->Prop) (h:KK (Lt.rPut out l)):F_rPut out l KK:=by
 unfold F_rPut; (try simp only [jn_app,jn_and,jn_imp,jval,bor,band,bnand,bimp,and_self])
 unfold Lt.preRPut Lt.room at hp
 by_cases hl:l.length<=LEN
 rotate_left
 ·exact ⟨1,fun h=>absurd h hl⟩
 have hlen:(Lt.rPut out l).length<=1099511627776:=by simpa [Lt.rPut] using hp
 refine nat_loop _ l.length (fun i x=>∃ b,x=(b,(i:Int))/\b++Lt.jw (decide (0<i)) (l.drop i)++[10]=Lt.rPut out l) (fun R i x hi hP hR=>?_) (fun R x hP=>?_) _ ⟨out,rfl,by simp [Lt.rPut,Lt.lnT]⟩
 ·obtain ⟨b,rfl,e⟩:=hP
  have ed:l.getD i default=l[i]:=by rw [List.getD,List.getElem?_eq_getElem hi]; rfl
  rw [List.drop_eq_getElem_cons hi,Lt.jw,<- ed] at e
  have el:=congrArg List.length e
  simp only [List.length_append,List.length_cons,List.length_nil] at el
  simp only [lt_t hi,if_true,Int.toNat_natCast]
  try dsimp +instances only [Int.toNat_natCast]
  intro _ J hJ
  have hj:J (b++(if decide (0<i)=true then [32] else [])):=by
   refine hJ _ ⟨⟨Int.natCast_nonneg i,hi⟩,?_,?_⟩
   ·simp only [List.length_append]; omega
   ·refine hR _ ⟨_,by rw [wrap_succ (by unfold LEN at hl; omega)],?_⟩
    rw [<- e]
    have:decide (0<i+1)=true:=by simp
    rw [this]
    simp only [List.append_assoc]
  by_cases h0:0<i
  ·have h1:decide ((0:Int) < (i:Int))=true:=by simp; omega
   simp only [h0,decide_true,if_true,List.length_cons,List.length_nil] at hj el
   rw [if_pos h1]
   exact ⟨by simp only [List.length_cons,List.length_nil]; omega,hj⟩
  ·have h1:decide ((0:Int) < (i:Int))=false:=by simp; omega
   simp only [h0,decide_false,Bool.false_eq_true,if_false,List.append_nil] at hj
   rw [h1]
   simpa using hj
 ·obtain ⟨b,rfl,e⟩:=hP
  rw [List.drop_length,Lt.jw,List.append_nil] at e
  have el:=congrArg List.length e
  simp only [List.length_append,List.length_cons,List.length_nil] at el
  intro _
  simp only [lt_f,Bool.false_eq_true,if_false]
  refine ⟨by simp only [List.length_cons,List.length_nil]; omega,?_⟩
  rw [e]; exact h
theorem law_rVars (out first:List UInt8) (l:List Lt.Var) (hp:Lt.preRVars out first l) (KK:List UInt8->Prop) (h:KK (Lt.rVars out first l)):F_rVars out first l KK:=by
 unfold F_rVars; (try simp only [jn_app,jn_and,jn_imp,jval,bor,band,bnand,bimp,and_self])
 unfold Lt.preRVars Lt.rVarsT at hp
 refine app_loop l (fun v=>Lt.lnT [first,v.Name,v.Type_]) out _ (fun R i b hl hi hb ih=>?_) (fun R hl=>?_)
 ·simp only [lt_t hi,if_true,Int.toNat_natCast]
  try dsimp +instances only [Int.toNat_natCast]
  have:=flat_le (fun v:Lt.Var=>Lt.lnT [first,v.Name,v.Type_]) l hi
  refine ⟨⟨Int.natCast_nonneg i,hi⟩,⟨Int.natCast_nonneg i,hi⟩,?_,ih⟩
  unfold Lt.preRPut
  rw [hb,List.length_append]
  omega
 ·simp only [lt_f,Bool.false_eq_true,if_false]; exact h
theorem law_rSize (n:Int) (KK:Int->Prop) (h:KK (Lt.rSize n)):F_rSize n KK:=by
 unfold F_rSize; (try simp only [jn_app,jn_and,jn_imp,jval,bor,band,bnand,bimp,and_self])
 refine kk h ?_
 unfold Lt.rSize; grind
theorem rSize_eq {n:Int} (h:Lt.inR n):Lt.rSize n=(n.natAbs:Int):=by
 unfold Lt.inR at h
 unfold Lt.rSize
 simp only [IntKind.wrap,IntKind.signed,IntKind.bits]
 split <;> simp <;> omega
theorem law_rNum (n:Int) (hp:Lt.preNum n) (KK:List UInt8->Prop) (h:KK (Lt.rNum n)):F_rNum n KK:=by
 unfold Lt.preNum at hp
 unfold F_rNum; (try simp only [jn_app,jn_and,jn_imp,jval,bor,band,bnand,bimp,and_self])
 rw [rSize_eq hp]
 have hdl:=digs_len 18 n.natAbs (by unfold Lt.inR at hp; omega)
 unfold Lt.inR at hp
 intro J hJ
 have hj:J (Lt.digs n.natAbs):=by
  refine hJ _ ?_
  unfold Lt.rNum Lt.numPut at h
  refine ifk (fun hc=>⟨?_,kk h ?_⟩) (fun hc=>kk h ?_)
  ·simp only [List.length_cons,List.length_nil]; omega
  ·rw [if_pos (by simpa using hc)]
  ·rw [if_neg (by simpa using hc)]; rfl
 have step:∀ (m:Nat) (acc:List UInt8) (R:List UInt8×Int->Prop),m<=9223372036854775808->Lt.digs m++acc=Lt.digs n.natAbs->(¬ m < 10->R (UInt8.ofNat (48+m % 10)::acc,((m / 10:Nat):Int))) ->
   (10:Int)≠0/\(([UInt8.ofNat (IntKind.u8.wrap (IntKind.u64.wrap (48+Int.tmod (m:Int) 10))).toNat]:List UInt8).length+acc.length<=4611686018427387904/\(([UInt8.ofNat (IntKind.u8.wrap (IntKind.u64.wrap (48+Int.tmod (m:Int) 10))).toNat]:List UInt8).length+acc.length)*1<=140737488355328)/\(10:Int)≠0 /\
    if decide (IntKind.u64.wrap (Int.tdiv (m:Int) 10)=0)=true then J ([UInt8.ofNat (IntKind.u8.wrap (IntKind.u64.wrap (48+Int.tmod (m:Int) 10))).toNat]++acc)
    else R ([UInt8.ofNat (IntKind.u8.wrap (IntKind.u64.wrap (48+Int.tmod (m:Int) 10))).toNat]++acc,IntKind.u64.wrap (Int.tdiv (m:Int) 10)):=by
  intro m acc R hm e hR
  have w:IntKind.u64.wrap (48+Int.tmod (m:Int) 10)=((48+m % 10:Nat):Int):=by
   rw [show (48+Int.tmod (m:Int) 10)=((48+m % 10:Nat):Int) from rfl]
   exact wrapu_small (by omega)
  have w2:UInt8.ofNat (IntKind.u8.wrap ((48+m % 10:Nat):Int)).toNat=UInt8.ofNat (48+m % 10):=by
   simp only [IntKind.wrap,IntKind.signed,IntKind.bits]
   congr 1
   simp
   omega
  have w3:IntKind.u64.wrap (Int.tdiv (m:Int) 10)=((m / 10:Nat):Int):=by
   rw [show Int.tdiv (m:Int) 10=((m / 10:Nat):Int) from rfl]
   exact wrapu_small (by omega)
  have el:=congrArg List.length e
  rw [List.length_append] at el
  rw [w,w2,w3]
  refine ⟨by decide,⟨by simp only [List.length_cons,List.length_nil]; omega,by simp only [List.length_cons,List.length_nil]; omega⟩,by decide,?_⟩
  refine ifk (fun hc=>?_) (fun hc=>?_)
  ·have h10:m < 10:=by
    simp only [decide_eq_true_eq] at hc; omega
   rw [digs_small h10] at e
   rw [Nat.mod_eq_of_lt h10]
   rw [e]; exact hj
  ·exact hR (by simp only [decide_eq_true_eq] at hc; omega)
 refine nat_loop _ 20 (fun i x=>∃ (m:Nat) (acc:List UInt8),x=(acc,(m:Int))/\m < 10 ^ (20-i)/\m<=9223372036854775808/\Lt.digs m++acc=Lt.digs n.natAbs) (fun R i x hi hP hR=>?_) (fun R x hP=>?_) _ ⟨n.natAbs,[],rfl,by omega,by omega,by simp⟩
 ·obtain ⟨m,acc,rfl,hm,hm2,e⟩:=hP
  refine step m acc R hm2 e (fun h10=>hR _ ⟨m / 10,_,rfl,?_,by omega,?_⟩)
  ·rw [show 20-i=(20 - (i+1))+1 by omega,Nat.pow_succ] at hm
   omega
  ·rw [digs_big h10] at e
   rw [<- e]; simp
 ·obtain ⟨m,acc,rfl,hm,hm2,e⟩:=hP
  exact step m acc R hm2 e (fun h10=>absurd hm (by omega))
theorem u8w (y:Int):(((UInt8.ofNat (IntKind.u8.wrap y).toNat).toNat:Nat):Int)=IntKind.u8.wrap y:=by
 simp only [IntKind.wrap,IntKind.signed,IntKind.bits,UInt8.toNat_ofNat']
 simp
 omega
theorem law_rFlo (n:Int) (KK:List UInt8->Prop) (h:KK (Lt.rFlo n)):F_rFlo n KK:=by
 unfold F_rFlo; (try simp only [jn_app,jn_and,jn_imp,jval,bor,band,bnand,bimp,and_self])
 unfold Lt.rFlo at h
 have hb:∀ x:Int,(if decide ((((UInt8.ofNat (IntKind.u8.wrap (Int.tmod x 16)).toNat).toNat:Nat):Int) < (((10:UInt8).toNat:Nat):Int))=true then UInt8.ofNat (IntKind.u8.wrap ((((UInt8.ofNat (IntKind.u8.wrap (Int.tmod x 16)).toNat).toNat:Nat):Int)+(((48:UInt8).toNat:Nat):Int))).toNat
   else UInt8.ofNat (IntKind.u8.wrap ((((UInt8.ofNat (IntKind.u8.wrap (Int.tmod x 16)).toNat).toNat:Nat):Int)+(((87:UInt8).toNat:Nat):Int))).toNat)=Lt.hexB x:=by
  intro x
  rw [u8w]
  have e10:(((10:UInt8).toNat:Nat):Int)=10:=rfl
  have e48:(((48:UInt8).toNat:Nat):Int)=48:=rfl
  have e87:(((87:UInt8).toNat:Nat):Int)=87:=rfl
  rw [e10,e48,e87]
  unfold Lt.hexB
  by_cases hc:IntKind.u8.wrap (Int.tmod x 16) < 10
  ·rw [if_pos (by simpa using hc),if_pos hc]
  ·rw [if_neg (by simpa using hc),if_neg hc]
 refine nat_loop _ 16 (fun i x=>∃ (y:Int) (acc:List UInt8),x=(y,acc,(i:Int))/\acc.length=i/\Lt.hexR (16-i) y acc=Lt.hexR 16 (IntKind.u64.wrap (Lt.rPlain n)) []) (fun R i x hi hP hR=>?_) (fun R x hP=>?_) _ ⟨_,[],rfl,rfl,rfl⟩
 ·obtain ⟨y,acc,rfl,hl,e⟩:=hP
  have hd:decide ((i:Int) < 16)=true:=by simp; omega
  dsimp only
  rw [hb,if_pos hd]
  refine ⟨by decide,⟨by simp only [List.length_cons,List.length_nil]; omega,by simp only [List.length_cons,List.length_nil]; omega⟩,by decide,hR _ ⟨_,_,by rw [wrap_succ (by omega)],by simp [hl],?_⟩⟩
  rw [show 16-i=(16 - (i+1))+1 by omega,Lt.hexR] at e
  exact e
 ·obtain ⟨y,acc,rfl,hl,e⟩:=hP
  have hd:decide (((16:Nat):Int) < 16)=false:=by decide
  dsimp only
  rw [if_neg (by rw [hd]; exact Bool.false_ne_true)]
  refine ⟨by simp only [List.length_cons,List.length_nil]; omega,?_⟩
  rw [show 16 - 16=0 from rfl,Lt.hexR] at e
  rw [e]; exact h
theorem law_rIsNan (n:Int) (KK:Bool->Prop) (h:KK (Lt.rIsNan n)):F_rIsNan n KK:=by
 unfold F_rIsNan; (try simp only [jn_app,jn_and,jn_imp,jval,bor,band,bnand,bimp,and_self])
 exact ⟨by decide,h⟩
theorem law_rPlain (n:Int) (KK:Int->Prop) (h:KK (Lt.rPlain n)):F_rPlain n KK:=by
 unfold F_rPlain; (try simp only [jn_app,jn_and,jn_imp,jval,bor,band,bnand,bimp,and_self]); exact h
theorem law_rRight (a:Lt.Arg) (KK:Bool->Prop) (h:KK (Lt.rRight a)):F_rRight a KK:=by
 unfold F_rRight; dsimp only; (try simp only [jn_app,jn_and,jn_imp,jval,bor,band,bnand,bimp,and_self])
 refine kk h ?_
 unfold Lt.rRight
 obtain ⟨k,s,n⟩:=a
 dsimp only
 by_cases k1:k=1
 ·subst k1; simp
 by_cases k2:k=2
 ·subst k2; by_cases hs:s=[] <;> simp [hs]
 by_cases k3:k=3
 ·subst k3; by_cases hs:s=[] <;> simp [hs]
 by_cases k4:k=4
 ·subst k4; by_cases hs:s=[] <;> simp [hs]
 by_cases k5:k=5
 ·subst k5; by_cases hs:s=[] <;> simp [hs,Bool.and_assoc]
 have:k < 1\/5<k:=by omega
 have e:(decide (k < 1)||decide (5<k))=true:=by simpa using this
 grind
theorem law_rName (s:List UInt8) (KK:Bool->Prop) (h:KK (Lt.rName s)):F_rName s KK:=by
 unfold F_rName; dsimp only; (try simp only [jn_app,jn_and,jn_imp,jval,bor,band,bnand,bimp,and_self])
 by_cases hl:s.length<=LEN
 rotate_left
 ·exact ⟨1,fun h=>absurd h hl⟩
 refine nat_loop _ s.length (fun i x=>x=(i:Int)/\∀ j,j<i->Lt.rNameB j (s.getD j 0)=true) (fun R i x hi hP hR=>?_) (fun R x hP=>?_) _ ⟨rfl,by omega⟩
 ·obtain ⟨rfl,hP⟩:=hP
  simp only [lt_t hi,if_true,Int.toNat_natCast]
  try dsimp +instances only [Int.toNat_natCast]
  intro _
  refine ⟨⟨Int.natCast_nonneg i,hi⟩,?_⟩
  have key:Lt.rNameB i (s.getD i 0)=true->R (IntKind.i64.wrap ((i:Int)+1)):=fun hc=>hR _ ⟨by rw [wrap_succ (by unfold LEN at hl; omega)],fun j hj=>by
   by_cases e:j=i
   ·rw [e]; exact hc
   ·exact hP j (by omega)⟩
  have key2:Lt.rNameB i (s.getD i 0)=false->KK false:=fun hc=>by
   have:Lt.rName s=false:=by
    unfold Lt.rName
    rw [Bool.and_eq_false_iff]
    refine .inl ?_
    rw [List.all_eq_false]
    exact ⟨i,by simpa using hi,by rw [hc]; exact Bool.false_ne_true⟩
   rw [this] at h; exact h
  unfold Lt.rNameB at key key2
  clear hP hR h
  generalize s.getD i 0=c at key key2 ⊢
  have e48:(((48:UInt8).toNat:Nat):Int)=48:=rfl
  have e57:(((57:UInt8).toNat:Nat):Int)=57:=rfl
  have e95:(((95:UInt8).toNat:Nat):Int)=95:=rfl
  have e65:(((65:UInt8).toNat:Nat):Int)=65:=rfl
  have e90:(((90:UInt8).toNat:Nat):Int)=90:=rfl
  have e97:(((97:UInt8).toNat:Nat):Int)=97:=rfl
  have e122:(((122:UInt8).toNat:Nat):Int)=122:=rfl
  simp only [e48,e57,e95,e65,e90,e97,e122]
  generalize ((c.toNat:Nat):Int)=z at key key2 ⊢
  grind
 ·obtain ⟨rfl,hP⟩:=hP
  intro _
  simp only [lt_f,Bool.false_eq_true,if_false]
  intro _
  refine kk h ?_
  have:(List.range s.length).all (fun i=>Lt.rNameB i (s.getD i 0))=true:=by
   rw [List.all_eq_true]
   intro j hj
   exact hP j (by simpa using hj)
  unfold Lt.rName
  rw [this,Bool.true_and]
  simp only [Bool.and_assoc]
theorem law_rWord (a:Lt.Arg) (hp:Lt.prePut a) (KK:List UInt8->Prop) (h:KK (Lt.rWord a)):F_rWord a KK:=by
 unfold F_rWord; (try simp only [jn_app,jn_and,jn_imp,jval,bor,band,bnand,bimp,and_self]); unfold Lt.rWord at h
 unfold Lt.prePut Lt.Arg.ok at hp
 have hq:Lt.preNum a.N:=hp
 have:=numPut_len hp
 have e:(35::Lt.rNum a.N).length<=4611686018427387904:=by simp only [List.length_cons,Lt.rNum]; omega
 grind
theorem law_rArgs (l:List (List UInt8)) (a:List Lt.Arg) (hp:Lt.preRArgs l a) (KK:List (List UInt8)->Prop) (h:KK (Lt.rArgs l a)):F_rArgs l a KK:=by
 unfold F_rArgs; (try simp only [jn_app,jn_and,jn_imp,jval,bor,band,bnand,bimp,and_self])
 obtain ⟨hok,hp⟩:=hp
 unfold Lt.room at hp
 have e:∀ l:List Lt.Arg,(l.flatMap fun x=>[Lt.rWord x])=l.map Lt.rWord:=fun l=>by induction l <;> simp_all
 refine app_loop a (fun x=>[Lt.rWord x]) l _ (fun R i b hl hi hb ih=>?_) (fun R hl=>?_)
 ·simp only [lt_t hi,if_true,Int.toNat_natCast]
  try dsimp +instances only [Int.toNat_natCast]
  have:=flat_le (fun x=>[Lt.rWord x]) a hi
  rw [e,e,List.length_map] at this
  refine ⟨⟨Int.natCast_nonneg i,hi⟩,hok _ (mem_getD _ hi),?_,ih⟩
  rw [hb,e]
  simp only [List.length_append,List.length_map,List.length_take,List.length_cons,List.length_nil]
  omega
 ·simp only [lt_f,Bool.false_eq_true,if_false]; rw [e]; exact h
theorem law_rEnds (out:List UInt8) (t:Lt.Term) (hp:Lt.preREnds out t) (KK:List UInt8->Prop) (h:KK (Lt.rEnds out t)):F_rEnds out t KK:=by
 obtain ⟨⟨okA,okN⟩,hp⟩:=hp
 unfold F_rEnds; dsimp only; (try simp only [jn_app,jn_and,jn_imp,jval,bor,band,bnand,bimp,and_self])
 unfold Lt.rEnds at h
 refine ifk (fun hc=>kk h ?_) (fun hc=>?_)
 ·unfold Lt.rEndT
  rw [if_pos (by simpa using hc)]; simp
 ·have hk:¬ (t.Kind < 1\/4<t.Kind):=by simpa using hc
  unfold Lt.rEndT at h hp
  rw [if_neg hk] at h hp
  have hlen:t.To.length<=1099511627776:=by
   have:=lnT_ge (Lt.rEndW t)
   have h2:t.To.length<=(Lt.rEndW t).length:=by unfold Lt.rEndW; simp only [List.length_append]; omega
   unfold Lt.room at hp
   omega
  refine ⟨⟨by omega,by simp only [List.length_cons,List.length_nil]; omega⟩,?_⟩
  generalize hw:([[],[106,117,109,112],[98,114,97,110,99,104],[114,101,116],[116,114,97,112]]:List (List UInt8)).getD t.Kind.toNat default=w
  have he:Lt.rEndW t=([w]++(if t.Kind=2\/t.Kind=3 then [Lt.rWord t.A] else []))++t.To++(if t.Kind=4 then [Lt.rNum t.N] else []):=by
   rw [<- hw]; rfl
  intro J hJ
  have hj:J ([w]++(if t.Kind=2\/t.Kind=3 then [Lt.rWord t.A] else [])):=by
   refine hJ _ ?_
   generalize hv:([w]++(if t.Kind=2\/t.Kind=3 then [Lt.rWord t.A] else []))=v at he
   have hvl:v.length<=2:=by rw [<- hv]; split <;> simp
   refine ⟨⟨by omega,by omega⟩,?_⟩
   intro J2 hJ2
   have hj2:J2 (Lt.rEndW t):=hJ2 _ ⟨hp,h⟩
   rw [he] at hj2
   refine ifk (fun hc=>⟨okN,?_,?_⟩) (fun hc=>?_)
   ·simp only [List.length_append,List.length_cons,List.length_nil]; omega
   ·rw [if_pos (by simpa using hc)] at hj2; exact hj2
   ·rw [if_neg (by simpa using hc),List.append_nil] at hj2; exact hj2
  refine ifk (fun hc=>⟨okA,?_,?_⟩) (fun hc=>?_)
  ·simp
  ·rw [if_pos (by simpa using hc)] at hj; exact hj
  ·rw [if_neg (by simpa using hc)] at hj; exact hj
theorem law_rOf (n:Int) (KK:Lt.RForm×Bool->Prop) (h:KK (Lt.rOf n)):F_rOf n KK:=by
 by_cases hr:n < 1\/34<n
 ·unfold F_rOf Lt.rOf at *
  rw [if_pos hr] at h
  simp only [jn_app,jval,bor]
  rw [if_pos (by simpa using hr)]
  exact h
 ·have:n=1\/n=2\/n=3\/n=4\/n=5\/n=6\/n=7\/n=8\/n=9\/n=10\/n=11\/n=12\/n=13\/n=14\/n=15\/n=16\/n=17\/n=18\/n=19\/n=20\/n=21\/n=22\/n=23\/n=24\/n=25\/n=26\/n=27\/n=28\/n=29\/n=30\/n=31\/n=32\/n=33\/n=34:=by omega
  rcases this with rfl | rfl | rfl | rfl | rfl | rfl | rfl | rfl | rfl | rfl | rfl | rfl | rfl | rfl | rfl | rfl | rfl | rfl | rfl | rfl | rfl | rfl | rfl | rfl | rfl | rfl | rfl | rfl | rfl | rfl | rfl | rfl | rfl | rfl
  all_goals
   simp [Lt.rOf] at h
   simp [F_rOf,jn_app,gw]
   exact h
end Go.Am
end

section
namespace Go.Am
open Go
set_option linter.unusedVariables false
set_option linter.unusedSimpArgs false
theorem range_all {α:Type} (p:α->Bool) (d:α):∀ l:List α,((List.range l.length).all fun i=>p (l.getD i d))=l.all p
 | []=>rfl
 | a::r=>by
  rw [List.length_cons,List.range_succ_eq_map,List.all_cons,List.all_map]
  have:=range_all p d r
  simp only [List.all_cons,Function.comp_def,List.getD_cons_zero,List.getD_cons_succ]
  rw [this]
theorem rNameB_eq (i:Nat) (c:UInt8):Lt.rNameB i c=(Lt.letter c||(Lt.wordDigit c&&decide (0<i))):=by
 unfold Lt.rNameB Lt.letter Lt.letterI Lt.wordDigit
 rw [Bool.eq_iff_iff]
 simp
 omega
theorem rName_eq (s:List UInt8):Lt.rName s=Lt.Name s:=by
 unfold Lt.rName Lt.Name Lt.kept
 cases s with
 | nil=>rfl
 | cons a r=>
  rw [List.length_cons,List.range_succ_eq_map,List.all_cons,List.all_map]
  have e:((List.range r.length).all ((fun i=>Lt.rNameB i ((a::r).getD i 0)) ∘ Nat.succ))=r.all Lt.nameByte:=by
   rw [<- range_all Lt.nameByte 0 r]
   congr 1; funext i
   simp [rNameB_eq,Lt.nameByte]
  have e16:decide (((r.length+1:Nat):Int)<=16)=decide (r.length+1<=16):=decide_eq_decide.2 (by omega)
  have e1:decide (1<=((r.length+1:Nat):Int))=true:=by simp; omega
  rw [e,rNameB_eq,e16,e1]
  simp only [List.all_cons,List.getD_cons_zero,Lt.nameByte,Nat.lt_irrefl,decide_false,Bool.and_false,Bool.or_false,reduceCtorEq,Bool.not_false,Bool.true_and]
  cases Lt.letter a <;> cases Lt.wordDigit a <;> cases r.all (fun c=>Lt.letter c||Lt.wordDigit c) <;> simp
  all_goals grind
theorem nan_bits (x:Nat):(9218868437227405312<x % 9223372036854775808) ↔ ((x &&& 9218868437227405312)=9218868437227405312/\(x &&& 4503599627370495)≠0):=by
 have e1:x &&& 4503599627370495=x % 2 ^ 52:=Nat.and_two_pow_sub_one_eq_mod x 52
 have e2:x &&& 9223372036854775807=x % 2 ^ 63:=Nat.and_two_pow_sub_one_eq_mod x 63
 have e3:(x &&& 9218868437227405312) % 2 ^ 52=0:=by
  rw [<- Nat.and_two_pow_sub_one_eq_mod,Nat.and_assoc]
  have:(9218868437227405312 &&& (2 ^ 52 - 1):Nat)=0:=by decide
  rw [this,Nat.and_zero]
 have e4:x &&& 9223372036854775807=(x &&& 9218868437227405312) ||| (x &&& 4503599627370495):=by
  rw [<- Nat.and_or_distrib_left]
  have:(9218868437227405312 ||| 4503599627370495:Nat)=9223372036854775807:=by decide
  rw [this]
 obtain ⟨q,hq⟩:∃ q,x &&& 9218868437227405312=2 ^ 52*q:=⟨_,(Nat.mul_div_cancel' (Nat.dvd_of_mod_eq_zero e3)).symm⟩
 have h:=Nat.and_le_right (n:=x) (m:=9218868437227405312)
 rw [hq,e1,<- Nat.two_pow_add_eq_or_of_lt (Nat.mod_lt _ (by decide))] at e4
 rw [hq] at h
 rw [hq,e1]
 omega
theorem wrapu_eq (n:Int):IntKind.u64.wrap n=(((BitVec.ofInt 64 n).toNat:Nat):Int):=by
 rw [BitVec.toNat_ofInt]
 simp only [IntKind.wrap,IntKind.signed,IntKind.bits]
 simp
 omega
theorem plain_eq (n:Int):Lt.rPlain n=Lt.Plain n:=by
 unfold Lt.rPlain Lt.rIsNan Lt.Plain
 have b64:IntKind.i64.bits=64:=rfl
 rw [wrapu_eq,b64,BitVec.toNat_and,BitVec.toNat_and]
 generalize (BitVec.ofInt 64 n).toNat=x
 have c1:(BitVec.ofInt 64 9218868437227405312).toNat=9218868437227405312:=by decide
 have c2:(BitVec.ofInt 64 4503599627370495).toNat=4503599627370495:=by decide
 rw [c1,c2]
 have h1:=Nat.and_le_right (n:=x) (m:=9218868437227405312)
 have h2:=Nat.and_le_right (n:=x) (m:=4503599627370495)
 have:=nan_bits x
 rw [wrap_small (by omega) (by omega),wrap_small (by omega) (by omega)]
 have et:Int.tmod (x:Int) 9223372036854775808=((x % 9223372036854775808:Nat):Int):=rfl
 rw [et]
 by_cases hc:9218868437227405312<x % 9223372036854775808
 ·have h:=this.1 hc
  have k1:((x &&& 9218868437227405312:Nat):Int)=9218868437227405312:=by omega
  have k2:¬ ((x &&& 4503599627370495:Nat):Int)=0:=by omega
  rw [if_pos (by simp; omega),if_pos (by rw [decide_eq_true k1,decide_eq_false k2]; rfl)]
 ·have h:¬ (((x &&& 9218868437227405312:Nat):Int)=9218868437227405312/\¬ ((x &&& 4503599627370495:Nat):Int)=0):=fun h=>hc (this.2 ⟨by omega,by omega⟩)
  rw [if_neg (by simp; omega),if_neg (by simpa using h)]
def hexT:List UInt8:=[48,49,50,51,52,53,54,55,56,57,97,98,99,100,101,102]
def hexN (k:Nat):UInt8:=hexT.getD (k % 16) 0
theorem hexB_eq (k:Nat):Lt.hexB (k:Int)=hexN k:=by
 unfold Lt.hexB hexN
 have e:Int.tmod (k:Int) 16=((k % 16:Nat):Int):=rfl
 rw [e]
 have h:k % 16 < 16:=Nat.mod_lt _ (by decide)
 generalize k % 16=j at h
 have:∀ j:Fin 16,UInt8.ofNat (IntKind.u8.wrap ((IntKind.u8.wrap ((j.1:Nat):Int))+(if IntKind.u8.wrap ((j.1:Nat):Int) < 10 then 48 else 87))).toNat=hexT.getD j.1 0:=by decide
 exact this ⟨j,h⟩
theorem hexR_eq:∀ (k m:Nat) (l:List UInt8),m < 18446744073709551616->Lt.hexR k (m:Int) l=((List.range k).map fun i=>hexN (m / 16 ^ (k - 1-i)))++l
 | 0,m,l,_=>rfl
 | k+1,m,l,h=>by
  rw [Lt.hexR,show Int.tdiv (m:Int) 16=((m / 16:Nat):Int) from rfl,wrapu_small (by omega),hexR_eq k (m / 16) _ (by omega),hexB_eq,List.range_succ,List.map_append]
  have e:(List.range k).map (fun i=>hexN (m / 16 / 16 ^ (k - 1-i)))=(List.range k).map (fun i=>hexN (m / 16 ^ (k+1 - 1-i))):=by
   refine List.map_congr_left (fun i hi=>?_)
   have hi:i<k:=List.mem_range.1 hi
   rw [Nat.div_div_eq_div_mul,show k+1 - 1-i=(k - 1-i)+1 by omega,Nat.pow_succ,Nat.mul_comm 16]
  rw [e]
  simp
theorem hexAt_eq (u:Int) (s:Nat) (hs:s<=60):Lt.hexAt u (s:Int)=hexN ((BitVec.ofInt 64 u).toNat / 2 ^ s):=by
 unfold Lt.hexAt
 have b64:IntKind.u64.bits=64:=rfl
 rw [wrapu_eq u,wrapu_small (n:=s) (by omega),b64,Int.toNat_natCast,Nat.min_eq_left (by omega)]
 have hx:=(BitVec.ofInt 64 u).isLt
 generalize (BitVec.ofInt 64 u).toNat=x at hx ⊢
 have e:Int.fdiv (x:Int) (2 ^ s)=((x / 2 ^ s:Nat):Int):=by
  rw [show ((2:Int) ^ s)=((2 ^ s:Nat):Int) by simp,Int.fdiv_eq_ediv_of_nonneg _ (Int.natCast_nonneg _)]; rfl
 have hlt:x / 2 ^ s < 18446744073709551616:=Nat.lt_of_le_of_lt (Nat.div_le_self _ _) hx
 have c15:(BitVec.ofInt 64 15).toNat=15:=by decide
 have e2:(BitVec.ofInt 64 ((x / 2 ^ s:Nat):Int)).toNat=x / 2 ^ s:=by
  generalize x / 2 ^ s=y at hlt
  rw [BitVec.toNat_ofInt]; omega
 rw [e,BitVec.toNat_and,c15,e2]
 have e3:(x / 2 ^ s &&& 15:Nat)=x / 2 ^ s % 16:=Nat.and_two_pow_sub_one_eq_mod _ 4
 rw [e3,wrapu_small (by omega),Int.toNat_natCast]
 rfl
theorem flo_eq (n:Int):Lt.rFlo n=Lt.floPut n:=by
 unfold Lt.rFlo Lt.floPut
 rw [plain_eq,wrapu_eq,hexR_eq 16 _ _ (BitVec.isLt _),List.append_nil]
 congr 1
 refine List.map_congr_left (fun i hi=>?_)
 have hi:i < 16:=List.mem_range.1 hi
 have e:(60:Int) - 4*(i:Int)=((60 - 4*i:Nat):Int):=by omega
 rw [e,hexAt_eq _ _ (by omega)]
 rw [show 60 - 4*i=4*(16 - 1-i) by omega,Nat.pow_mul]
theorem right_eq (a:Lt.Arg):Lt.rRight a=Lt.wordRight a:=by
 unfold Lt.rRight Lt.wordRight
 rw [rName_eq,plain_eq]
 by_cases h1:a.Kind=1
 ·rw [if_pos h1,if_pos h1]
 rw [if_neg h1,if_neg h1]
 by_cases h2:a.Kind=2
 ·simp [h2]
 by_cases h3:a.Kind=3
 ·simp [h3]
 by_cases h4:a.Kind=4
 ·simp [h4]
 by_cases h5:a.Kind=5
 ·simp [h5,Bool.and_assoc]
 have:(((decide (a.Kind < 1))||(decide (5<a.Kind)))||(!decide (a.S=[])))=true:=by simp; omega
 rw [if_pos this,if_neg h2,if_neg h3,if_neg h4,if_neg h5]
theorem word_eq (a:Lt.Arg):Lt.rWord a=Lt.wordPut a:=by
 unfold Lt.rWord Lt.wordPut Lt.rNum
 rw [right_eq,flo_eq]
 by_cases h:Lt.wordRight a=true
 ·rw [if_pos h,if_pos h]
  rcases wordRight_cases h with h | h | h | h | h
  ·simp [h.1]
  ·simp [h.1]
  ·simp [h.1]
  ·simp [h.1]
  ·simp [h.1]
 ·rw [if_neg h,if_neg h]
theorem rOf_eq (op:Int):(Lt.rOf op).2=(Lt.Of op).2/\(Lt.rOf op).1.Word=(Lt.Of op).1.Word/\(Lt.rOf op).1.Dst=(Lt.Of op).1.Dst/\(Lt.rOf op).1.Named=(Lt.Of op).1.Named/\(Lt.rOf op).1.Least=(Lt.Of op).1.Least/\(Lt.rOf op).1.Most=(Lt.Of op).1.Most:=by
 by_cases h:1<=op/\op<=34
 ·obtain ⟨k,rfl⟩:=Int.eq_ofNat_of_zero_le (show 0<=op by omega)
  have hk:k < 35:=by omega
  have:∀ k:Fin 35,1<=k.1->(Lt.rOf (k.1:Int)).2=(Lt.Of (k.1:Int)).2/\(Lt.rOf (k.1:Int)).1.Word=(Lt.Of (k.1:Int)).1.Word/\(Lt.rOf (k.1:Int)).1.Dst=(Lt.Of (k.1:Int)).1.Dst/\(Lt.rOf (k.1:Int)).1.Named=(Lt.Of (k.1:Int)).1.Named/\(Lt.rOf (k.1:Int)).1.Least=(Lt.Of (k.1:Int)).1.Least/\(Lt.rOf (k.1:Int)).1.Most=(Lt.Of (k.1:Int)).1.Most:=by decide +kernel
  exact this ⟨k,hk⟩ (by show 1<=k; omega)
 ·unfold Lt.rOf Lt.Of
  rw [if_pos (by omega)]
  repeat rw [if_neg (by omega)]
  exact ⟨rfl,rfl,rfl,rfl,rfl,rfl⟩
end Go.Am
end
