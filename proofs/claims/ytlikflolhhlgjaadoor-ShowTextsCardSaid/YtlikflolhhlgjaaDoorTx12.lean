/-
  Part 12: AmG2 · AmN9 · AmS1 · AmS2 · AmN10 · AmN11 · AmR2 · AmR3 · AmS3 · AmS4 · AmS5 · AmR4.
-/
import Derived.Test.YtlikflolhhlgjaaDoorTx11
set_option linter.unusedSimpArgs false
set_option linter.unusedVariables false
set_option linter.unusedSectionVars false
set_option linter.unnecessarySimpa false
section
namespace Go.Am
open Go
set_option linter.unusedVariables false
def F_sNum (a0_s:List UInt8) (KK:(Int×Bool)->Prop):Prop:=
 loopP (α:=Int×Int) (fun R1 v2=>joinP (α:=Bool) (fun J3=>(a0_s.length<=4611686018427387904->if (decide (v2.2 < (a0_s.length:Int)))=true then (J3 (decide (v2.2 < 30))) else (J3 false))) (fun v4=>if v4=true then (joinP (α:=Int) (fun J5=>joinP (α:=Bool) (fun J7=>if (decide (v2.2=0))=true then (((0:Int)<=0/\0<a0_s.length)/\J7 (decide ((((a0_s.getD 0 0).toNat:Nat):Int)=(((45:UInt8).toNat:Nat):Int)))) else (J7 false)) (fun v8=>if v8=true then (J5 v2.1) else (((0:Int)<=v2.2/\v2.2.toNat<a0_s.length)/\J5 (IntKind.u64.wrap ((IntKind.u64.wrap ((IntKind.u64.wrap (v2.1*10))+(IntKind.u64.wrap (((a0_s.getD v2.2.toNat 0).toNat:Nat):Int)))) - 48))))) (fun v6=>R1 (v6,(IntKind.i64.wrap (v2.2+1))))) else (joinP (α:=Int) (fun J9=>joinP (α:=Bool) (fun J11=>(a0_s.length<=4611686018427387904->if (decide (0 < (a0_s.length:Int)))=true then (((0:Int)<=0/\0<a0_s.length)/\J11 (decide ((((a0_s.getD 0 0).toNat:Nat):Int)=(((45:UInt8).toNat:Nat):Int)))) else (J11 false))) (fun v12=>if v12=true then (J9 (IntKind.u64.wrap (0-v2.1))) else (J9 v2.1))) (fun v10=>(Lt.preNum (Lt.sHalf v10))/\if (!decide ((Lt.rNum (Lt.sHalf v10))=a0_s))=true then (KK (0,false)) else (KK ((Lt.sHalf v10),true)))))) (0,0)
def F_sFlo (a0_s:List UInt8) (KK:(Int×Bool)->Prop):Prop:=
 (a0_s.length<=4611686018427387904->if (!decide ((a0_s.length:Int)=18))=true then (KK (0,false)) else (loopP (α:=Int×Int) (fun R1 v2=>if (decide (v2.2 < 18))=true then (((0:Int)<=v2.2/\v2.2.toNat<a0_s.length)/\joinP (α:=Int) (fun J3=>if (decide (97<=(IntKind.u64.wrap (((a0_s.getD v2.2.toNat 0).toNat:Nat):Int))))=true then (J3 (IntKind.u64.wrap ((IntKind.u64.wrap (((a0_s.getD v2.2.toNat 0).toNat:Nat):Int)) - 87))) else (J3 (IntKind.u64.wrap ((IntKind.u64.wrap (((a0_s.getD v2.2.toNat 0).toNat:Nat):Int)) - 48)))) (fun v4=>(16:Int)≠0/\R1 ((IntKind.u64.wrap ((IntKind.u64.wrap (v2.1*16))+(Int.tmod v4 16))),(IntKind.i64.wrap (v2.2+1))))) else (if (!decide ((Lt.rFlo (IntKind.i64.wrap v2.1))=a0_s))=true then (KK (0,false)) else (KK ((IntKind.i64.wrap v2.1),true)))) (0,2)))
def F_sArg (a0_s:List UInt8) (KK:(Lt.Arg×Bool)->Prop):Prop:=
 have z9:=((0:Int)<=4/\(4:Int) < ((5:Nat):Int)); have z8:=((0:Int)<=3/\(3:Int) < ((5:Nat):Int)); have z7:=((0:Int)<=2/\(2:Int) < ((5:Nat):Int)); have z6:=((0:Int)<=1/\(1:Int) < ((5:Nat):Int)); have z5:=((0:Int)<=0/\(0:Int) < ((5:Nat):Int)); have z4:=(Lt.Arg.mk 4 ([]:List UInt8) 0); have z2:=(Lt.Arg.mk 3 ([]:List UInt8) ((Lt.sFlo a0_s).1)); have z1:=(Lt.Arg.mk 2 ([]:List UInt8) ((Lt.sNum a0_s).1)); joinP (α:=List UInt8) (fun J1=>(a0_s.length<=4611686018427387904->if (decide (0 < (a0_s.length:Int)))=true then ((0:Int)<=1/\(1<=a0_s.length/\a0_s.length<=a0_s.length)/\J1 ((a0_s.drop 1).take (a0_s.length - 1))) else (J1 ([]:List UInt8)))) (fun v2=>have z3:=(Lt.Arg.mk 5 ([]:List UInt8) ((Lt.sNum v2).1)); joinP (α:=Unit) (fun J3=>if (decide ((0:Int) < 5))=true then (joinP (α:=Bool) (fun J5=>z5/\if (Lt.rRight (Lt.Arg.mk 1 a0_s 0))=true then (z5/\(Lt.prePut (Lt.Arg.mk 1 a0_s 0))/\J5 (decide ((Lt.rWord (Lt.Arg.mk 1 a0_s 0))=a0_s))) else (J5 false)) (fun v6=>if v6=true then (z5/\KK ((Lt.Arg.mk 1 a0_s 0),true)) else (if (decide ((1:Int) < 5))=true then (joinP (α:=Bool) (fun J7=>z6/\if (Lt.rRight z1)=true then (z6/\(Lt.prePut z1)/\J7 (decide ((Lt.rWord z1)=a0_s))) else (J7 false)) (fun v8=>if v8=true then (z6/\KK (z1,true)) else (if (decide ((2:Int) < 5))=true then (joinP (α:=Bool) (fun J9=>z7/\if (Lt.rRight z2)=true then (z7/\(Lt.prePut z2)/\J9 (decide ((Lt.rWord z2)=a0_s))) else (J9 false)) (fun v10=>if v10=true then (z7/\KK (z2,true)) else (if (decide ((3:Int) < 5))=true then (joinP (α:=Bool) (fun J11=>z8/\if (Lt.rRight z4)=true then (z8/\(Lt.prePut z4)/\J11 (decide ((Lt.rWord z4)=a0_s))) else (J11 false)) (fun v12=>if v12=true then (z8/\KK (z4,true)) else (if (decide ((4:Int) < 5))=true then (joinP (α:=Bool) (fun J13=>z9/\if (Lt.rRight z3)=true then (z9/\(Lt.prePut z3)/\J13 (decide ((Lt.rWord z3)=a0_s))) else (J13 false)) (fun v14=>if v14=true then (z9/\KK (z3,true)) else (if (decide ((5:Int) < 5))=true then (joinP (α:=Bool) (fun J15=>False) (fun v16=>if v16=true then (False) else (False))) else (J3 ())))) else (J3 ())))) else (J3 ())))) else (J3 ())))) else (J3 ())))) else (J3 ())) (fun v4=>KK ((Lt.Arg.mk 0 ([]:List UInt8) 0),false)))
def F_sNames (a0_l:List (List UInt8)) (KK:Bool->Prop):Prop:=
 loopP (α:=Int) (fun R1 v2=>(a0_l.length<=4611686018427387904->if (decide (v2 < (a0_l.length:Int)))=true then (((0:Int)<=v2/\v2.toNat<a0_l.length)/\if (!(Lt.rName (a0_l.getD v2.toNat default)))=true then (KK false) else (R1 (IntKind.i64.wrap (v2+1)))) else (KK true))) 0
def F_sKind (a0_w:List UInt8) (KK:Bool->Prop):Prop:=
 joinP (α:=Bool) (fun J1=>if (decide (a0_w=[105,110,116]))=true then (J1 true) else (if (decide (a0_w=[102,108,111,97,116]))=true then (J1 true) else (J1 (Lt.rName a0_w)))) (fun v2=>KK v2)
def F_sTyped (a0_l:List (List UInt8)) (KK:Bool->Prop):Prop:=
 joinP (α:=Bool) (fun J1=>(a0_l.length<=4611686018427387904->if (decide ((a0_l.length:Int)=3))=true then (((0:Int)<=1/\1<a0_l.length)/\if (Lt.sNames [(a0_l.getD 1 default)])=true then (((0:Int)<=2/\2<a0_l.length)/\J1 (Lt.sKind (a0_l.getD 2 default))) else (J1 false)) else (J1 false))) (fun v2=>KK v2)
def F_sLimit (a0_n:Int) (a1_most:Int) (KK:Int->Prop):Prop:=
 if (decide (a1_most<=a0_n))=true then (KK 2) else (KK 0)
def F_sOp (a0_word:List UInt8) (KK:(Int×Bool)->Prop):Prop:=
 loopP (α:=Int) (fun R1 v2=>if (decide (v2<=34))=true then (((0:Int)<=v2/\v2 < ((35:Nat):Int))/\v2.toNat<gw.length/\if (decide ((gw.getD v2.toNat default)=a0_word))=true then (KK (v2,true)) else (R1 (IntKind.i64.wrap (v2+1)))) else (KK (0,false))) 1
def F_sArgs (a0_l:List (List UInt8)) (a1_objs:Bool) (KK:(List Lt.Arg×Bool)->Prop):Prop:=
 loopP (α:=List Lt.Arg×Int) (fun R1 v2=>(a0_l.length<=4611686018427387904->if (decide (v2.2 < (a0_l.length:Int)))=true then (((0:Int)<=v2.2/\v2.2.toNat<a0_l.length)/\joinP (α:=Bool) (fun J3=>if (!((Lt.sArg (a0_l.getD v2.2.toNat default)).2))=true then (J3 true) else (if (decide (((Lt.sArg (a0_l.getD v2.2.toNat default)).1).Kind=5))=true then (J3 (!a1_objs)) else (J3 false))) (fun v4=>if v4=true then (KK ([],false)) else ((v2.1.length+([((Lt.sArg (a0_l.getD v2.2.toNat default)).1)]:List Lt.Arg).length<=4611686018427387904/\(v2.1.length+([((Lt.sArg (a0_l.getD v2.2.toNat default)).1)]:List Lt.Arg).length)*32<=140737488355328)/\R1 ((v2.1++([((Lt.sArg (a0_l.getD v2.2.toNat default)).1)]:List Lt.Arg)),(IntKind.i64.wrap (v2.2+1)))))) else (KK (v2.1,true)))) ([],0)
def F_sPairs (a0_l:List (List UInt8)) (a1_from:Int) (a2_objs:Bool) (KK:(List Lt.Bind×Bool)->Prop):Prop:=
 joinP (α:=Bool) (fun J1=>(a0_l.length<=4611686018427387904->if (decide ((a0_l.length:Int)<a1_from))=true then (J1 true) else ((2:Int)≠0/\J1 (!decide ((Int.tmod (IntKind.i64.wrap ((a0_l.length:Int)-a1_from)) 2)=0))))) (fun v2=>if v2=true then (KK ([],false)) else (loopP (α:=List Lt.Bind×Int) (fun R3 v4=>have z4:=IntKind.i64.wrap (v4.2+1); have z3:=IntKind.i64.wrap (v4.2+2); have z1:=(a0_l.drop z4.toNat).take (z3.toNat-z4.toNat); have z2:=([(Lt.Bind.mk (a0_l.getD v4.2.toNat default) (((Lt.sArgs z1 a2_objs).1).getD 0 default))]:List Lt.Bind); (a0_l.length<=4611686018427387904->if (decide (v4.2 < (a0_l.length:Int)))=true then ((0:Int)<=z4/\(0:Int)<=z3/\(z4.toNat<=z3.toNat/\z3.toNat<=a0_l.length)/\(Lt.preWords z1 a2_objs)/\joinP (α:=Bool) (fun J5=>((0:Int)<=v4.2/\v4.2.toNat<a0_l.length)/\if (!(Lt.sNames [(a0_l.getD v4.2.toNat default)]))=true then (J5 true) else (J5 (!((Lt.sArgs z1 a2_objs).2)))) (fun v6=>if v6=true then (KK ([],false)) else (((0:Int)<=v4.2/\v4.2.toNat<a0_l.length)/\((0:Int)<=0/\0 < ((Lt.sArgs z1 a2_objs).1).length)/\(v4.1.length+z2.length<=4611686018427387904/\(v4.1.length+z2.length)*48<=140737488355328)/\R3 ((v4.1++z2),z3)))) else (KK (v4.1,true)))) ([],a1_from)))
def F_sHeadM (a0_r:Lt.Read) (a1_l:List (List UInt8)) (KK:((Bool×Int)×Lt.Read)->Prop):Prop:=
 have z20:=decide (a0_r.Where<=2); have z19:=!(decide (a0_r.Where=9)); have z18:=Lt.sNum (a1_l.getD 2 default); have z17:=((0:Int)<=2/\2<a1_l.length); have z15:=!(Lt.sNames [(a1_l.getD 1 default)]); have z14:=([(Lt.Class.mk (a1_l.getD 1 default) [])]:List Lt.Class); have z13:=([(Lt.Func.mk (a1_l.getD 1 default) (a1_l.getD 2 default) [] [] [])]:List Lt.Func); have z12:=([(Lt.Extern.mk (a1_l.getD 1 default) (z18.1))]:List Lt.Extern); have z10:=((0:Int)<=1/\1<a1_l.length); have z3:=([(Lt.Var.mk (a1_l.getD 1 default) (a1_l.getD 2 default))]:List Lt.Var); have z2:=(IntKind.i64.wrap ((a0_r.P.Classes.length:Int) - 1)); have z8:=((0:Int)<=z2/\z2 < ((a0_r.P.Classes.length:Nat):Int)); have z7:=(a0_r.P.Classes.getD z2.toNat default).Fields; have z16:=z7.length+z3.length<=4611686018427387904/\(z7.length+z3.length)*32<=140737488355328; have z11:=Lt.Read.mk (Lt.Program.mk a0_r.P.SSA (a0_r.P.Classes.set z2.toNat (Lt.Class.mk ((a0_r.P.Classes.getD z2.toNat default).Name) (z7++z3))) a0_r.P.Globals a0_r.P.Externs a0_r.P.Funcs) a0_r.Where a0_r.Long; ((0:Int)<=0/\0<a1_l.length)/\if (decide ((a1_l.getD 0 default)=[99,108,97,115,115]))=true then (joinP (α:=Bool) (fun J1=>if z20=true then (if (!true)=true then (J1 true) else (if (!decide ((a1_l.length:Int)=2))=true then (J1 true) else (z10/\J1 z15))) else (if z19=true then (J1 true) else (if (!decide ((a1_l.length:Int)=2))=true then (J1 true) else (z10/\J1 z15)))) (fun v2=>if v2=true then (KK ((true,3),a0_r)) else ((a0_r.P.Classes.length<=4611686018427387904->joinP (α:=Lt.Read) (fun J3=>if (decide ((Lt.sLimit (a0_r.P.Classes.length:Int) 8)=0))=true then (joinP (α:=Lt.Read) (fun J5=>have z6:=((a0_r.P.Classes.length+z14.length<=4611686018427387904/\(a0_r.P.Classes.length+z14.length)*40<=140737488355328)/\J5 (Lt.Read.mk (Lt.Program.mk a0_r.P.SSA (a0_r.P.Classes++z14) a0_r.P.Globals a0_r.P.Externs a0_r.P.Funcs) a0_r.Where a0_r.Long)); z10/\z6/\z6) (fun v6=>J3 (Lt.Read.mk v6.P 1 v6.Long))) else (J3 a0_r)) (fun v4=>KK ((true,(Lt.sLimit (a0_r.P.Classes.length:Int) 8)),v4)))))) else (if (decide ((a1_l.getD 0 default)=[102,105,101,108,100]))=true then (joinP (α:=Bool) (fun J7=>if (!decide (a0_r.Where=1))=true then (J7 true) else (J7 (!(Lt.sTyped a1_l)))) (fun v8=>if v8=true then (KK ((true,3),a0_r)) else ((a0_r.P.Classes.length<=4611686018427387904->z8/\(z7.length<=4611686018427387904->joinP (α:=Lt.Read) (fun J9=>have z1:=(z16/\z8/\z2.toNat<a0_r.P.Classes.length/\z2.toNat=z2.toNat/\J9 z11); if (decide ((Lt.sLimit (z7.length:Int) 8)=0))=true then (z10/\z17/\((z8/\z1/\z1)/\(z8/\z16/\z8/\z2.toNat<a0_r.P.Classes.length/\z2.toNat=z2.toNat/\J9 z11))/\(z8/\(z1/\z1)/\(z1/\(z1/\z1))/\(z1/\z1))/\(z8/\z1/\z1)) else (J9 a0_r)) (fun v10=>KK ((true,(Lt.sLimit (z7.length:Int) 8)),v10))))))) else (if (decide ((a1_l.getD 0 default)=[103,108,111,98,97,108]))=true then (joinP (α:=Bool) (fun J11=>if z20=true then (if (!true)=true then (J11 true) else (J11 (!(Lt.sTyped a1_l)))) else (if z19=true then (J11 true) else (J11 (!(Lt.sTyped a1_l))))) (fun v12=>if v12=true then (KK ((true,3),a0_r)) else ((a0_r.P.Globals.length<=4611686018427387904->joinP (α:=Lt.Read) (fun J13=>have z9:=(a0_r.P.Globals.length+z3.length<=4611686018427387904/\(a0_r.P.Globals.length+z3.length)*32<=140737488355328)/\J13 (Lt.Read.mk (Lt.Program.mk a0_r.P.SSA a0_r.P.Classes (a0_r.P.Globals++z3) a0_r.P.Externs a0_r.P.Funcs) a0_r.Where a0_r.Long); z10/\z17/\z9/\z9) (fun v14=>KK ((true,(Lt.sLimit (a0_r.P.Globals.length:Int) 8)),(Lt.Read.mk v14.P 2 v14.Long))))))) else (if (decide ((a1_l.getD 0 default)=[101,120,116,101,114,110]))=true then (joinP (α:=Bool) (fun J15=>if z20=true then (if (!true)=true then (J15 true) else (if (!decide ((a1_l.length:Int)=3))=true then (J15 true) else (z10/\J15 z15))) else (if z19=true then (J15 true) else (if (!decide ((a1_l.length:Int)=3))=true then (J15 true) else (z10/\J15 z15)))) (fun v16=>if v16=true then (KK ((true,3),a0_r)) else (z17/\joinP (α:=Bool) (fun J17=>if (!(z18.2))=true then (J17 true) else (if (decide (z18.1 < 0))=true then (J17 true) else (J17 (decide (8<z18.1))))) (fun v18=>if v18=true then (KK ((true,3),a0_r)) else ((a0_r.P.Externs.length<=4611686018427387904->joinP (α:=Lt.Read) (fun J19=>have z4:=((a0_r.P.Externs.length+z12.length<=4611686018427387904/\(a0_r.P.Externs.length+z12.length)*24<=140737488355328)/\J19 (Lt.Read.mk (Lt.Program.mk a0_r.P.SSA a0_r.P.Classes a0_r.P.Globals (a0_r.P.Externs++z12) a0_r.P.Funcs) a0_r.Where a0_r.Long)); z10/\z4/\z4) (fun v20=>KK ((true,(Lt.sLimit (a0_r.P.Externs.length:Int) 8)),(Lt.Read.mk v20.P 2 v20.Long))))))))) else (if (decide ((a1_l.getD 0 default)=[102,117,110,99]))=true then (joinP (α:=Bool) (fun J21=>if z20=true then (if (!true)=true then (J21 true) else (J21 (!(Lt.sTyped a1_l)))) else (if z19=true then (J21 true) else (J21 (!(Lt.sTyped a1_l))))) (fun v22=>if v22=true then (KK ((true,3),a0_r)) else ((a0_r.P.Funcs.length<=4611686018427387904->joinP (α:=Lt.Read) (fun J23=>have z5:=((a0_r.P.Funcs.length+z13.length<=4611686018427387904/\(a0_r.P.Funcs.length+z13.length)*104<=140737488355328)/\J23 (Lt.Read.mk (Lt.Program.mk a0_r.P.SSA a0_r.P.Classes a0_r.P.Globals a0_r.P.Externs (a0_r.P.Funcs++z13)) a0_r.Where a0_r.Long)); z10/\z17/\z5/\z5) (fun v24=>KK ((true,(Lt.sLimit (a0_r.P.Funcs.length:Int) 8)),(Lt.Read.mk v24.P 3 0))))))) else (KK ((false,0),a0_r))))))
def F_sPartM (a0_r:Lt.Read) (a1_l:List (List UInt8)) (KK:((Bool×Int)×Lt.Read)->Prop):Prop:=
 have z26:=!decide (a0_r.Where=4); have z25:=((0:Int)<=2/\2<a1_l.length); have z24:=!decide (a0_r.Where=3); have z19:=(!decide ((a1_l.length:Int)=2)); have z18:=!(Lt.sNames [(a1_l.getD 1 default)]); have z11:=((0:Int)<=1/\1<a1_l.length); have z7:=(Lt.sPairs a1_l 2 false).1; have z6:=([(Lt.Block.mk (a1_l.getD 1 default) [] [] (Lt.Term.mk 0 (Lt.Arg.mk 0 ([]:List UInt8) 0) [] 0))]:List Lt.Block); have z5:=([(Lt.Var.mk (a1_l.getD 1 default) (a1_l.getD 2 default))]:List Lt.Var); have z15:=(([]:List Lt.Var).length+z5.length<=4611686018427387904/\(([]:List Lt.Var).length+z5.length)*32<=140737488355328); have z4:=(IntKind.i64.wrap ((a0_r.P.Funcs.length:Int) - 1)); have z2:=(a0_r.P.Funcs.getD z4.toNat default); have z3:=(IntKind.i64.wrap (((z2.Blocks).length:Int) - 1)); have z17:=((0:Int)<=z3/\z3 < (((z2.Blocks).length:Nat):Int)); have z16:=(z2.Blocks).getD z3.toNat default; (a0_r.P.Funcs.length<=4611686018427387904->if (decide (0 < (a0_r.P.Funcs.length:Int)))=true then ((a0_r.P.Funcs.length<=4611686018427387904->((0:Int)<=z4/\z4 < ((a0_r.P.Funcs.length:Nat):Int))/\((0:Int)<=0/\0<a1_l.length)/\if (decide ((a1_l.getD 0 default)=[112,97,114,97,109]))=true then (joinP (α:=Bool) (fun J1=>if z24=true then (J1 true) else (J1 (!(Lt.sTyped a1_l)))) (fun v2=>if v2=true then (KK ((true,3),a0_r)) else (((z2.Params).length<=4611686018427387904->joinP (α:=Lt.Read) (fun J3=>have z13:=((z2.Params).length+z5.length<=4611686018427387904/\((z2.Params).length+z5.length)*32<=140737488355328)/\z4.toNat<a0_r.P.Funcs.length/\z4.toNat=z4.toNat/\J3 (Lt.Read.mk (Lt.Program.mk a0_r.P.SSA a0_r.P.Classes a0_r.P.Globals a0_r.P.Externs (a0_r.P.Funcs.set z4.toNat (Lt.Func.mk (z2.Name) (z2.Result) ((z2.Params)++z5) (z2.Vars) (z2.Blocks)))) a0_r.Where a0_r.Long); z11/\z25/\z13/\z13) (fun v4=>KK ((true,(Lt.sLimit ((z2.Params).length:Int) 6)),v4)))))) else (if (decide ((a1_l.getD 0 default)=[118,97,114]))=true then (joinP (α:=Bool) (fun J5=>if z24=true then (if z26=true then (J5 true) else (J5 (!(Lt.sTyped a1_l)))) else (J5 (!(Lt.sTyped a1_l)))) (fun v6=>if v6=true then (KK ((true,3),a0_r)) else (((z2.Vars).length<=4611686018427387904->joinP (α:=Lt.Read) (fun J7=>have z14:=((z2.Vars).length+z5.length<=4611686018427387904/\((z2.Vars).length+z5.length)*32<=140737488355328)/\z4.toNat<a0_r.P.Funcs.length/\z4.toNat=z4.toNat/\J7 (Lt.Read.mk (Lt.Program.mk a0_r.P.SSA a0_r.P.Classes a0_r.P.Globals a0_r.P.Externs (a0_r.P.Funcs.set z4.toNat (Lt.Func.mk (z2.Name) (z2.Result) (z2.Params) ((z2.Vars)++z5) (z2.Blocks)))) a0_r.Where a0_r.Long); z11/\z25/\z14/\z14) (fun v8=>KK ((true,(Lt.sLimit ((z2.Vars).length:Int) 1024)),(Lt.Read.mk v8.P 4 v8.Long))))))) else (if (decide ((a1_l.getD 0 default)=[98,108,111,99,107]))=true then (joinP (α:=Bool) (fun J9=>if z24=true then (if z26=true then (if (!decide (a0_r.Where=9))=true then (J9 true) else (if z19=true then (J9 true) else (z11/\J9 z18))) else (if z19=true then (J9 true) else (z11/\J9 z18))) else (if z19=true then (J9 true) else (z11/\J9 z18))) (fun v10=>if v10=true then (KK ((true,3),a0_r)) else (((z2.Blocks).length<=4611686018427387904->joinP (α:=Lt.Read) (fun J11=>have z12:=((z2.Blocks).length+z6.length<=4611686018427387904/\((z2.Blocks).length+z6.length)*136<=140737488355328)/\z4.toNat<a0_r.P.Funcs.length/\z4.toNat=z4.toNat/\J11 (Lt.Read.mk (Lt.Program.mk a0_r.P.SSA a0_r.P.Classes a0_r.P.Globals a0_r.P.Externs (a0_r.P.Funcs.set z4.toNat (Lt.Func.mk (z2.Name) (z2.Result) (z2.Params) (z2.Vars) ((z2.Blocks)++z6)))) a0_r.Where a0_r.Long); z11/\z12/\z12) (fun v12=>KK ((true,(Lt.sLimit ((z2.Blocks).length:Int) 256)),(Lt.Read.mk v12.P 5 v12.Long))))))) else (if (decide ((a1_l.getD 0 default)=[112,104,105]))=true then ((Lt.prePairs a1_l 2 false)/\joinP (α:=Bool) (fun J13=>if (!decide (a0_r.Where=5))=true then (J13 true) else (if (!((Lt.sPairs a1_l 2 false).2))=true then (J13 true) else (if (decide ((z7.length:Int)=0))=true then (J13 true) else (z11/\J13 z18)))) (fun v14=>if v14=true then (KK ((true,3),a0_r)) else (joinP (α:=Bool) (fun J15=>(z7.length<=4611686018427387904->if (decide (256 < (z7.length:Int)))=true then (J15 true) else (J15 (decide (1024<=a0_r.Long))))) (fun v16=>if v16=true then (KK ((true,2),a0_r)) else (z11/\loopP (α:=Int×Lt.Phi) (fun R17 v18=>have z22:=((z16.Phis).length+([v18.2]:List Lt.Phi).length<=4611686018427387904/\((z16.Phis).length+([v18.2]:List Lt.Phi).length)*40<=140737488355328); have z9:=([(Lt.In.mk ((z7.getD v18.1.toNat default).Name) ((z7.getD v18.1.toNat default).A))]:List Lt.In); have z8:=(Lt.Read.mk (Lt.Program.mk a0_r.P.SSA a0_r.P.Classes a0_r.P.Globals a0_r.P.Externs (a0_r.P.Funcs.set z4.toNat (Lt.Func.mk (z2.Name) (z2.Result) (z2.Params) (z2.Vars) ((z2.Blocks).set z3.toNat (Lt.Block.mk (z16.Name) ((z16.Phis)++([v18.2]:List Lt.Phi)) (z16.Code) (Lt.Term.mk ((z16.End).Kind) ((z16.End).A) ((z16.End).To) ((z16.End).N))))))) a0_r.Where a0_r.Long); (z7.length<=4611686018427387904->if (decide (v18.1 < (z7.length:Int)))=true then (joinP (α:=Lt.Phi) (fun J19=>have z21:=(v18.2.Ins.length+z9.length<=4611686018427387904/\(v18.2.Ins.length+z9.length)*48<=140737488355328)/\J19 (Lt.Phi.mk v18.2.Dst (v18.2.Ins++z9)); ((0:Int)<=v18.1/\v18.1.toNat<z7.length)/\((0:Int)<=v18.1/\v18.1.toNat<z7.length)/\z21/\z21) (fun v20=>R17 ((IntKind.i64.wrap (v18.1+1)),v20))) else (((z2.Blocks).length<=4611686018427387904->joinP (α:=Lt.Read) (fun J21=>have z1:=(z22/\z17/\z4.toNat<a0_r.P.Funcs.length/\z3.toNat < (z2.Blocks).length/\z4.toNat=z4.toNat/\z3.toNat=z3.toNat/\J21 z8); ((z17/\z1/\z1)/\(z17/\z22/\z17/\z4.toNat<a0_r.P.Funcs.length/\z3.toNat < (z2.Blocks).length/\z4.toNat=z4.toNat/\z3.toNat=z3.toNat/\J21 z8))/\(z17/\(z1/\z1)/\(z1/\(z1/\z1))/\(z1/\z1))/\(z17/\z1/\z1)) (fun v22=>KK ((true,0),(Lt.Read.mk v22.P v22.Where (IntKind.i64.wrap (v22.Long+1))))))))) (0,(Lt.Phi.mk (a1_l.getD 1 default) []))))))) else (KK ((false,0),a0_r))))))) else (((0:Int)<=0/\0<a1_l.length)/\if (decide ((a1_l.getD 0 default)=[112,97,114,97,109]))=true then (joinP (α:=Bool) (fun J23=>if z24=true then (J23 true) else (J23 (!(Lt.sTyped a1_l)))) (fun v24=>if v24=true then (KK ((true,3),a0_r)) else (joinP (α:=Unit) (fun J25=>z11/\z25/\(z15/\J25 ())/\(z15/\J25 ())) (fun v26=>KK ((true,(Lt.sLimit 0 6)),a0_r))))) else (if (decide ((a1_l.getD 0 default)=[118,97,114]))=true then (joinP (α:=Bool) (fun J27=>if z24=true then (if z26=true then (J27 true) else (J27 (!(Lt.sTyped a1_l)))) else (J27 (!(Lt.sTyped a1_l)))) (fun v28=>if v28=true then (KK ((true,3),a0_r)) else (joinP (α:=Unit) (fun J29=>z11/\z25/\(z15/\J29 ())/\(z15/\J29 ())) (fun v30=>KK ((true,(Lt.sLimit 0 1024)),(Lt.Read.mk a0_r.P 4 a0_r.Long)))))) else (if (decide ((a1_l.getD 0 default)=[98,108,111,99,107]))=true then (joinP (α:=Bool) (fun J31=>if z24=true then (if z26=true then (if (!decide (a0_r.Where=9))=true then (J31 true) else (if z19=true then (J31 true) else (z11/\J31 z18))) else (if z19=true then (J31 true) else (z11/\J31 z18))) else (if z19=true then (J31 true) else (z11/\J31 z18))) (fun v32=>if v32=true then (KK ((true,3),a0_r)) else (joinP (α:=Unit) (fun J33=>have z23:=((([]:List Lt.Block).length+z6.length<=4611686018427387904/\(([]:List Lt.Block).length+z6.length)*136<=140737488355328)/\J33 ()); z11/\z23/\z23) (fun v34=>KK ((true,(Lt.sLimit 0 256)),(Lt.Read.mk a0_r.P 5 a0_r.Long)))))) else (if (decide ((a1_l.getD 0 default)=[112,104,105]))=true then ((Lt.prePairs a1_l 2 false)/\joinP (α:=Bool) (fun J35=>if (!decide (a0_r.Where=5))=true then (J35 true) else (if (!((Lt.sPairs a1_l 2 false).2))=true then (J35 true) else (if (decide ((z7.length:Int)=0))=true then (J35 true) else (z11/\J35 z18)))) (fun v36=>if v36=true then (KK ((true,3),a0_r)) else (joinP (α:=Bool) (fun J37=>(z7.length<=4611686018427387904->if (decide (256 < (z7.length:Int)))=true then (J37 true) else (J37 (decide (1024<=a0_r.Long))))) (fun v38=>if v38=true then (KK ((true,2),a0_r)) else (z11/\loopP (α:=Int×Lt.Phi) (fun R39 v40=>have z10:=([(Lt.In.mk ((z7.getD v40.1.toNat default).Name) ((z7.getD v40.1.toNat default).A))]:List Lt.In); (z7.length<=4611686018427387904->if (decide (v40.1 < (z7.length:Int)))=true then (joinP (α:=Lt.Phi) (fun J41=>have z20:=(v40.2.Ins.length+z10.length<=4611686018427387904/\(v40.2.Ins.length+z10.length)*48<=140737488355328)/\J41 (Lt.Phi.mk v40.2.Dst (v40.2.Ins++z10)); ((0:Int)<=v40.1/\v40.1.toNat<z7.length)/\((0:Int)<=v40.1/\v40.1.toNat<z7.length)/\z20/\z20) (fun v42=>R39 ((IntKind.i64.wrap (v40.1+1)),v42))) else (((False)/\(False))/\(False)/\(False)))) (0,(Lt.Phi.mk (a1_l.getD 1 default) []))))))) else (KK ((false,0),a0_r)))))))
def F_sStateM (a0_r:Lt.Read) (a1_l:List (List UInt8)) (KK:((Bool×Int)×Lt.Read)->Prop):Prop:=
 have z25:=((0:Int)<=3/\3<a1_l.length); have z24:=(decide ((a1_l.length:Int)=2)); have z22:=(a1_l.drop 2).take (a1_l.length - 2); have z21:=decide ((a1_l.getD 0 default)=[97,116]); have z20:=Lt.sNum (a1_l.getD 3 default); have z19:=Lt.sArgs ((a1_l.drop 1).take (2 - 1)) false; have z18:=((0:Int)<=2/\2<a1_l.length); have z17:=decide ((a1_l.getD 0 default)=[111,98,106]); have z16:=decide ((a1_l.getD 0 default)=[114,101,116]); have z15:=(a1_l.drop 1).take (a1_l.length - 1); have z14:=decide ((a1_l.getD 0 default)=[106,117,109,112]); have z13:=decide ((a1_l.getD 0 default)=[98,114,97,110,99,104]); have z12:=((0:Int)<=0/\0<a1_l.length); have z11:=((0:Int)<=1/\1<a1_l.length); have z10:=([(Lt.Virt.mk (a1_l.getD 1 default) ((Lt.sArgs z22 true).1))]:List Lt.Virt); have z9:=([(Lt.Frame.mk (a1_l.getD 1 default) (a1_l.getD 2 default) (z20.1) ((Lt.sPairs a1_l 4 true).1))]:List Lt.Frame); have z6:=(IntKind.i64.wrap ((a0_r.P.Funcs.length:Int) - 1)); have z2:=(a0_r.P.Funcs.getD z6.toNat default); have z7:=(IntKind.i64.wrap (((z2.Blocks).length:Int) - 1)); have z1:=((z2.Blocks).getD z7.toNat default); have z23:=Lt.Term.mk ((z1.End).Kind) ((z1.End).A) ((z1.End).To) ((z1.End).N); have z8:=(IntKind.i64.wrap (((z1.Code).length:Int) - 1)); have z3:=((z1.Code).getD z8.toNat default); z12/\joinP (α:=Bool) (fun J1=>if z21=true then (J1 z21) else (if z17=true then (J1 z17) else (if z14=true then (J1 z14) else (if z13=true then (J1 z13) else (if z16=true then (J1 z16) else (J1 (decide ((a1_l.getD 0 default)=[116,114,97,112])))))))) (fun v2=>if v2=true then (joinP (α:=Bool) (fun J3=>if (decide (5<=a0_r.Where))=true then (J3 (!(decide (a0_r.Where<=8)))) else (J3 (!false))) (fun v4=>if v4=true then (KK ((true,3),a0_r)) else ((a0_r.P.Funcs.length<=4611686018427387904->((0:Int)<=z6/\z6 < ((a0_r.P.Funcs.length:Nat):Int))/\((z2.Blocks).length<=4611686018427387904->((0:Int)<=z7/\z7 < (((z2.Blocks).length:Nat):Int))/\z12/\if z21=true then ((Lt.prePairs a1_l 4 true)/\joinP (α:=Bool) (fun J5=>if (!decide (a0_r.Where=7))=true then (J5 true) else (if (!((Lt.sPairs a1_l 4 true).2))=true then (J5 true) else (z11/\z18/\J5 (!(Lt.sNames [(a1_l.getD 1 default),(a1_l.getD 2 default)]))))) (fun v6=>if v6=true then (KK ((true,3),a0_r)) else (z25/\joinP (α:=Bool) (fun J7=>if (!(z20.2))=true then (J7 true) else (if (decide (z20.1 < 0))=true then (J7 true) else (J7 (decide (1024<z20.1))))) (fun v8=>if v8=true then (KK ((true,3),a0_r)) else (((z1.Code).length<=4611686018427387904->((0:Int)<=z8/\z8 < (((z1.Code).length:Nat):Int))/\joinP (α:=Bool) (fun J9=>(((Lt.sPairs a1_l 4 true).1).length<=4611686018427387904->if (decide (16 < (((Lt.sPairs a1_l 4 true).1).length:Int)))=true then (J9 true) else (J9 (decide (16<=((z3.Frames).length:Int)))))) (fun v10=>if v10=true then (KK ((true,2),a0_r)) else (joinP (α:=Lt.Read) (fun J11=>have z4:=(((z3.Frames).length+z9.length<=4611686018427387904/\((z3.Frames).length+z9.length)*64<=140737488355328)/\z6.toNat<a0_r.P.Funcs.length/\z7.toNat < (z2.Blocks).length/\z8.toNat < (z1.Code).length/\z6.toNat=z6.toNat/\z7.toNat=z7.toNat/\z8.toNat=z8.toNat/\J11 (Lt.Read.mk (Lt.Program.mk a0_r.P.SSA a0_r.P.Classes a0_r.P.Globals a0_r.P.Externs (a0_r.P.Funcs.set z6.toNat (Lt.Func.mk (z2.Name) (z2.Result) (z2.Params) (z2.Vars) ((z2.Blocks).set z7.toNat (Lt.Block.mk (z1.Name) (z1.Phis) ((z1.Code).set z8.toNat (Lt.Instr.mk (z3.Op) (z3.Dst) (z3.Name) (z3.Args) ((z3.Frames)++z9) (z3.Objs))) z23))))) a0_r.Where a0_r.Long)); z11/\z18/\z4/\z4) (fun v12=>KK ((true,0),v12)))))))))) else (if z17=true then (joinP (α:=Bool) (fun J13=>if (decide (a0_r.Where < 7))=true then (J13 true) else (if (decide ((a1_l.length:Int) < 2))=true then (J13 true) else (if (decide (10 < (a1_l.length:Int)))=true then (J13 true) else (z11/\J13 (!(Lt.sNames [(a1_l.getD 1 default)])))))) (fun v14=>if v14=true then (KK ((true,3),a0_r)) else ((0:Int)<=2/\(2<=a1_l.length/\a1_l.length<=a1_l.length)/\(Lt.preWords z22 true)/\if (!((Lt.sArgs z22 true).2))=true then (KK ((true,3),a0_r)) else (((z1.Code).length<=4611686018427387904->((0:Int)<=z8/\z8 < (((z1.Code).length:Nat):Int))/\((z3.Objs).length<=4611686018427387904->joinP (α:=Lt.Read) (fun J15=>have z5:=(((z3.Objs).length+z10.length<=4611686018427387904/\((z3.Objs).length+z10.length)*40<=140737488355328)/\z6.toNat<a0_r.P.Funcs.length/\z7.toNat < (z2.Blocks).length/\z8.toNat < (z1.Code).length/\z6.toNat=z6.toNat/\z7.toNat=z7.toNat/\z8.toNat=z8.toNat/\J15 (Lt.Read.mk (Lt.Program.mk a0_r.P.SSA a0_r.P.Classes a0_r.P.Globals a0_r.P.Externs (a0_r.P.Funcs.set z6.toNat (Lt.Func.mk (z2.Name) (z2.Result) (z2.Params) (z2.Vars) ((z2.Blocks).set z7.toNat (Lt.Block.mk (z1.Name) (z1.Phis) ((z1.Code).set z8.toNat (Lt.Instr.mk (z3.Op) (z3.Dst) (z3.Name) (z3.Args) (z3.Frames) ((z3.Objs)++z10))) z23))))) a0_r.Where a0_r.Long)); z11/\z5/\z5) (fun v16=>KK ((true,(Lt.sLimit ((z3.Objs).length:Int) 99)),(Lt.Read.mk v16.P 8 v16.Long))))))))) else (joinP (α:=Bool×Int×Lt.Read) (fun J17=>joinP (α:=Bool) (fun J19=>z12/\if z14=true then (if z24=true then (z11/\J19 (Lt.sNames [(a1_l.getD 1 default)])) else (J19 false)) else (J19 false)) (fun v20=>if v20=true then (z11/\z6.toNat<a0_r.P.Funcs.length/\z7.toNat < (z2.Blocks).length/\J17 (true,0,(Lt.Read.mk (Lt.Program.mk a0_r.P.SSA a0_r.P.Classes a0_r.P.Globals a0_r.P.Externs (a0_r.P.Funcs.set z6.toNat (Lt.Func.mk (z2.Name) (z2.Result) (z2.Params) (z2.Vars) ((z2.Blocks).set z7.toNat (Lt.Block.mk (z1.Name) (z1.Phis) (z1.Code) (Lt.Term.mk 1 (Lt.Arg.mk 0 ([]:List UInt8) 0) [(a1_l.getD 1 default)] 0)))))) 9 a0_r.Long))) else (joinP (α:=Unit) (fun J21=>joinP (α:=Bool) (fun J23=>z12/\if z13=true then (if (decide ((a1_l.length:Int)=4))=true then (z18/\z25/\J23 (Lt.sNames [(a1_l.getD 2 default),(a1_l.getD 3 default)])) else (J23 false)) else (J23 false)) (fun v24=>if v24=true then ((0:Int)<=1/\(0:Int)<=2/\(1<=2/\2<=a1_l.length)/\(Lt.preWords ((a1_l.drop 1).take (2 - 1)) false)/\if (z19.2)=true then (((0:Int)<=0/\0 < (z19.1).length)/\z18/\z25/\z6.toNat<a0_r.P.Funcs.length/\z7.toNat < (z2.Blocks).length/\J17 (true,0,(Lt.Read.mk (Lt.Program.mk a0_r.P.SSA a0_r.P.Classes a0_r.P.Globals a0_r.P.Externs (a0_r.P.Funcs.set z6.toNat (Lt.Func.mk (z2.Name) (z2.Result) (z2.Params) (z2.Vars) ((z2.Blocks).set z7.toNat (Lt.Block.mk (z1.Name) (z1.Phis) (z1.Code) (Lt.Term.mk 2 ((z19.1).getD 0 default) [(a1_l.getD 2 default),(a1_l.getD 3 default)] 0)))))) 9 a0_r.Long))) else (J21 ())) else (J21 ()))) (fun v22=>joinP (α:=Unit) (fun J25=>joinP (α:=Bool) (fun J27=>z12/\if z16=true then (J27 z24) else (J27 false)) (fun v28=>if v28=true then ((0:Int)<=1/\(1<=a1_l.length/\a1_l.length<=a1_l.length)/\(Lt.preWords z15 false)/\if ((Lt.sArgs z15 false).2)=true then (((0:Int)<=0/\0 < ((Lt.sArgs z15 false).1).length)/\z6.toNat<a0_r.P.Funcs.length/\z7.toNat < (z2.Blocks).length/\J17 (true,0,(Lt.Read.mk (Lt.Program.mk a0_r.P.SSA a0_r.P.Classes a0_r.P.Globals a0_r.P.Externs (a0_r.P.Funcs.set z6.toNat (Lt.Func.mk (z2.Name) (z2.Result) (z2.Params) (z2.Vars) ((z2.Blocks).set z7.toNat (Lt.Block.mk (z1.Name) (z1.Phis) (z1.Code) (Lt.Term.mk 3 (((Lt.sArgs z15 false).1).getD 0 default) [] 0)))))) 9 a0_r.Long))) else (J25 ())) else (J25 ()))) (fun v26=>joinP (α:=Unit) (fun J29=>joinP (α:=Bool) (fun J31=>z12/\if (decide ((a1_l.getD 0 default)=[116,114,97,112]))=true then (J31 z24) else (J31 false)) (fun v32=>if v32=true then (z11/\if ((Lt.sNum (a1_l.getD 1 default)).2)=true then (z6.toNat<a0_r.P.Funcs.length/\z7.toNat < (z2.Blocks).length/\J17 (true,0,(Lt.Read.mk (Lt.Program.mk a0_r.P.SSA a0_r.P.Classes a0_r.P.Globals a0_r.P.Externs (a0_r.P.Funcs.set z6.toNat (Lt.Func.mk (z2.Name) (z2.Result) (z2.Params) (z2.Vars) ((z2.Blocks).set z7.toNat (Lt.Block.mk (z1.Name) (z1.Phis) (z1.Code) (Lt.Term.mk 4 (Lt.Arg.mk 0 ([]:List UInt8) 0) [] ((Lt.sNum (a1_l.getD 1 default)).1))))))) 9 a0_r.Long))) else (J29 ())) else (J29 ()))) (fun v30=>J17 (true,3,(Lt.Read.mk a0_r.P 9 a0_r.Long)))))))) (fun v18=>KK ((v18.1,v18.2.1),v18.2.2))))))))) else (KK ((false,0),a0_r)))
def F_sCodeM (a0_r:Lt.Read) (a1_l:List (List UInt8)) (KK:((Int)×Lt.Read)->Prop):Prop:=
 have z5:=(IntKind.i64.wrap ((a0_r.P.Funcs.length:Int) - 1)); have z2:=(a0_r.P.Funcs.getD z5.toNat default); have z3:=(IntKind.i64.wrap (((z2.Blocks).length:Int) - 1)); have z9:=((0:Int)<=z3/\z3 < (((z2.Blocks).length:Nat):Int)); have z8:=(z2.Blocks).getD z3.toNat default; joinP (α:=List (List UInt8)×Lt.Instr) (fun J1=>joinP (α:=Bool) (fun J3=>(a1_l.length<=4611686018427387904->if (decide (2 < (a1_l.length:Int)))=true then (((0:Int)<=1/\1<a1_l.length)/\J3 (decide ((a1_l.getD 1 default)=[61]))) else (J3 false))) (fun v4=>if v4=true then (((0:Int)<=0/\0<a1_l.length)/\if (!(Lt.sNames [(a1_l.getD 0 default)]))=true then (KK (3,a0_r)) else (((0:Int)<=0/\0<a1_l.length)/\(0:Int)<=2/\(2<=a1_l.length/\a1_l.length<=a1_l.length)/\J1 (((a1_l.drop 2).take (a1_l.length - 2)),(Lt.Instr.mk 0 (a1_l.getD 0 default) ([]:List UInt8) [] [] [])))) else (J1 (a1_l,(Lt.Instr.mk 0 ([]:List UInt8) ([]:List UInt8) [] [] []))))) (fun v2=>have z14:=(v2.1.drop 3).take (v2.1.length - 3); have z10:=([(v2.1.getD 1 default)]:List (List UInt8)); have z6:=Lt.sOp (v2.1.getD 0 default); have z13:=(!(((Lt.rOf (z6.1)).1).Dst==(!decide (v2.2.Dst=([]:List UInt8))))); ((0:Int)<=0/\0<v2.1.length)/\joinP (α:=Bool) (fun J5=>if (decide (5<=a0_r.Where))=true then (if (!(decide (a0_r.Where<=8)))=true then (J5 true) else (if (!(z6.2))=true then (J5 true) else (J5 z13))) else (if (!false)=true then (J5 true) else (if (!(z6.2))=true then (J5 true) else (J5 z13)))) (fun v6=>if v6=true then (KK (3,a0_r)) else (joinP (α:=List (List UInt8)×Lt.Instr) (fun J7=>joinP (α:=Bool) (fun J9=>if (decide (z6.1=26))=true then (J9 true) else (J9 (decide (z6.1=27)))) (fun v10=>if v10=true then ((v2.1.length<=4611686018427387904->if (decide ((v2.1.length:Int) < 3))=true then (KK (3,a0_r)) else (((0:Int)<=2/\2<v2.1.length)/\((0:Int)<=1/\1<v2.1.length)/\(([]:List (List UInt8)).length+z10.length<=4611686018427387904/\(([]:List (List UInt8)).length+z10.length)*16<=140737488355328)/\(0:Int)<=3/\(3<=v2.1.length/\v2.1.length<=v2.1.length)/\(z10.length+z14.length<=4611686018427387904/\(z10.length+z14.length)*16<=140737488355328)/\J7 ((z10++z14),(Lt.Instr.mk (z6.1) v2.2.Dst (v2.1.getD 2 default) [] [] []))))) else (if (((Lt.rOf (z6.1)).1).Named)=true then ((v2.1.length<=4611686018427387904->if (decide ((v2.1.length:Int) < 2))=true then (KK (3,a0_r)) else (((0:Int)<=1/\1<v2.1.length)/\(0:Int)<=2/\(2<=v2.1.length/\v2.1.length<=v2.1.length)/\J7 (((v2.1.drop 2).take (v2.1.length - 2)),(Lt.Instr.mk (z6.1) v2.2.Dst (v2.1.getD 1 default) [] [] []))))) else ((0:Int)<=1/\(1<=v2.1.length/\v2.1.length<=v2.1.length)/\J7 (((v2.1.drop 1).take (v2.1.length - 1)),(Lt.Instr.mk (z6.1) v2.2.Dst v2.2.Name [] [] [])))))) (fun v8=>have z11:=(((Lt.sArgs v8.1 false).1).length:Int); have z7:=([(Lt.Instr.mk v8.2.Op v8.2.Dst v8.2.Name ((Lt.sArgs v8.1 false).1) [] [])]:List Lt.Instr); have z12:=(z8.Code).length+z7.length<=4611686018427387904/\((z8.Code).length+z7.length)*112<=140737488355328; have z4:=(Lt.Read.mk (Lt.Program.mk a0_r.P.SSA a0_r.P.Classes a0_r.P.Globals a0_r.P.Externs (a0_r.P.Funcs.set z5.toNat (Lt.Func.mk (z2.Name) (z2.Result) (z2.Params) (z2.Vars) ((z2.Blocks).set z3.toNat (Lt.Block.mk (z8.Name) (z8.Phis) ((z8.Code)++z7) (Lt.Term.mk ((z8.End).Kind) ((z8.End).A) ((z8.End).To) ((z8.End).N))))))) a0_r.Where (IntKind.i64.wrap (a0_r.Long+1))); (Lt.preWords v8.1 false)/\joinP (α:=Bool) (fun J11=>if (!((Lt.sArgs v8.1 false).2))=true then (J11 true) else (if (((Lt.rOf (z6.1)).1).Named)=true then (if (!(Lt.sNames [v8.2.Name]))=true then (J11 true) else (if (decide (z11 < ((Lt.rOf (z6.1)).1).Least))=true then (J11 true) else (J11 (decide (((Lt.rOf (z6.1)).1).Most<z11))))) else (if (decide (z11 < ((Lt.rOf (z6.1)).1).Least))=true then (J11 true) else (J11 (decide (((Lt.rOf (z6.1)).1).Most<z11)))))) (fun v12=>if v12=true then (KK (3,a0_r)) else (if (decide (1024<=a0_r.Long))=true then (KK (2,a0_r)) else ((a0_r.P.Funcs.length<=4611686018427387904->((0:Int)<=z5/\z5 < ((a0_r.P.Funcs.length:Nat):Int))/\((z2.Blocks).length<=4611686018427387904->joinP (α:=Lt.Read) (fun J13=>have z1:=(z12/\z9/\z5.toNat<a0_r.P.Funcs.length/\z3.toNat < (z2.Blocks).length/\z5.toNat=z5.toNat/\z3.toNat=z3.toNat/\J13 z4); ((z9/\z1/\z1)/\(z9/\z12/\z9/\z5.toNat<a0_r.P.Funcs.length/\z3.toNat < (z2.Blocks).length/\z5.toNat=z5.toNat/\z3.toNat=z3.toNat/\J13 z4))/\(z9/\(z1/\z1)/\(z1/\(z1/\z1))/\(z1/\z1))/\(z9/\z1/\z1)) (fun v14=>joinP (α:=Lt.Read) (fun J15=>joinP (α:=Bool) (fun J17=>if (decide (z6.1=31))=true then (J17 true) else (J17 (decide (z6.1=34)))) (fun v18=>if v18=true then (J15 (Lt.Read.mk v14.P 7 v14.Long)) else (J15 (Lt.Read.mk v14.P 6 v14.Long)))) (fun v16=>KK (0,v16))))))))))))
def F_sLineM (a0_r:Lt.Read) (a1_l:List (List UInt8)) (a2_first:Bool) (KK:((Int)×Lt.Read)->Prop):Prop:=
 have z1:=Lt.Read.mk (((Lt.sHeadM a0_r a1_l).2).P) (((Lt.sHeadM a0_r a1_l).2).Where) (((Lt.sHeadM a0_r a1_l).2).Long); joinP (α:=Bool) (fun J1=>(a1_l.length<=4611686018427387904->if (decide (2 < (a1_l.length:Int)))=true then (((0:Int)<=1/\1<a1_l.length)/\J1 (decide ((a1_l.getD 1 default)=[61]))) else (J1 false))) (fun v2=>if v2=true then ((Lt.preRead a0_r a1_l)/\KK (((Lt.sCodeM a0_r a1_l).1),(Lt.Read.mk (((Lt.sCodeM a0_r a1_l).2).P) (((Lt.sCodeM a0_r a1_l).2).Where) (((Lt.sCodeM a0_r a1_l).2).Long)))) else (((0:Int)<=0/\0<a1_l.length)/\if (decide ((a1_l.getD 0 default)=[115,115,97]))=true then (joinP (α:=Bool) (fun J3=>if (!a2_first)=true then (J3 true) else (J3 (!decide ((a1_l.length:Int)=1)))) (fun v4=>if v4=true then (KK (3,a0_r)) else (KK (0,(Lt.Read.mk (Lt.Program.mk true a0_r.P.Classes a0_r.P.Globals a0_r.P.Externs a0_r.P.Funcs) a0_r.Where a0_r.Long))))) else ((Lt.preRead a0_r a1_l)/\joinP (α:=Bool×Int×Lt.Read) (fun J5=>if (!((Lt.sHeadM a0_r a1_l).1.1))=true then ((Lt.preRead z1 a1_l)/\J5 ((Lt.sPartM z1 a1_l).1.1,(Lt.sPartM z1 a1_l).1.2,(Lt.Read.mk (((Lt.sPartM z1 a1_l).2).P) (((Lt.sPartM z1 a1_l).2).Where) (((Lt.sPartM z1 a1_l).2).Long)))) else (J5 ((Lt.sHeadM a0_r a1_l).1.1,(Lt.sHeadM a0_r a1_l).1.2,z1))) (fun v6=>have z2:=Lt.sStateM v6.2.2 a1_l; joinP (α:=Bool×Int×Lt.Read) (fun J7=>if (!v6.1)=true then ((Lt.preRead v6.2.2 a1_l)/\J7 (z2.1.1,z2.1.2,(Lt.Read.mk ((z2.2).P) ((z2.2).Where) ((z2.2).Long)))) else (J7 (v6.1,v6.2.1,v6.2.2))) (fun v8=>joinP (α:=Int×Lt.Read) (fun J9=>if (!v8.1)=true then ((Lt.preRead v8.2.2 a1_l)/\J9 ((Lt.sCodeM v8.2.2 a1_l).1,(Lt.Read.mk (((Lt.sCodeM v8.2.2 a1_l).2).P) (((Lt.sCodeM v8.2.2 a1_l).2).Where) (((Lt.sCodeM v8.2.2 a1_l).2).Long)))) else (J9 (v8.2.1,v8.2.2))) (fun v10=>KK (v10.1,v10.2)))))))
def F_sSplit (a0_s:List UInt8) (KK:(List Lt.RLine×Int×Int)->Prop):Prop:=
 (a0_s.length<=4611686018427387904->if (decide (4194304 < (a0_s.length:Int)))=true then (KK ([],0,2)) else (loopP (α:=List Lt.RLine×List (List UInt8)×List UInt8×Int×Bool×Bool×Int) (fun R1 v2=>have z3:=([(a0_s.getD v2.2.2.2.2.2.2.toNat 0)]:List UInt8); have z2:=(((a0_s.getD v2.2.2.2.2.2.2.toNat 0).toNat:Nat):Int); have z1:=((0:Int)<=v2.2.2.2.2.2.2/\v2.2.2.2.2.2.2.toNat<a0_s.length); (a0_s.length<=4611686018427387904->if (decide (v2.2.2.2.2.2.2<=(a0_s.length:Int)))=true then (joinP (α:=List Lt.RLine×List (List UInt8)×List UInt8×Int×Bool×Bool) (fun J3=>joinP (α:=Bool) (fun J5=>(a0_s.length<=4611686018427387904->if (decide (v2.2.2.2.2.2.2=(a0_s.length:Int)))=true then (J5 true) else (z1/\J5 (decide (z2=(((10:UInt8).toNat:Nat):Int)))))) (fun v6=>joinP (α:=Bool) (fun J7=>joinP (α:=Bool) (fun J9=>if (!v6)=true then (z1/\J9 (decide (z2=(((59:UInt8).toNat:Nat):Int)))) else (J9 false)) (fun v10=>if v10=true then (J7 true) else (J7 v2.2.2.2.2.1))) (fun v8=>joinP (α:=List (List UInt8)×List UInt8×Bool) (fun J11=>joinP (α:=Bool) (fun J13=>if v6=true then (J13 true) else (if v8=true then (J13 true) else (z1/\if (decide (z2=(((32:UInt8).toNat:Nat):Int)))=true then (J13 true) else (z1/\J13 (decide (z2=(((9:UInt8).toNat:Nat):Int))))))) (fun v14=>if v14=true then (joinP (α:=List (List UInt8)) (fun J15=>(v2.2.2.1.length<=4611686018427387904->if (decide (0 < (v2.2.2.1.length:Int)))=true then ((v2.2.1.length+([v2.2.2.1]:List (List UInt8)).length<=4611686018427387904/\(v2.2.1.length+([v2.2.2.1]:List (List UInt8)).length)*16<=140737488355328)/\J15 (v2.2.1++([v2.2.2.1]:List (List UInt8)))) else (J15 v2.2.1))) (fun v16=>J11 (v16,[],v2.2.2.2.2.2.1))) else (joinP (α:=Bool) (fun J17=>if v2.2.2.2.2.2.1=true then (J17 true) else (z1/\if (decide (z2 < (((33:UInt8).toNat:Nat):Int)))=true then (J17 true) else (z1/\J17 (decide ((((126:UInt8).toNat:Nat):Int)<z2))))) (fun v18=>z1/\(v2.2.2.1.length+z3.length<=4611686018427387904/\(v2.2.2.1.length+z3.length)*1<=140737488355328)/\J11 (v2.2.1,(v2.2.2.1++z3),v18))))) (fun v12=>have z4:=([(Lt.RLine.mk v2.2.2.2.1 v12.1)]:List Lt.RLine); if v6=true then (if v12.2.2=true then (KK ([],v2.2.2.2.1,3)) else (joinP (α:=List Lt.RLine) (fun J19=>(v12.1.length<=4611686018427387904->if (decide (0 < (v12.1.length:Int)))=true then ((v2.1.length+z4.length<=4611686018427387904/\(v2.1.length+z4.length)*32<=140737488355328)/\J19 (v2.1++z4)) else (J19 v2.1))) (fun v20=>J3 (v20,[],v12.2.1,(IntKind.i64.wrap (v2.2.2.2.1+1)),false,v12.2.2)))) else (J3 (v2.1,v12.1,v12.2.1,v2.2.2.2.1,v8,v12.2.2)))))) (fun v4=>R1 (v4.1,v4.2.1,v4.2.2.1,v4.2.2.2.1,v4.2.2.2.2.1,v4.2.2.2.2.2,(IntKind.i64.wrap (v2.2.2.2.2.2.2+1))))) else (KK (v2.1,0,0)))) ([],[],[],1,false,false,0)))
def F_sParse (a0_s:List UInt8) (KK:(Lt.Program×Int×Int)->Prop):Prop:=
 have z2:=Lt.Program.mk false [] [] [] []; if (!decide ((Lt.sSplit a0_s).2.2=0))=true then (KK (z2,(Lt.sSplit a0_s).2.1,(Lt.sSplit a0_s).2.2)) else (loopP (α:=Int×Lt.Read) (fun R1 v2=>have z3:=((Lt.sSplit a0_s).1).getD v2.1.toNat default; have z1:=Lt.sLineM v2.2 (z3.Words) (decide (v2.1=0)); (((Lt.sSplit a0_s).1).length<=4611686018427387904->if (decide (v2.1 < (((Lt.sSplit a0_s).1).length:Int)))=true then (((0:Int)<=v2.1/\v2.1.toNat < ((Lt.sSplit a0_s).1).length)/\(Lt.preLineM v2.2 (z3.Words) (decide (v2.1=0)))/\if (!decide (z1.1=0))=true then (((0:Int)<=v2.1/\v2.1.toNat < ((Lt.sSplit a0_s).1).length)/\KK (z2,z3.N,z1.1)) else (R1 ((IntKind.i64.wrap (v2.1+1)),(Lt.Read.mk ((z1.2).P) ((z1.2).Where) ((z1.2).Long))))) else (joinP (α:=Bool) (fun J3=>if (decide (v2.2.Where<=2))=true then (J3 (!true)) else (J3 (!(decide (v2.2.Where=9))))) (fun v4=>if v4=true then (KK (z2,0,3)) else (KK (v2.2.P,0,0)))))) (0,(Lt.Read.mk z2 0 0)))
def F_rProg (a0_p:Lt.Program) (KK:Bool->Prop):Prop:=
 (Lt.preRLines a0_p)/\if (decide ((Lt.sParse (Lt.rLines a0_p)).2.2=0))=true then (KK (Lt.Same a0_p ((Lt.sParse (Lt.rLines a0_p)).1))) else (KK false)
def F_rText (a0_p:Lt.Program) (KK:(List UInt8×Int)->Prop):Prop:=
 (Lt.preRLines a0_p)/\if (!(Lt.rProg a0_p))=true then (KK (([]:List UInt8),1)) else ((Lt.preRLines a0_p)/\KK ((Lt.rLines a0_p),0))
def F_ShowTexts (a0_p:Lt.Program) (KK:Bool->Prop):Prop:=
 joinP (α:=Bool) (fun J1=>if (!Lt.awake)=true then (J1 true) else ((Lt.preFew a0_p 20000)/\J1 (!(Lt.Few a0_p 20000)))) (fun v2=>if v2=true then (KK Lt.awake) else ((Lt.preText a0_p)/\(Lt.preRLines a0_p)/\joinP (α:=Bool) (fun J3=>if (decide ((Lt.showText a0_p).1=(Lt.rText a0_p).1))=true then (if (decide ((Lt.showText a0_p).2=(Lt.rText a0_p).2))=true then (J3 ((Lt.showRight a0_p)==(decide ((Lt.rText a0_p).2=0)))) else (J3 false)) else (J3 false)) (fun v4=>KK v4)))
end Go.Am
end

section
namespace Go.Am
open Go
set_option linter.unusedVariables false
set_option linter.unusedSimpArgs false
theorem law_rCode (out:List UInt8) (x:Lt.Instr) (hp:Lt.preRCode out x) (KK:List UInt8->Prop) (h:KK (Lt.rCode out x)):F_rCode out x KK:=by
 obtain ⟨⟨okA,okF,okO⟩,okAt,hp⟩:=hp
 unfold Lt.rCodeT Lt.room at hp
 simp only [List.length_append] at hp
 unfold F_rCode; dsimp only; (try simp only [jn_app,jn_and,jn_imp,jval,bor,band,bnand,bimp,and_self])
 intro J hJ
 have hw:=lnT_ge (Lt.rWords x)
 have j1:J (if (Lt.rOf x.Op).1.Dst=true then [x.Dst,[61]] else []):=by
  refine hJ _ ?_
  generalize hv:(if (Lt.rOf x.Op).1.Dst=true then [x.Dst,[61]] else [])=v
  have hh:Lt.rHead x=v++[(Lt.rOf x.Op).1.Word]:=by rw [<- hv]; rfl
  have hvl:v.length<=2:=by rw [<- hv]; split <;> simp
  refine ⟨⟨by simp only [List.length_cons,List.length_nil]; omega,by simp only [List.length_cons,List.length_nil]; omega⟩,?_⟩
  rw [<- hh]
  have hhl:(Lt.rHead x).length<=3:=by rw [hh]; simp; omega
  intro J2 hJ2
  have j2:J2 (Lt.rWords x):=by
   refine hJ2 _ ⟨by unfold Lt.preRPut Lt.room; omega,?_⟩
   refine app_loop x.Frames (fun f=>Lt.lnT (Lt.rFrameW f)) (Lt.rPut out (Lt.rWords x)) _ (fun R i b hl hi hb ih=>?_) (fun R hl=>?_)
   ·simp only [lt_t hi,if_true,Int.toNat_natCast]
    try dsimp +instances only [Int.toNat_natCast]
    have o:(0:Int)<=(i:Int)/\i<x.Frames.length:=⟨Int.natCast_nonneg i,hi⟩
    have pN:Lt.preNum (x.Frames.getD i default).At:=getD_list okAt hi
    simp only [o,pN,and_self,true_and]; (try simp only [jn_app,jn_and,jn_imp,jval,bor,band,bnand,bimp,and_self])
    have fl:=flat_le (fun f=>Lt.lnT (Lt.rFrameW f)) x.Frames hi
    have okf:=getD_list okF hi
    generalize x.Frames.getD i default=f at fl okf pN ih ⊢
    have hbl:b.length+(Lt.lnT (Lt.rFrameW f)).length<=1099511627776:=by
     rw [hb]
     simp only [Lt.rPut,List.length_append]
     omega
    have hfw:=lnT_ge (Lt.rFrameW f)
    have hfl:(Lt.rFrameW f).length=4+2*f.Vars.length:=by
     simp only [Lt.rFrameW,List.length_append,flat2,List.length_cons,List.length_nil]
    refine app_loop f.Vars (fun v=>[v.Name,Lt.rWord v.A]) _ _ (fun R2 j w hl2 hj hw ih2=>?_) (fun R2 hl2=>?_)
    ·simp only [lt_t hj,if_true,Int.toNat_natCast]
     try dsimp +instances only [Int.toNat_natCast]
     have o2:(0:Int)<=(j:Int)/\j<f.Vars.length:=⟨Int.natCast_nonneg j,hj⟩
     have pA:Lt.prePut (f.Vars.getD j default).A:=okf.2 _ (mem_getD _ hj)
     simp only [o2,pA,and_self,true_and]; (try simp only [jn_app,jn_and,jn_imp,jval,bor,band,bnand,bimp,and_self])
     refine ⟨?_,ih2⟩
     rw [hw]
     simp only [List.length_append,flat2,List.length_cons,List.length_nil,List.length_take]
     omega
    ·simp only [lt_f,Bool.false_eq_true,if_false]
     refine ⟨?_,ih⟩
     unfold Lt.preRPut Lt.room
     exact hbl
   ·simp only [lt_f,Bool.false_eq_true,if_false]
    refine app_loop x.Objs (fun o=>Lt.lnT (Lt.rVirtW o)) _ _ (fun R i b hl hi hb ih=>?_) (fun R hl=>?_)
    ·simp only [lt_t hi,if_true,Int.toNat_natCast]
     try dsimp +instances only [Int.toNat_natCast]
     have fl:=flat_le (fun o=>Lt.lnT (Lt.rVirtW o)) x.Objs hi
     have oko:=getD_list okO hi
     have o:(0:Int)<=(i:Int)/\i<x.Objs.length:=⟨Int.natCast_nonneg i,hi⟩
     refine ⟨o,o,?_⟩
     generalize x.Objs.getD i default=v at fl oko ih ⊢
     have hbl:b.length+(Lt.lnT (Lt.rVirtW v)).length<=1099511627776:=by
      rw [hb]
      simp only [Lt.rPut,List.length_append]
      omega
     have hfw:=lnT_ge (Lt.rVirtW v)
     have hfl:(Lt.rVirtW v).length=2+v.Vals.length:=by
      simp only [Lt.rVirtW,List.length_append,List.length_map,List.length_cons,List.length_nil]
     refine ⟨⟨oko,?_⟩,?_,ih⟩
     ·unfold Lt.room
      simp only [List.length_cons,List.length_nil]
      omega
     ·unfold Lt.preRPut Lt.room
      exact hbl
    ·simp only [lt_f,Bool.false_eq_true,if_false]
     unfold Lt.rCode Lt.rCodeT at h
     simp only [Lt.rPut,List.append_assoc] at h ⊢
     exact h
  have hlen:=hw
  refine ifk (fun hc=>?_) (fun hc=>?_)
  ·have hc':(x.Op=26\/x.Op=27)/\x.Args≠[]:=by
    cases hx:x.Args with
    | nil=>rw [hx] at hc; simp at hc
    | cons a r=>
     rw [hx] at hc
     refine ⟨?_,by simp⟩
     by_cases h26:x.Op=26
     ·exact .inl h26
     ·by_cases h27:x.Op=27
      ·exact .inr h27
      ·simp [h26,h27] at hc
   have hne:1<=x.Args.length:=by
    have:=hc'.2
    cases hx:x.Args with
    | nil=>exact absurd hx this
    | cons a r=>simp
   have e:Lt.rWords x=Lt.rHead x++(x.Args.take 1).map Lt.rWord++[x.Name]++(x.Args.drop 1).map Lt.rWord:=by
    unfold Lt.rWords; rw [if_pos hc']
   have el:=congrArg List.length e
   simp only [List.length_append,List.length_map,List.length_take,List.length_drop,List.length_cons,List.length_nil] at el
   have t1:List.take (1 - 0) (List.drop 0 x.Args)=x.Args.take 1:=rfl
   have t2:List.take (x.Args.length - 1) (List.drop 1 x.Args)=x.Args.drop 1:=List.take_of_length_le (by simp)
   rw [t1,t2]
   refine ⟨by omega,⟨by omega,hne⟩,⟨fun a ha=>okA a (List.mem_of_mem_take ha),?_⟩,?_,by omega,⟨hne,Nat.le_refl _⟩,⟨fun a ha=>okA a (List.mem_of_mem_drop ha),?_⟩,?_⟩
   ·unfold Lt.room; rw [List.length_take]; omega
   ·simp only [Lt.rArgs,List.length_append,List.length_map,List.length_take,List.length_cons,List.length_nil]; omega
   ·unfold Lt.room
    simp only [Lt.rArgs,List.length_append,List.length_map,List.length_take,List.length_drop,List.length_cons,List.length_nil]; omega
   ·rw [e] at j2; exact j2
  ·have hc':¬ ((x.Op=26\/x.Op=27)/\x.Args≠[]):=by
    rintro ⟨h1,h2⟩
    have:0<x.Args.length:=List.length_pos_iff.2 h2
    refine hc ?_
    rcases h1 with h1 | h1 <;> simp [h1] <;> omega
   have e:Lt.rWords x=Lt.rHead x++(if (Lt.rOf x.Op).1.Named then [x.Name] else [])++x.Args.map Lt.rWord:=by
    unfold Lt.rWords; rw [if_neg hc']
   have el:=congrArg List.length e
   simp only [List.length_append,List.length_map] at el
   intro J3 hJ3
   have j3:J3 (Lt.rHead x++(if (Lt.rOf x.Op).1.Named then [x.Name] else [])):=by
    refine hJ3 _ ⟨⟨okA,?_⟩,?_⟩
    ·unfold Lt.room; simp only [List.length_append]; omega
    ·rw [e] at j2; exact j2
   refine ifk (fun hn=>⟨?_,?_⟩) (fun hn=>?_)
   ·simp only [List.length_cons,List.length_nil]; omega
   ·rw [if_pos hn] at j3; exact j3
   ·rw [if_neg hn,List.append_nil] at j3; exact j3
 exact ifk (fun hc=>⟨by simp,by rw [if_pos hc] at j1; exact j1⟩) (fun hc=>by rw [if_neg hc] at j1; exact j1)
theorem law_rLines (p:Lt.Program) (hp:Lt.preRLines p) (KK:List UInt8->Prop) (h:KK (Lt.rLines p)):F_rLines p KK:=by
 obtain ⟨okP,okE,okAt,hp⟩:=hp
 unfold F_rLines; dsimp only; (try simp only [jn_app,jn_and,jn_imp,jval,bor,band,bnand,bimp,and_self])
 unfold Lt.rLines at h hp
 unfold Lt.room at hp
 simp only [List.length_append] at hp
 intro J hJ
 have j1:J (if p.SSA=true then Lt.lnT [[115,115,97]] else []):=by
  refine hJ _ ?_
  generalize (if p.SSA=true then Lt.lnT [[115,115,97]] else [])=s at h hp
  refine app_loop p.Classes Lt.rClassT s _ (fun R i b hl hi hb ih=>?_) (fun R hl=>?_)
  ·simp only [lt_t hi,if_true,Int.toNat_natCast]
   try dsimp +instances only [Int.toNat_natCast]
   have o:(0:Int)<=(i:Int)/\i<p.Classes.length:=⟨Int.natCast_nonneg i,hi⟩
   have fl:=flat_le Lt.rClassT p.Classes hi
   generalize p.Classes.getD i default=c at fl ih ⊢
   have hbl:b.length+(Lt.rClassT c).length<=1099511627776:=by rw [hb,List.length_append]; omega
   simp only [Lt.rClassT,List.length_append] at hbl
   have p1:Lt.preRPut b [[99,108,97,115,115],c.Name]:=by unfold Lt.preRPut Lt.room; omega
   have p2:Lt.preRVars (Lt.rPut b [[99,108,97,115,115],c.Name]) [102,105,101,108,100] c.Fields:=by
    unfold Lt.preRVars Lt.room; simp only [Lt.rPut,List.length_append]; omega
   simp only [o,p1,p2,and_self,true_and]; (try simp only [jn_app,jn_and,jn_imp,jval,bor,band,bnand,bimp,and_self])
   simp only [Lt.rClassT,<- List.append_assoc] at ih
   exact ih
  ·simp only [lt_f,Bool.false_eq_true,if_false]
   refine ⟨by unfold Lt.preRVars Lt.room; simp only [List.length_append]; omega,?_⟩
   refine app_loop p.Externs Lt.rExternT _ _ (fun R i b hl hi hb ih=>?_) (fun R hl=>?_)
   ·simp only [lt_t hi,if_true,Int.toNat_natCast]
    try dsimp +instances only [Int.toNat_natCast]
    have o:(0:Int)<=(i:Int)/\i<p.Externs.length:=⟨Int.natCast_nonneg i,hi⟩
    have fl:=flat_le Lt.rExternT p.Externs hi
    have pN:Lt.preNum (p.Externs.getD i default).N:=getD_list okE hi
    generalize p.Externs.getD i default=c at fl ih pN ⊢
    have p1:Lt.preRPut b [[101,120,116,101,114,110],c.Name,Lt.rNum c.N]:=by
     unfold Lt.preRPut Lt.room
     rw [hb]
     simp only [Lt.rVars,List.length_append]
     unfold Lt.rVarsT at hp
     have:(Lt.rExternT c)=Lt.lnT [[101,120,116,101,114,110],c.Name,Lt.rNum c.N]:=rfl
     rw [<- this]
     omega
    simp only [o,p1,pN,and_self,true_and]; (try simp only [jn_app,jn_and,jn_imp,jval,bor,band,bnand,bimp,and_self])
    exact ih
   ·simp only [lt_f,Bool.false_eq_true,if_false]
    refine app_loop p.Funcs Lt.rFuncT _ _ (fun R i b hl hi hb ih=>?_) (fun R hl=>?_)
    ·simp only [lt_t hi,if_true,Int.toNat_natCast]
     try dsimp +instances only [Int.toNat_natCast]
     have o:(0:Int)<=(i:Int)/\i<p.Funcs.length:=⟨Int.natCast_nonneg i,hi⟩
     have fl:=flat_le Lt.rFuncT p.Funcs hi
     have okf:=getD_list okP hi
     have okat:=getD_list okAt hi
     refine ⟨o,?_⟩
     generalize p.Funcs.getD i default=f at fl okf okat ih ⊢
     have hbl:b.length+(Lt.rFuncT f).length<=1099511627776:=by
      rw [hb]
      unfold Lt.rVarsT at hp
      simp only [Lt.rVars,List.length_append]
      omega
     simp only [Lt.rFuncT,List.length_append] at hbl
     refine ⟨by unfold Lt.preRPut Lt.room; omega,by unfold Lt.preRVars Lt.room; simp only [Lt.rPut,List.length_append]; omega,?_,?_⟩
     ·unfold Lt.preRVars Lt.room
      unfold Lt.rVarsT at hbl ⊢
      simp only [Lt.rVars,Lt.rPut,List.length_append]; omega
     ·refine app_loop f.Blocks Lt.rBlockT _ _ (fun R2 j b2 hl2 hj hb2 ih2=>?_) (fun R2 hl2=>?_)
      ·simp only [lt_t hj,if_true,Int.toNat_natCast]
       try dsimp +instances only [Int.toNat_natCast]
       have o2:(0:Int)<=(j:Int)/\j<f.Blocks.length:=⟨Int.natCast_nonneg j,hj⟩
       have fl2:=flat_le Lt.rBlockT f.Blocks hj
       have okb:=getD_list okf hj
       have okbt:=getD_list okat hj
       simp only [o2,and_self,true_and]
       generalize f.Blocks.getD j default=k at fl2 okb okbt ih2 ⊢
       have hb2l:b2.length+(Lt.rBlockT k).length<=1099511627776:=by
        rw [hb2]
        unfold Lt.rVarsT at hbl
        simp only [Lt.rVars,Lt.rPut,List.length_append]
        omega
       simp only [Lt.rBlockT,List.length_append] at hb2l
       refine ⟨by unfold Lt.preRPut Lt.room; omega,?_⟩
       refine app_loop k.Phis (fun x=>Lt.lnT (Lt.rPhiW x)) _ _ (fun R3 q b3 hl3 hq hb3 ih3=>?_) (fun R3 hl3=>?_)
       ·simp only [lt_t hq,if_true,Int.toNat_natCast]
        try dsimp +instances only [Int.toNat_natCast]
        have o3:(0:Int)<=(q:Int)/\q<k.Phis.length:=⟨Int.natCast_nonneg q,hq⟩
        have fl3:=flat_le (fun x=>Lt.lnT (Lt.rPhiW x)) k.Phis hq
        have okx:=getD_list okb.1 hq
        simp only [o3,and_self,true_and]
        generalize k.Phis.getD q default=x at fl3 okx ih3 ⊢
        have hb3l:b3.length+(Lt.lnT (Lt.rPhiW x)).length<=1099511627776:=by
         rw [hb3]
         simp only [Lt.rPut,List.length_append]
         omega
        have hfw:=lnT_ge (Lt.rPhiW x)
        have hfl:(Lt.rPhiW x).length=2+2*x.Ins.length:=by
         simp only [Lt.rPhiW,List.length_append,flat2,List.length_cons,List.length_nil]
        refine app_loop x.Ins (fun i=>[i.Block,Lt.rWord i.A]) _ _ (fun R4 t w hl4 ht hw ih4=>?_) (fun R4 hl4=>?_)
        ·simp only [lt_t ht,if_true,Int.toNat_natCast]
         try dsimp +instances only [Int.toNat_natCast]
         have o4:(0:Int)<=(t:Int)/\t<x.Ins.length:=⟨Int.natCast_nonneg t,ht⟩
         have pA:Lt.prePut (x.Ins.getD t default).A:=okx.2 _ (mem_getD _ ht)
         simp only [o4,pA,and_self,true_and]; (try simp only [jn_app,jn_and,jn_imp,jval,bor,band,bnand,bimp,and_self])
         refine ⟨?_,ih4⟩
         rw [hw]
         simp only [List.length_append,flat2,List.length_cons,List.length_nil,List.length_take]
         omega
        ·simp only [lt_f,Bool.false_eq_true,if_false]
         refine ⟨?_,ih3⟩
         unfold Lt.preRPut Lt.room
         exact hb3l
       ·simp only [lt_f,Bool.false_eq_true,if_false]
        refine app_loop k.Code Lt.rCodeT _ _ (fun R4 q b4 hl4 hq hb4 ih4=>?_) (fun R4 hl4=>?_)
        ·simp only [lt_t hq,if_true,Int.toNat_natCast]
         try dsimp +instances only [Int.toNat_natCast]
         have fl4:=flat_le Lt.rCodeT k.Code hq
         have okc:=getD_list okb.2.1 hq
         have okct:=getD_list okbt hq
         refine ⟨⟨Int.natCast_nonneg q,hq⟩,⟨okc,okct,?_⟩,ih4⟩
         rw [hb4]
         unfold Lt.room
         simp only [Lt.rPut,List.length_append]
         omega
        ·simp only [lt_f,Bool.false_eq_true,if_false]
         refine ⟨(⟨okb.2.2,?_⟩:Lt.preREnds _ k.End),?_⟩
         ·unfold Lt.room
          simp only [Lt.rPut,List.length_append]
          omega
         ·simp only [Lt.rBlockT,<- List.append_assoc] at ih2
          exact ih2
      ·simp only [lt_f,Bool.false_eq_true,if_false]
       simp only [Lt.rFuncT,<- List.append_assoc] at ih
       exact ih
    ·simp only [lt_f,Bool.false_eq_true,if_false]
     unfold Lt.rVarsT at h
     exact h
 exact ifk (fun hc=>⟨by unfold Lt.preRPut Lt.room; decide,by rw [if_pos hc] at j1; exact j1⟩) (fun hc=>by rw [if_neg hc] at j1; exact j1)
end Go.Am
end

section
namespace Go.Am
open Go
set_option linter.unusedVariables false
set_option linter.unusedSimpArgs false
theorem loop_len {α:Type} {P:Prop} {body:(α->Prop)->α->Prop} {x:α} (h:P->loopP body x):loopP (fun R v=>P->body R v) x:=by
 by_cases hp:P
 ·have e:(fun (R:α->Prop) (v:α)=>P->body R v)=body:=by
   funext R v
   exact propext ⟨fun h=>h hp,fun h _=>h⟩
  rw [e]; exact h hp
 ·exact ⟨1,fun h=>absurd h hp⟩
theorem law_sHalf (n:Int) (KK:Int->Prop) (h:KK (Lt.sHalf n)):F_sHalf n KK:=h
theorem law_sLimit (n most:Int) (KK:Int->Prop) (h:KK (Lt.sLimit n most)):F_sLimit n most KK:=by
 unfold F_sLimit
 unfold Lt.sLimit at h
 refine ifk (fun hc=>?_) (fun hc=>?_)
 ·simpa [show most<=n by simpa using hc] using h
 ·simpa [show ¬ most<=n by simpa using hc] using h
theorem law_sKind (w:List UInt8) (KK:Bool->Prop) (h:KK (Lt.sKind w)):F_sKind w KK:=by
 unfold F_sKind; (try simp only [jn_app,jn_and,jn_imp,jn_const,jn_ite,jval,bor,band,bnand,bimp,and_self])
 refine kk h ?_
 unfold Lt.sKind
 grind
theorem law_sNames (l:List (List UInt8)) (KK:Bool->Prop) (h:KK (Lt.sNames l)):F_sNames l KK:=by
 unfold F_sNames
 refine loop_len (fun hl=>all_loop l hl Lt.rName true KK _ (fun R i hi ih hF=>?_) (fun R h=>?_) (kk h (by unfold Lt.sNames; simp)))
 ·simp only [lt_t hi,if_true,Int.toNat_natCast]
  refine ⟨⟨Int.natCast_nonneg i,hi⟩,?_⟩
  grind
 ·simp only [lt_f,Bool.false_eq_true,if_false]; exact h
theorem law_sTyped (l:List (List UInt8)) (KK:Bool->Prop) (h:KK (Lt.sTyped l)):F_sTyped l KK:=by
 unfold F_sTyped; (try simp only [jn_app,jn_and,jn_imp,jval,bor,band,bnand,bimp,and_self,up_lr,up_l,up_r])
 refine fun hl=>⟨fun hc=>⟨Int.le_refl 0 |> fun _=>by decide,by grind⟩,?_⟩
 refine ⟨fun _ _=>⟨by decide,by grind⟩,kk h ?_⟩
 unfold Lt.sTyped Lt.sNames
 have d:(default:List UInt8)=[]:=rfl
 grind
theorem law_sOp (w:List UInt8) (KK:Int×Bool->Prop) (h:KK (Lt.sOp w)):F_sOp w KK:=by
 unfold F_sOp
 have hg:gw.length=35:=rfl
 have key:∀ k i,i+k=35->KK (Lt.sOpG w (gw.drop i) (i:Int))->loopN (fun (R1:Int->Prop) v2=>if (decide (v2<=34))=true then (((0:Int)<=v2/\v2 < ((35:Nat):Int))/\v2.toNat<gw.length/\if (decide ((gw.getD v2.toNat default)=w))=true then (KK (v2,true)) else (R1 (IntKind.i64.wrap (v2+1)))) else (KK (0,false))) (k+1) (i:Int):=by
  intro k
  induction k with
  | zero=>
   intro i hi h
   have e:i=35:=by omega
   subst e
   exact h
  | succ k ih=>
   intro i hi h
   have hlt:i<gw.length:=by omega
   rw [List.drop_eq_getElem_cons hlt] at h
   have e:gw.getD i default=gw[i]:=by rw [List.getD,List.getElem?_eq_getElem hlt]; rfl
   rw [<- e] at h
   show (if (decide ((i:Int)<=34))=true then _ else _)
   rw [if_pos (by simp; omega)]
   simp only [Int.toNat_natCast]
   refine ⟨⟨by omega,by omega⟩,hlt,?_⟩
   simp only [Lt.sOpG] at h
   refine ifk (fun hc=>?_) (fun hc=>?_)
   ·rw [if_pos (by simpa using hc)] at h; exact h
   ·rw [if_neg (by simpa using hc)] at h
    rw [wrap_succ (by omega)]
    exact ih (i+1) (by omega) (by simpa using h)
 exact ⟨35,key 34 1 rfl h⟩
theorem foldl_snoc {α β:Type} (f:β->α->β) (b:β) (l:List α) (x:α):(l++[x]).foldl f b=f (l.foldl f b) x:=by simp
theorem numD_step (s:List UInt8) (i:Nat) (hi:i<s.length) (h30:i < 30) :
  (if s.getD 0 0=45 then ((s.take (i+1)).drop 1).foldl Lt.sNumB 0 else (s.take (i+1)).foldl Lt.sNumB 0) =
  (if i=0/\s.getD 0 0=45 then (if s.getD 0 0=45 then ((s.take i).drop 1).foldl Lt.sNumB 0 else (s.take i).foldl Lt.sNumB 0)
   else Lt.sNumB (if s.getD 0 0=45 then ((s.take i).drop 1).foldl Lt.sNumB 0 else (s.take i).foldl Lt.sNumB 0) (s.getD i 0)):=by
 have e:s.take (i+1)=s.take i++[s.getD i 0]:=take_snoc s hi
 by_cases h45:s.getD 0 0=45
 ·simp only [h45,if_true,and_true]
  cases i with
  | zero=>simp
  | succ i=>
   rw [if_neg (by omega),e]
   have hl:1<=(s.take (i+1)).length:=by rw [List.length_take]; omega
   rw [List.drop_append_of_le_length hl,foldl_snoc]
 ·simp only [h45,if_false,and_false]
  rw [e,foldl_snoc]
theorem half_inR (n:Int):Lt.inR (Lt.sHalf n):=by
 have:=wf_wrap (k:=.i64) n
 simp only [Lit.wf,Bool.and_eq_true,decide_eq_true_eq] at this
 have h1:IntKind.i64.min=-9223372036854775808:=by decide
 have h2:IntKind.i64.max=9223372036854775807:=by decide
 rw [h1,h2] at this
 unfold Lt.inR Lt.sHalf
 omega
theorem law_sNum (s:List UInt8) (KK:Int×Bool->Prop) (h:KK (Lt.sNum s)):F_sNum s KK:=by
 unfold F_sNum; (try simp only [jn_app,jn_and,jn_imp,jval,bor,band,bnand,bimp,and_self,up_lr,up_l,up_r])
 refine loop_len (fun hl=>?_)
 have hb:∀ c:UInt8,decide ((((c.toNat:Nat):Int))=(((45:UInt8).toNat:Nat):Int))=decide (c=45):=fun c=>by
  by_cases hc:c=45
  ·subst hc; rfl
  ·have:c.toNat≠(45:UInt8).toNat:=fun e=>hc (UInt8.toNat_inj.1 e)
   simp only [hc,decide_false,decide_eq_false_iff_not]; omega
 simp only [hb]
 obtain ⟨g,hg0,hgs,hge⟩:∃ g:Nat->Int,g 0=0/\(∀ i,i<s.length->i < 30->g (i+1)=if i=0/\s.getD 0 0=45 then g i else Lt.sNumB (g i) (s.getD i 0))/\g (min s.length 30)=Lt.sNumD s:=by
  refine ⟨fun i=>if s.getD 0 0=45 then ((s.take i).drop 1).foldl Lt.sNumB 0 else (s.take i).foldl Lt.sNumB 0,by simp,fun i h1 h2=>numD_step s i h1 h2,?_⟩
  have e:s.take (min s.length 30)=s.take 30:=by
   rcases Nat.le_total s.length 30 with h | h
   ·rw [Nat.min_eq_left h,List.take_length,List.take_of_length_le h]
   ·rw [Nat.min_eq_right h]
  simp only [e]; rfl
 refine idx_loop (min s.length 30) (by unfold LEN; omega) g _ (fun R i hi hR=>?_) (fun R=>?_) hg0
 ·have h1:i<s.length:=by omega
  have h2:i < 30:=by omega
  have e:=hgs i h1 h2
  have hi30:decide ((i:Int) < 30)=true:=by simp; omega
  have hi0:decide ((i:Int)=0)=decide (i=0):=by simp
  simp only [lt_t h1,if_true,Bool.true_and,hi30,Int.toNat_natCast,hi0]
  refine ⟨fun _ _=>⟨by decide,by omega⟩,fun _ _=>⟨Int.natCast_nonneg i,h1⟩,?_⟩
  rw [e] at hR
  refine kk hR ?_
  by_cases hi0:i=0 <;> by_cases h45:s.getD 0 0=45 <;> simp [hi0,h45,Lt.sNumB]
 ·have hend:(decide (((min s.length 30:Nat):Int) < (s.length:Int))&&decide (((min s.length 30:Nat):Int) < 30))=false:=by
   rw [Bool.and_eq_false_iff]
   rcases Nat.le_total s.length 30 with h | h
   ·left; simp; omega
   ·right; simp; omega
  simp only [hend,Bool.false_eq_true,if_false]
  refine ⟨fun h=>h.elim,fun h=>h.elim,fun _=>⟨fun hc=>⟨by decide,by simpa using hc⟩,?_⟩⟩
  have e2:(if (decide (0 < (s.length:Int))&&decide (s.getD 0 0=45))=true then IntKind.u64.wrap (0-g (min s.length 30)) else g (min s.length 30))=(if s.getD 0 0=45 then IntKind.u64.wrap (0-Lt.sNumD s) else Lt.sNumD s):=by
   rw [hge]
   cases s with
   | nil=>simp
   | cons a r=>simp
  rw [e2]
  refine ⟨half_inR _,?_⟩
  refine kk h ?_
  unfold Lt.sNum Lt.sNumV
  grind
end Go.Am
end

section
namespace Go.Am
open Go
set_option linter.unusedVariables false
set_option linter.unusedSimpArgs false
theorem drop2_snoc (s:List UInt8) {i:Nat} (h:i+2<s.length):(s.drop 2).take (i+1)=(s.drop 2).take i++[s.getD (i+2) 0]:=by
 have h1:i < (s.drop 2).length:=by rw [List.length_drop]; omega
 have e:(s.drop 2).getD i default=s.getD (i+2) 0:=by
  rw [List.getD,List.getD,List.getElem?_drop,Nat.add_comm]; rfl
 rw [take_snoc _ h1,e]
theorem law_sFlo (s:List UInt8) (KK:Int×Bool->Prop) (h:KK (Lt.sFlo s)):F_sFlo s KK:=by
 unfold F_sFlo; (try simp only [jn_app,jn_and,jn_imp,jval,bor,band,bnand,bimp,and_self,up_lr,up_l,up_r])
 refine fun hl=>ifk (fun hc=>?_) (fun hc=>?_)
 ·refine kk h ?_
  have:¬ s.length=18:=by simp only [Bool.not_eq_true',decide_eq_false_iff_not] at hc; omega
  unfold Lt.sFlo
  rw [if_neg (by simp [this])]
 ·have h18:s.length=18:=by simp only [Bool.not_eq_true',decide_eq_false_iff_not,Decidable.not_not] at hc; omega
  refine nat_loop _ 16 (fun i x=>x=(((s.drop 2).take i).foldl Lt.sFloB 0,((i+2:Nat):Int))) (fun R i x hi hx hR=>?_) (fun R x hx=>?_) _ rfl
  ·subst hx
   have h1:i+2<s.length:=by omega
   have e:=drop2_snoc s h1
   have hc:(decide (((i+2:Nat):Int) < 18))=true:=by simp; omega
   simp only [hc,if_true,Int.toNat_natCast]
   refine ⟨fun _=>⟨Int.natCast_nonneg _,h1⟩,fun _=>by decide,?_⟩
   refine hR _ ?_
   rw [e,foldl_snoc,wrap_succ (by omega)]
   simp [Lt.sFloB]
   omega
  ·subst hx
   simp only [show (decide (((16+2:Nat):Int) < 18))=false from rfl,Bool.false_eq_true,if_false]
   refine ⟨fun h=>h.elim,fun h=>h.elim,kk h ?_⟩
   unfold Lt.sFlo Lt.sFloV
   simp only [h18,true_and]
   grind
theorem inR_0:Lt.inR 0:=by unfold Lt.inR; omega
theorem inR_num (s:List UInt8):Lt.inR (Lt.sNum s).1:=by
 unfold Lt.sNum; split
 ·exact half_inR _
 ·exact inR_0
theorem inR_flo (s:List UInt8):Lt.inR (Lt.sFlo s).1:=by
 unfold Lt.sFlo; split
 ·exact half_inR _
 ·exact inR_0
theorem try_t (c w:Bool) (A B:Prop):(if c=true then (if w=true then A else B) else B)=(if (c&&w)=true then A else B):=by
 cases c <;> cases w <;> rfl
theorem law_sArg (s:List UInt8) (KK:Lt.Arg×Bool->Prop) (h:KK (Lt.sArg s)):F_sArg s KK:=by
 have hp:∀ k n,Lt.inR n->Lt.prePut ⟨k,[],n⟩:=fun _ _ h=>h
 have hp1:Lt.prePut ⟨1,s,0⟩:=inR_0
 have n1:=hp 2 _ (inR_num s)
 have n2:=hp 3 _ (inR_flo s)
 have n3:=hp 5 _ (inR_num (s.drop 1))
 have n4:=hp 4 _ inR_0
 unfold F_sArg; dsimp only
 intro J1 hJ1 hl
 have hJ:=hJ1 (s.drop 1) ?_
 ·cases s with
  | nil=>exact hJ
  | cons a r=>
   rw [if_pos (by simp)]
   refine ⟨by decide,⟨by simp,by simp⟩,?_⟩
   simpa using hJ
 ·have b0:((0:Int)<=0/\(0:Int) < ((5:Nat):Int))=True:=by decide
  have b1:((0:Int)<=1/\(1:Int) < ((5:Nat):Int))=True:=by decide
  have b2:((0:Int)<=2/\(2:Int) < ((5:Nat):Int))=True:=by decide
  have b3:((0:Int)<=3/\(3:Int) < ((5:Nat):Int))=True:=by decide
  have b4:((0:Int)<=4/\(4:Int) < ((5:Nat):Int))=True:=by decide
  simp only [jn_app,jn_and,jn_ite,jn_const,b0,b1,b2,b3,b4,show (decide ((0:Int) < 5))=true from rfl,show (decide ((1:Int) < 5))=true from rfl,show (decide ((2:Int) < 5))=true from rfl,show (decide ((3:Int) < 5))=true from rfl,show (decide ((4:Int) < 5))=true from rfl,show (decide ((5:Int) < 5))=false from rfl,if_true,Bool.false_eq_true,if_false,hp1,n1,n2,n3,n4,true_and,try_t]
  unfold Lt.sArg Lt.sTry at h
  simpa only [apply_ite KK] using h
end Go.Am
end

section
namespace Go.Am
open Go
set_option linter.unusedVariables false
set_option linter.unusedSimpArgs false
def Bd (d:Nat):Int:=562949953421312+20001*((min d 10:Nat):Int)
theorem bd_ge (d:Nat):562949953421312<=Bd d/\Bd d<=562949953621322:=by unfold Bd; omega
def Pc (d:Nat) (b:Int) (w:Nat) (r:Int):Prop:=(20000<r/\r<=Bd d)\/(r=b+(w:Int)/\r<=20000)
def short (s:List UInt8):Prop:=s.length<=140737488355328
theorem cnt_P {α:Type} {d:Nat} (go:List α->Int->Int) (s:Int->α->Int) (w:α->Nat) (h0:∀ b,go [] b=b) (h1:∀ x r b,go (x::r) b=if b<=20000 then go r (s b x) else b) (ok:α->Prop)
  (hs:∀ b x,ok x->0<=b->b<=20000->Pc d b (w x) (s b x)):∀ (l:List α) (b:Int),(∀ x∈l,ok x)->0<=b->b<=Bd d->Pc d b (l.map w).sum (go l b)
 | [],b,_,h2,h3=>by
  rw [h0]; unfold Pc
  simp only [List.map_nil,List.sum_nil]
  omega
 | x::r,b,hok,h2,h3=>by
  rw [h1]
  by_cases hb:b<=20000
  ·rw [if_pos hb]
   have hx:=hs b x (hok x (by simp)) h2 hb
   have hB:=bd_ge d
   have h4:0<=s b x/\s b x<=Bd d:=by unfold Pc at hx; omega
   have ih:=cnt_P go s w h0 h1 ok hs r (s b x) (fun y hy=>hok y (by simp [hy])) h4.1 h4.2
   unfold Pc at hx ih ⊢
   simp only [List.map_cons,List.sum_cons]
   omega
  ·rw [if_neg hb]
   unfold Pc
   omega
theorem plus_eq {n:Int} {k:Nat} (h1:0<=n) (h2:n<=1152921504606846976) (h3:k<=1152921504606846976):Lt.plus n k=n+(k:Int):=by
 unfold Lt.plus
 exact wrap_small (by omega) (by omega)
theorem wrap_eq {n:Int} (h1:0<=n) (h2:n<=4611686018427387904):IntKind.i64.wrap n=n:=wrap_small (by omega) (by omega)
def wVar (v:Lt.Var):Nat:=v.Name.length+v.Type_.length
def wVars (l:List Lt.Var):Nat:=l.length+(l.map wVar).sum
def wArg (a:Lt.Arg):Nat:=a.S.length
def wArgs (l:List Lt.Arg):Nat:=l.length+(l.map wArg).sum
def wBind (b:Lt.Bind):Nat:=1+b.Name.length+b.A.S.length
def wFrame (f:Lt.Frame):Nat:=f.Func.length+f.Block.length+(f.Vars.map wBind).sum
def wObj (o:Lt.Virt):Nat:=o.Class.length+wArgs o.Vals
def wInstr (x:Lt.Instr):Nat:=1+x.Dst.length+x.Frames.length+x.Objs.length+x.Name.length+wArgs x.Args+(x.Frames.map wFrame).sum+(x.Objs.map wObj).sum
def wIn (b:Lt.In):Nat:=1+b.Block.length+b.A.S.length
def wPhi (x:Lt.Phi):Nat:=1+x.Dst.length+(x.Ins.map wIn).sum
def wTo (t:List UInt8):Nat:=1+t.length
def wBlock (b:Lt.Block):Nat:=1+b.Name.length+b.End.A.S.length+(b.End.To.map wTo).sum+(b.Phis.map wPhi).sum+(b.Code.map wInstr).sum
def wFunc (f:Lt.Func):Nat:=1+f.Name.length+f.Result.length+wVars f.Params+wVars f.Vars+(f.Blocks.map wBlock).sum
def wClass (c:Lt.Class):Nat:=c.Name.length+wVars c.Fields
def wExtern (x:Lt.Extern):Nat:=1+x.Name.length
def wProg (p:Lt.Program):Nat:=wVars p.Globals+(p.Classes.map wClass).sum+(p.Externs.map wExtern).sum+(p.Funcs.map wFunc).sum
def sVar (v:Lt.Var):Prop:=short v.Name/\short v.Type_
def sArg (a:Lt.Arg):Prop:=short a.S
def sBind (b:Lt.Bind):Prop:=short b.Name/\sArg b.A
def sFrame (f:Lt.Frame):Prop:=short f.Func/\short f.Block/\∀ b∈f.Vars,sBind b
def sObj (o:Lt.Virt):Prop:=short o.Class/\∀ a∈o.Vals,sArg a
def sInstr (x:Lt.Instr):Prop:=short x.Dst/\short x.Name/\(∀ a∈x.Args,sArg a)/\(∀ f∈x.Frames,sFrame f)/\∀ o∈x.Objs,sObj o
def sIn (b:Lt.In):Prop:=short b.Block/\sArg b.A
def sPhi (x:Lt.Phi):Prop:=short x.Dst/\∀ i∈x.Ins,sIn i
def sBlock (b:Lt.Block):Prop:=short b.Name/\sArg b.End.A/\(∀ t∈b.End.To,short t)/\(∀ x∈b.Phis,sPhi x)/\∀ i∈b.Code,sInstr i
def sFunc (f:Lt.Func):Prop:=short f.Name/\short f.Result/\(∀ v∈f.Params,sVar v)/\(∀ v∈f.Vars,sVar v)/\∀ b∈f.Blocks,sBlock b
def sClass (c:Lt.Class):Prop:=short c.Name/\∀ v∈c.Fields,sVar v
def sProg (p:Lt.Program):Prop:=(∀ c∈p.Classes,sClass c)/\(∀ v∈p.Globals,sVar v)/\(∀ e∈p.Externs,short e.Name)/\∀ f∈p.Funcs,sFunc f
theorem upto_P {d:Nat} {b0:Int} {w0:Nat} {n:Int} {k:Nat} {r:Int} (hd:d < 9) (h0:0<=b0) (h:Pc (d+1) b0 w0 n) (hk:Pc d 0 k r):Pc (d+1) b0 (w0+k) (Lt.upto 20000 n r):=by
 unfold Lt.upto
 unfold Pc Bd at h hk ⊢
 split
 ·rw [wrap_eq (by omega) (by omega)]; omega
 ·omega
theorem more_P {d:Nat} {b0:Int} {w0:Nat} {n:Int} {k:Nat} (h0:0<=b0) (h:Pc d b0 w0 n) (hk:k<=140737488355328):Pc d b0 (w0+k) (if n<=20000 then Lt.plus n k else n):=by
 unfold Pc Bd at h ⊢
 split
 ·rw [plus_eq (by omega) (by omega) (by omega)]; omega
 ·omega
theorem len_P {d:Nat} {k:Nat} (hk:k<=140737488355328):Pc d 0 k (k:Int):=by unfold Pc Bd; omega
theorem cVars_P {d:Nat} (l:List Lt.Var) (b:Int) (h:∀ v∈l,sVar v) (h0:0<=b) (h1:b<=Bd d):Pc d b (l.map wVar).sum (Lt.cVars 20000 l b):=by
 refine cnt_P (Lt.cVars 20000) (fun n v=>if Lt.plus n v.Name.length<=20000 then Lt.plus (Lt.plus n v.Name.length) v.Type_.length else Lt.plus n v.Name.length) wVar (fun _=>rfl) (fun _ _ _=>rfl) sVar (fun b x hx h0 h1=>?_) l b h h0 h1
 have hn:Pc d b x.Name.length (Lt.plus b x.Name.length):=by
  have:=hx.1; unfold short at this
  unfold Pc Bd; rw [plus_eq h0 (by omega) (by omega)]; omega
 exact more_P h0 hn hx.2
theorem countVars_P {d:Nat} (l:List Lt.Var) (h:∀ v∈l,sVar v):Pc d 0 (wVars l) (Lt.countVars l 20000):=by
 unfold Lt.countVars wVars
 split
 ·rw [wrap_eq (by omega) (by omega)]; unfold Pc Bd; omega
 ·have:=cVars_P (d:=d) l (l.length:Int) h (by omega) (by have:=bd_ge d; omega)
  unfold Pc at this ⊢; omega
theorem cArgs_P {d:Nat} (l:List Lt.Arg) (b:Int) (h:∀ v∈l,sArg v) (h0:0<=b) (h1:b<=Bd d):Pc d b (l.map wArg).sum (Lt.cArgs 20000 l b):=by
 refine cnt_P (Lt.cArgs 20000) (fun n v=>Lt.plus n v.S.length) wArg (fun _=>rfl) (fun _ _ _=>rfl) sArg (fun b x hx h0 h1=>?_) l b h h0 h1
 unfold sArg short at hx
 unfold Pc Bd wArg; rw [plus_eq h0 (by omega) (by omega)]; omega
theorem countArgs_P {d:Nat} (l:List Lt.Arg) (h:∀ v∈l,sArg v):Pc d 0 (wArgs l) (Lt.countArgs l 20000):=by
 unfold Lt.countArgs wArgs
 split
 ·rw [wrap_eq (by omega) (by omega)]; unfold Pc Bd; omega
 ·have:=cArgs_P (d:=d) l (l.length:Int) h (by omega) (by have:=bd_ge d; omega)
  unfold Pc at this ⊢; omega
theorem one_P {d:Nat} {b:Int} {k:Nat} (h0:0<=b) (h1:b<=20000) (hk:k<=140737488355328):Pc d b (1+k) (Lt.plus (IntKind.i64.wrap (b+1)) k):=by
 rw [wrap_eq (by omega) (by omega),plus_eq (by omega) (by omega) (by omega)]; unfold Pc Bd; omega
theorem cBinds_P {d:Nat} (l:List Lt.Bind) (b:Int) (h:∀ v∈l,sBind v) (h0:0<=b) (h1:b<=Bd d):Pc d b (l.map wBind).sum (Lt.cBinds 20000 l b):=by
 refine cnt_P (Lt.cBinds 20000) (fun n b=>if Lt.plus (IntKind.i64.wrap (n+1)) b.Name.length<=20000 then Lt.plus (Lt.plus (IntKind.i64.wrap (n+1)) b.Name.length) b.A.S.length else Lt.plus (IntKind.i64.wrap (n+1)) b.Name.length) wBind (fun _=>rfl) (fun _ _ _=>rfl) sBind (fun b x hx h0 h1=>?_) l b h h0 h1
 exact more_P h0 (one_P h0 h1 hx.1) hx.2
theorem cIns_P {d:Nat} (l:List Lt.In) (b:Int) (h:∀ v∈l,sIn v) (h0:0<=b) (h1:b<=Bd d):Pc d b (l.map wIn).sum (Lt.cIns 20000 l b):=by
 refine cnt_P (Lt.cIns 20000) (fun n b=>if Lt.plus (IntKind.i64.wrap (n+1)) b.Block.length<=20000 then Lt.plus (Lt.plus (IntKind.i64.wrap (n+1)) b.Block.length) b.A.S.length else Lt.plus (IntKind.i64.wrap (n+1)) b.Block.length) wIn (fun _=>rfl) (fun _ _ _=>rfl) sIn (fun b x hx h0 h1=>?_) l b h h0 h1
 exact more_P h0 (one_P h0 h1 hx.1) hx.2
theorem Pc_then {d:Nat} {b:Int} {w w':Nat} {n r:Int} (h0:0<=b) (h:Pc d b w n) (h':0<=n->n<=Bd d->Pc d n w' r):Pc d b (w+w') r:=by
 have hB:=bd_ge d
 have h2:=h' (by unfold Pc at h; omega) (by unfold Pc at h; omega)
 unfold Pc at h h2 ⊢; omega
theorem plus_P {d:Nat} {b:Int} {k:Nat} (h0:0<=b) (h1:b<=20000) (hk:k<=140737488355328):Pc d b k (Lt.plus b k):=by
 rw [plus_eq (by omega) (by omega) (by omega)]; unfold Pc Bd; omega
theorem cFrames_P {d:Nat} (l:List Lt.Frame) (b:Int) (h:∀ v∈l,sFrame v) (h0:0<=b) (h1:b<=Bd d):Pc d b (l.map wFrame).sum (Lt.cFrames 20000 l b):=by
 refine cnt_P (Lt.cFrames 20000) (fun n f=>Lt.cBinds 20000 f.Vars (if Lt.plus n f.Func.length<=20000 then Lt.plus (Lt.plus n f.Func.length) f.Block.length else Lt.plus n f.Func.length)) wFrame (fun _=>rfl) (fun _ _ _=>rfl) sFrame (fun b x hx h0 h1=>?_) l b h h0 h1
 exact Pc_then h0 (more_P h0 (plus_P h0 h1 hx.1) hx.2.1) (cBinds_P x.Vars _ hx.2.2)
theorem cObjs_P {d:Nat} (hd:d < 9) (l:List Lt.Virt) (b:Int) (h:∀ v∈l,sObj v) (h0:0<=b) (h1:b<=Bd (d+1)):Pc (d+1) b (l.map wObj).sum (Lt.cObjs 20000 l b):=by
 refine cnt_P (Lt.cObjs 20000) (fun n o=>if Lt.plus n o.Class.length<=20000 then IntKind.i64.wrap (Lt.plus n o.Class.length+Lt.countArgs o.Vals 20000) else Lt.plus n o.Class.length) wObj (fun _=>rfl) (fun _ _ _=>rfl) sObj (fun b x hx h0 h1=>?_) l b h h0 h1
 exact upto_P hd h0 (plus_P h0 h1 hx.1) (countArgs_P _ hx.2)
theorem cTo_P {d:Nat} (l:List (List UInt8)) (b:Int) (h:∀ v∈l,short v) (h0:0<=b) (h1:b<=Bd d):Pc d b (l.map wTo).sum (Lt.cTo 20000 l b):=by
 refine cnt_P (Lt.cTo 20000) (fun n t=>Lt.plus (IntKind.i64.wrap (n+1)) t.length) wTo (fun _=>rfl) (fun _ _ _=>rfl) short (fun b x hx h0 h1=>?_) l b h h0 h1
 exact one_P h0 h1 hx
theorem cPhis_P {d:Nat} (l:List Lt.Phi) (b:Int) (h:∀ v∈l,sPhi v) (h0:0<=b) (h1:b<=Bd d):Pc d b (l.map wPhi).sum (Lt.cPhis 20000 l b):=by
 refine cnt_P (Lt.cPhis 20000) (fun n x=>Lt.cIns 20000 x.Ins (Lt.plus (IntKind.i64.wrap (n+1)) x.Dst.length)) wPhi (fun _=>rfl) (fun _ _ _=>rfl) sPhi (fun b x hx h0 h1=>?_) l b h h0 h1
 exact Pc_then h0 (one_P h0 h1 hx.1) (cIns_P x.Ins _ hx.2)
theorem add_P {d:Nat} {b:Int} {w k:Nat} {n r:Int} (hd:d < 9) (h0:0<=b) (hn:n=b+(w:Int)) (h1:n<=20000) (hk:Pc d 0 k r):Pc (d+1) b (w+k) (IntKind.i64.wrap (n+r)):=by
 unfold Pc Bd at hk ⊢
 rw [wrap_eq (by omega) (by omega)]; omega
theorem countInstr_P (x:Lt.Instr) (h:sInstr x):Pc 1 0 (wInstr x) (Lt.countInstr x 20000):=by
 obtain ⟨h1,h2,h3,h4,h5⟩:=h
 unfold short at h1 h2
 unfold Lt.countInstr
 split
 ·rename_i hc
  rw [wrap_eq (by omega) (by omega)]; unfold Pc Bd; omega
 ·rename_i hc
  simp only [Bool.or_eq_true,decide_eq_true_eq,not_or] at hc
  have e:Lt.plus (Lt.plus (Lt.plus 1 x.Dst.length) x.Frames.length) x.Objs.length=1+(x.Dst.length:Int)+x.Frames.length+x.Objs.length:=by
   have e1:=plus_eq (n:=1) (k:=x.Dst.length) (by omega) (by omega) (by omega)
   have e2:=plus_eq (n:=1+(x.Dst.length:Int)) (k:=x.Frames.length) (by omega) (by omega) (by omega)
   have e3:=plus_eq (n:=1+(x.Dst.length:Int)+x.Frames.length) (k:=x.Objs.length) (by omega) (by omega) (by omega)
   rw [e1,e2,e3]
  have p1:Pc 1 0 (1+x.Dst.length+x.Frames.length+x.Objs.length) (Lt.plus (Lt.plus (Lt.plus 1 x.Dst.length) x.Frames.length) x.Objs.length):=by
   rw [e]; unfold Pc Bd; omega
  have p2:=upto_P (by omega) (by omega) p1 (len_P h2)
  have p3:=upto_P (by omega) (by omega) p2 (countArgs_P x.Args h3)
  have p4:=Pc_then (by omega) p3 (cFrames_P x.Frames _ h4)
  exact Pc_then (by omega) p4 (cObjs_P (by omega) x.Objs _ h5)
theorem cCode_P (l:List Lt.Instr) (b:Int) (h:∀ v∈l,sInstr v) (h0:0<=b) (h1:b<=Bd 2):Pc 2 b (l.map wInstr).sum (Lt.cCode 20000 l b):=by
 refine cnt_P (Lt.cCode 20000) (fun n x=>IntKind.i64.wrap (n+Lt.countInstr x 20000)) wInstr (fun _=>rfl) (fun _ _ _=>rfl) sInstr (fun b x hx h0 h1=>?_) l b h h0 h1
 have:=add_P (b:=b) (w:=0) (n:=b) (by omega) h0 (by omega) h1 (countInstr_P x hx)
 rwa [Nat.zero_add] at this
theorem countBlock_P (x:Lt.Block) (h:sBlock x):Pc 2 0 (wBlock x) (Lt.countBlock x 20000):=by
 obtain ⟨h1,h2,h3,h4,h5⟩:=h
 unfold sArg at h2
 unfold short at h1 h2
 unfold Lt.countBlock
 split
 ·rw [wrap_eq (by omega) (by omega)]; unfold Pc Bd; omega
 ·have p1:Pc 2 0 (1+x.Name.length) (Lt.plus 1 x.Name.length):=by
   rw [plus_eq (by omega) (by omega) (by omega)]; unfold Pc Bd; omega
  have p2:=upto_P (by omega) (by omega) p1 (len_P h2)
  have p3:=Pc_then (by omega) p2 (cTo_P x.End.To _ h3)
  have p4:=Pc_then (by omega) p3 (cPhis_P x.Phis _ h4)
  exact Pc_then (by omega) p4 (cCode_P x.Code _ h5)
theorem cBlocks_P (l:List Lt.Block) (b:Int) (h:∀ v∈l,sBlock v) (h0:0<=b) (h1:b<=Bd 3):Pc 3 b (l.map wBlock).sum (Lt.cBlocks 20000 l b):=by
 refine cnt_P (Lt.cBlocks 20000) (fun n x=>IntKind.i64.wrap (n+Lt.countBlock x 20000)) wBlock (fun _=>rfl) (fun _ _ _=>rfl) sBlock (fun b x hx h0 h1=>?_) l b h h0 h1
 have:=add_P (b:=b) (w:=0) (n:=b) (by omega) h0 (by omega) h1 (countBlock_P x hx)
 rwa [Nat.zero_add] at this
theorem FewFunc_P (f:Lt.Func) (h:sFunc f):Pc 3 0 (wFunc f) (Lt.FewFunc f 20000):=by
 obtain ⟨h1,h2,h3,h4,h5⟩:=h
 unfold short at h1 h2
 unfold Lt.FewFunc
 split
 ·rw [wrap_eq (by omega) (by omega)]; unfold Pc Bd; omega
 ·have p1:Pc 3 0 (1+f.Name.length) (Lt.plus 1 f.Name.length):=by
   rw [plus_eq (by omega) (by omega) (by omega)]; unfold Pc Bd; omega
  have p2:=upto_P (by omega) (by omega) p1 (len_P h2)
  have p3:=upto_P (by omega) (by omega) p2 (countVars_P f.Params h3)
  have p4:=upto_P (by omega) (by omega) p3 (countVars_P f.Vars h4)
  exact Pc_then (by omega) p4 (cBlocks_P f.Blocks _ h5)
theorem cFuncs_P (l:List Lt.Func) (b:Int) (h:∀ v∈l,sFunc v) (h0:0<=b) (h1:b<=Bd 4):Pc 4 b (l.map wFunc).sum (Lt.cFuncs 20000 l b):=by
 refine cnt_P (Lt.cFuncs 20000) (fun n x=>IntKind.i64.wrap (n+Lt.FewFunc x 20000)) wFunc (fun _=>rfl) (fun _ _ _=>rfl) sFunc (fun b x hx h0 h1=>?_) l b h h0 h1
 have:=add_P (b:=b) (w:=0) (n:=b) (by omega) h0 (by omega) h1 (FewFunc_P x hx)
 rwa [Nat.zero_add] at this
theorem cClasses_P {d:Nat} (hd:d < 9) (l:List Lt.Class) (b:Int) (h:∀ v∈l,sClass v) (h0:0<=b) (h1:b<=Bd (d+1)):Pc (d+1) b (l.map wClass).sum (Lt.cClasses 20000 l b):=by
 refine cnt_P (Lt.cClasses 20000) (fun n c=>if Lt.plus n c.Name.length<=20000 then IntKind.i64.wrap (Lt.plus n c.Name.length+Lt.countVars c.Fields 20000) else Lt.plus n c.Name.length) wClass (fun _=>rfl) (fun _ _ _=>rfl) sClass (fun b x hx h0 h1=>?_) l b h h0 h1
 exact upto_P hd h0 (plus_P h0 h1 hx.1) (countVars_P _ hx.2)
theorem cExterns_P {d:Nat} (l:List Lt.Extern) (b:Int) (h:∀ v∈l,short v.Name) (h0:0<=b) (h1:b<=Bd d):Pc d b (l.map wExtern).sum (Lt.cExterns 20000 l b):=by
 refine cnt_P (Lt.cExterns 20000) (fun n t=>Lt.plus (IntKind.i64.wrap (n+1)) t.Name.length) wExtern (fun _=>rfl) (fun _ _ _=>rfl) (fun v=>short v.Name) (fun b x hx h0 h1=>?_) l b h h0 h1
 exact one_P h0 h1 hx
theorem Few_w {p:Lt.Program} (h:sProg p) (hf:Lt.Few p 20000=true):wProg p<=20000/\p.Classes.length<=50:=by
 obtain ⟨h1,h2,h3,h4⟩:=h
 unfold Lt.Few at hf
 split at hf
 ·cases hf
 ·rename_i hc
  simp only [Bool.or_eq_true,decide_eq_true_eq,not_or] at hc
  have p1:=countVars_P (d:=4) p.Globals h2
  have p2:=Pc_then (by omega) p1 (cClasses_P (d:=3) (by omega) p.Classes _ h1)
  have p3:=Pc_then (by omega) p2 (cExterns_P p.Externs _ h3)
  have p4:=Pc_then (by omega) p3 (cFuncs_P p.Funcs _ h4)
  simp only [decide_eq_true_eq] at hf
  unfold Pc Bd at p4
  unfold wProg
  omega
end Go.Am
end

section
namespace Go.Am
open Go
set_option linter.unusedVariables false
set_option linter.unusedSimpArgs false
theorem fm_le {α β:Type} (g:α->List β) (w:α->Nat) (k:Nat):∀ (l:List α),(∀ x∈l,(g x).length<=k*w x)->(l.flatMap g).length<=k*(l.map w).sum
 | [],_=>by simp
 | x::r,h=>by
  have h1:=h x (by simp)
  have h2:=fm_le g w k r (fun y hy=>h y (by simp [hy]))
  simp only [List.flatMap_cons,List.length_append,List.map_cons,List.sum_cons,Nat.mul_add]
  omega
theorem sum1 {α:Type} (w:α->Nat):∀ (l:List α),(l.map fun x=>1+w x).sum=l.length+(l.map w).sum
 | []=>by simp
 | x::r=>by
  have:=sum1 w r
  simp only [List.map_cons,List.sum_cons,List.length_cons,this]
  omega
def lw (ws:List (List UInt8)):Nat:=(ws.map fun w=>w.length+1).sum
theorem lw_append (a b:List (List UInt8)):lw (a++b)=lw a+lw b:=by simp [lw]
theorem lw_cons (a:List UInt8) (b:List (List UInt8)):lw (a::b)=a.length+1+lw b:=by simp [lw]
theorem lw_nil:lw []=0:=rfl
theorem jw_lw:∀ (ws:List (List UInt8)) (b:Bool),(Lt.jw b ws).length<=lw ws
 | [],_=>by simp [Lt.jw]
 | w::r,b=>by
  have:=jw_lw r true
  rw [Lt.jw,lw_cons]
  simp only [List.length_append]
  have:(if b=true then [32] else ([]:List UInt8)).length<=1:=by split <;> simp
  omega
theorem lnT_lw (ws:List (List UInt8)):(Lt.lnT ws).length<=lw ws+1:=by
 have:=jw_lw ws false
 simp only [Lt.lnT,List.length_append,List.length_cons,List.length_nil]
 omega
theorem rNum_len {n:Int} (h:Lt.inR n):(Lt.rNum n).length<=20:=numPut_len h
theorem hexR_len:∀ (k:Nat) (x:Int) (l:List UInt8),(Lt.hexR k x l).length=k+l.length
 | 0,_,_=>by simp [Lt.hexR]
 | k+1,x,l=>by rw [Lt.hexR,hexR_len k]; simp; omega
theorem rWord_len {a:Lt.Arg} (h:a.ok):(Lt.rWord a).length<=a.S.length+25:=by
 have h1:=rNum_len h
 have h2:(Lt.rFlo a.N).length=18:=by simp [Lt.rFlo,hexR_len]
 unfold Lt.rWord
 repeat' split
 all_goals (try simp only [List.length_cons,List.length_nil])
 all_goals omega
theorem gw_len (n:Nat):(gw.getD n default).length<=10:=by
 have h:∀ w∈gw,w.length<=10:=by decide
 rw [List.getD]
 cases hn:gw[n]? with
 | none=>simp; exact Nat.zero_le _
 | some w=>
  simp only [Option.getD_some]
  exact h w (List.mem_of_getElem? hn)
theorem rOf_len (op:Int):(Lt.rOf op).1.Word.length<=10:=by
 unfold Lt.rOf
 split
 ·simp
 ·exact gw_len _
theorem rVarsT_len (first:List UInt8) (hf:first.length<=6) (l:List Lt.Var):(Lt.rVarsT first l).length<=20*wVars l:=by
 have:=fm_le (fun v:Lt.Var=>Lt.lnT [first,v.Name,v.Type_]) (fun v=>1+wVar v) 20 l (fun v _=>by
  have:=lnT_lw [first,v.Name,v.Type_]
  simp only [lw_cons,lw_nil] at this
  unfold wVar
  omega)
 rw [sum1] at this
 exact this
theorem words_len {l:List Lt.Arg} (h:Lt.argsOk l):lw (l.map Lt.rWord)<=30*wArgs l:=by
 induction l with
 | nil=>simp [lw]
 | cons a r ih=>
  have h1:=ih (fun x hx=>h x (List.mem_cons_of_mem _ hx))
  have h2:=rWord_len (h a (by simp))
  simp only [wArgs,List.map_cons,List.sum_cons,List.length_cons,lw_cons,wArg] at h1 ⊢
  omega
theorem bind_len {α:Type} (n:α->List UInt8) (a:α->Lt.Arg) (l:List α) (h:∀ b∈l,(a b).ok):lw (l.flatMap fun b=>[n b,Lt.rWord (a b)])<=30*(l.map fun b=>1+(n b).length+(a b).S.length).sum:=by
 induction l with
 | nil=>simp [lw]
 | cons b r ih=>
  have h1:=ih (fun x hx=>h x (List.mem_cons_of_mem _ hx))
  have h2:=rWord_len (h b (by simp))
  simp only [List.flatMap_cons,lw_append,lw_cons,lw_nil,List.map_cons,List.sum_cons]
  omega
theorem frame_len {f:Lt.Frame} (h:f.ok) (hn:Lt.inR f.At):(Lt.lnT (Lt.rFrameW f)).length<=40*(1+wFrame f):=by
 have h1:=lnT_lw (Lt.rFrameW f)
 have h2:=bind_len (fun b:Lt.Bind=>b.Name) (fun b=>b.A) f.Vars (fun b hb=>h.2 b hb)
 have h3:=rNum_len hn
 simp only [Lt.rFrameW,lw_append,lw_cons,lw_nil,List.length_cons,List.length_nil] at h1
 unfold wFrame
 have:(f.Vars.map wBind).sum=(f.Vars.map fun b=>1+b.Name.length+b.A.S.length).sum:=rfl
 rw [this]
 simp only [Lt.rFrameW]
 omega
theorem virt_len {o:Lt.Virt} (h:o.ok):(Lt.lnT (Lt.rVirtW o)).length<=40*(1+wObj o):=by
 have h1:=lnT_lw (Lt.rVirtW o)
 have h2:=words_len (l:=o.Vals) h
 simp only [Lt.rVirtW,lw_append,lw_cons,lw_nil,List.length_cons,List.length_nil] at h1
 unfold wObj
 simp only [Lt.rVirtW]
 omega
theorem words_take {l:List Lt.Arg}:lw ((l.take 1).map Lt.rWord)+lw ((l.drop 1).map Lt.rWord)=lw (l.map Lt.rWord):=by
 rw [<- lw_append,<- List.map_append,List.take_append_drop]
theorem code_len {x:Lt.Instr} (h:x.ok) (hn:∀ f∈x.Frames,Lt.inR f.At):(Lt.rCodeT x).length<=40*wInstr x:=by
 obtain ⟨okA,okF,okO⟩:=h
 have h1:=lnT_lw (Lt.rWords x)
 have h2:=words_len okA
 have h3:=rOf_len x.Op
 have h4:=fm_le (fun f=>Lt.lnT (Lt.rFrameW f)) (fun f=>1+wFrame f) 40 x.Frames (fun f hf=>frame_len (okF f hf) (hn f hf))
 have h5:=fm_le (fun o=>Lt.lnT (Lt.rVirtW o)) (fun o=>1+wObj o) 40 x.Objs (fun o ho=>virt_len (okO o ho))
 rw [sum1] at h4 h5
 have hh:lw (Lt.rHead x)<=x.Dst.length+20:=by
  simp only [Lt.rHead,lw_append,lw_cons,lw_nil]
  split
  ·simp only [lw_cons,lw_nil,List.length_cons,List.length_nil]; omega
  ·simp only [lw_nil]; omega
 have hw:lw (Lt.rWords x)<=x.Dst.length+x.Name.length+21+lw (x.Args.map Lt.rWord):=by
  unfold Lt.rWords
  split
  ·have:=words_take (l:=x.Args)
   simp only [lw_append,lw_cons,lw_nil]
   omega
  ·simp only [lw_append]
   split
   ·simp only [lw_cons,lw_nil]; omega
   ·simp only [lw_nil]; omega
 simp only [Lt.rCodeT,List.length_append]
 unfold wInstr
 omega
theorem to_len (l:List (List UInt8)):lw l=(l.map wTo).sum:=by
 unfold lw wTo
 congr 1
 exact List.map_congr_left (fun x _=>by omega)
theorem kind_word (n:Nat):(([[],[106,117,109,112],[98,114,97,110,99,104],[114,101,116],[116,114,97,112]]:List (List UInt8)).getD n default).length<=10:=by
 match n with
 | 0=>decide
 | 1=>decide
 | 2=>decide
 | 3=>decide
 | 4=>decide
 | n+5=>simp; exact Nat.zero_le _
theorem end_len {t:Lt.Term} (h:t.ok):(Lt.rEndT t).length<=70+t.A.S.length+(t.To.map wTo).sum:=by
 unfold Lt.rEndT
 split
 ·simp
 ·have h1:=lnT_lw (Lt.rEndW t)
  have h2:=rWord_len h.1
  have h3:=rNum_len h.2
  have h4:=kind_word t.Kind.toNat
  have h5:=to_len t.To
  unfold Lt.rEndW at h1 ⊢
  simp only [lw_append,lw_cons,lw_nil] at h1
  have h6:lw (if t.Kind=2\/t.Kind=3 then [Lt.rWord t.A] else [])<=t.A.S.length+26:=by
   split
   ·simp only [lw_cons,lw_nil]; omega
   ·simp only [lw_nil]; omega
  have h7:lw (if t.Kind=4 then [Lt.rNum t.N] else [])<=21:=by
   split
   ·simp only [lw_cons,lw_nil]; omega
   ·simp only [lw_nil]; omega
  omega
theorem phi_len {x:Lt.Phi} (h:x.ok):(Lt.lnT (Lt.rPhiW x)).length<=40*wPhi x:=by
 have h1:=lnT_lw (Lt.rPhiW x)
 have h2:=bind_len (fun b:Lt.In=>b.Block) (fun b=>b.A) x.Ins (fun b hb=>h.2 b hb)
 simp only [Lt.rPhiW,lw_append,lw_cons,lw_nil,List.length_cons,List.length_nil] at h1
 unfold wPhi
 have:(x.Ins.map wIn).sum=(x.Ins.map fun b=>1+b.Block.length+b.A.S.length).sum:=rfl
 rw [this]
 simp only [Lt.rPhiW]
 omega
theorem block_len {b:Lt.Block} (h:b.ok) (hn:∀ i∈b.Code,∀ f∈i.Frames,Lt.inR f.At):(Lt.rBlockT b).length<=100*wBlock b:=by
 have h1:=lnT_lw [[98,108,111,99,107],b.Name]
 simp only [lw_cons,lw_nil,List.length_cons,List.length_nil] at h1
 have h2:=fm_le (fun x=>Lt.lnT (Lt.rPhiW x)) wPhi 40 b.Phis (fun x hx=>phi_len (h.1 x hx))
 have h3:=fm_le Lt.rCodeT wInstr 40 b.Code (fun x hx=>code_len (h.2.1 x hx) (hn x hx))
 have h4:=end_len h.2.2
 simp only [Lt.rBlockT,List.length_append]
 unfold wBlock
 omega
theorem func_len {f:Lt.Func} (h:f.ok) (hn:∀ b∈f.Blocks,∀ i∈b.Code,∀ r∈i.Frames,Lt.inR r.At):(Lt.rFuncT f).length<=100*wFunc f:=by
 have h1:=lnT_lw [[102,117,110,99],f.Name,f.Result]
 simp only [lw_cons,lw_nil,List.length_cons,List.length_nil] at h1
 have h2:=fm_le Lt.rBlockT wBlock 100 f.Blocks (fun x hx=>block_len (h x hx) (hn x hx))
 have h3:=rVarsT_len [112,97,114,97,109] (by decide) f.Params
 have h4:=rVarsT_len [118,97,114] (by decide) f.Vars
 simp only [Lt.rFuncT,List.length_append]
 unfold wFunc
 omega
theorem class_len (c:Lt.Class):(Lt.rClassT c).length<=20*(1+wClass c):=by
 have h1:=lnT_lw [[99,108,97,115,115],c.Name]
 simp only [lw_cons,lw_nil,List.length_cons,List.length_nil] at h1
 have h3:=rVarsT_len [102,105,101,108,100] (by decide) c.Fields
 simp only [Lt.rClassT,List.length_append]
 unfold wClass
 omega
theorem extern_len {c:Lt.Extern} (h:Lt.inR c.N):(Lt.rExternT c).length<=40*wExtern c:=by
 have h1:=lnT_lw [[101,120,116,101,114,110],c.Name,Lt.rNum c.N]
 have h2:=rNum_len h
 simp only [lw_cons,lw_nil,List.length_cons,List.length_nil] at h1
 simp only [Lt.rExternT]
 unfold wExtern
 omega
end Go.Am
end

section
namespace Go.Am
open Go
set_option linter.unusedVariables false
set_option linter.unusedSimpArgs false
theorem digs_digit:∀ (n:Nat),∀ c∈Lt.digs n,48<=c.toNat/\c.toNat<=57:=by
 intro n
 induction n using Nat.strongRecOn with
 | _ n ih=>
  have hd:∀ k:Nat,k < 10->(UInt8.ofNat (48+k)).toNat=48+k:=fun k hk=>by simp; omega
  by_cases h:n < 10
  ·rw [digs_small h]
   intro c hc
   rw [List.mem_singleton.1 hc,hd n h]; omega
  ·rw [digs_big h]
   intro c hc
   rcases List.mem_append.1 hc with hc | hc
   ·exact ih (n / 10) (by omega) c hc
   ·rw [List.mem_singleton.1 hc,hd _ (Nat.mod_lt _ (by decide))]
    have:=Nat.mod_lt n (show 10 > 0 by decide); omega
theorem digs_ne (n:Nat):Lt.digs n≠[]:=by
 by_cases h:n < 10
 ·rw [digs_small h]; simp
 ·rw [digs_big h]; simp
theorem numB_eq {m:Nat} {c:UInt8} (h1:48<=c.toNat) (h2:c.toNat<=57) (h3:10*m+(c.toNat - 48) < 18446744073709551616):Lt.sNumB (m:Int) c=((10*m+(c.toNat - 48):Nat):Int):=by
 unfold Lt.sNumB
 simp only [IntKind.wrap,IntKind.signed,IntKind.bits]
 simp
 omega
theorem digs_fold:∀ (n:Nat),n < 18446744073709551616->(Lt.digs n).foldl Lt.sNumB 0=(n:Int):=by
 intro n
 induction n using Nat.strongRecOn with
 | _ n ih=>
  intro hn
  have hd:∀ k:Nat,k < 10->(UInt8.ofNat (48+k)).toNat=48+k:=fun k hk=>by simp; omega
  by_cases h:n < 10
  ·rw [digs_small h]
   show Lt.sNumB ((0:Nat):Int) _=_
   rw [numB_eq (by rw [hd n h]; omega) (by rw [hd n h]; omega) (by rw [hd n h]; omega),hd n h]; omega
  ·rw [digs_big h,foldl_snoc,ih (n / 10) (by omega) (by omega)]
   have:=Nat.mod_lt n (show 10 > 0 by decide)
   rw [numB_eq (by rw [hd _ this]; omega) (by rw [hd _ this]; omega) (by rw [hd _ this]; omega),hd _ this]; omega
theorem numV_put {n:Int} (h:Lt.inR n):Lt.sNumV (Lt.numPut n)=n:=by
 have hl:=numPut_len h
 unfold Lt.inR at h
 have hne:=digs_ne n.natAbs
 have hdd:=digs_digit n.natAbs
 have hf:=digs_fold n.natAbs (by omega)
 unfold Lt.sNumV Lt.sNumD Lt.sHalf
 rw [List.take_of_length_le (show (Lt.numPut n).length<=30 by omega)]
 by_cases hn:n < 0
 ·have e:Lt.numPut n=45::Lt.digs n.natAbs:=by unfold Lt.numPut; rw [if_pos hn]; rfl
  rw [e]
  simp only [List.getD_cons_zero,if_true,List.drop_succ_cons,List.drop_zero]
  rw [hf]
  simp only [IntKind.wrap,IntKind.signed,IntKind.bits]
  simp
  omega
 ·have e:Lt.numPut n=Lt.digs n.natAbs:=by unfold Lt.numPut; rw [if_neg hn]; rfl
  rw [e]
  have h45:¬ (Lt.digs n.natAbs).getD 0 0=45:=by
   intro e
   cases hh:Lt.digs n.natAbs with
   | nil=>exact hne hh
   | cons a r=>
    rw [hh] at e hdd
    have:=hdd a (by simp)
    have e:a=45:=e
    subst e
    simp at this
  rw [if_neg h45,if_neg h45,hf]
  simp only [IntKind.wrap,IntKind.signed,IntKind.bits]
  simp
  omega
theorem sNum_put {n:Int} (h:Lt.inR n):Lt.sNum (Lt.numPut n)=(n,true):=by
 unfold Lt.sNum
 rw [numV_put h,if_pos (show Lt.rNum n=Lt.numPut n from rfl)]
theorem numPut_byte (n:Int):∀ c∈Lt.numPut n,c=45\/(48<=c.toNat/\c.toNat<=57):=by
 intro c hc
 unfold Lt.numPut at hc
 rcases List.mem_append.1 hc with hc | hc
 ·split at hc
  ·exact .inl (List.mem_singleton.1 hc)
  ·cases hc
 ·exact .inr (digs_digit _ c hc)
theorem numPut_ne (n:Int):Lt.numPut n≠[]:=by
 unfold Lt.numPut
 have:=digs_ne n.natAbs
 simp [this]
theorem hexN_val (k:Nat):(if 97<=(IntKind.u64.wrap (((hexN k).toNat:Nat):Int)) then IntKind.u64.wrap ((IntKind.u64.wrap (((hexN k).toNat:Nat):Int)) - 87) else IntKind.u64.wrap ((IntKind.u64.wrap (((hexN k).toNat:Nat):Int)) - 48))=((k % 16:Nat):Int):=by
 unfold hexN
 have h:k % 16 < 16:=Nat.mod_lt _ (by decide)
 generalize k % 16=j at h
 have:∀ j:Fin 16,(if 97<=(IntKind.u64.wrap (((hexT.getD j.1 0).toNat:Nat):Int)) then IntKind.u64.wrap ((IntKind.u64.wrap (((hexT.getD j.1 0).toNat:Nat):Int)) - 87) else IntKind.u64.wrap ((IntKind.u64.wrap (((hexT.getD j.1 0).toNat:Nat):Int)) - 48))=((j.1:Nat):Int):=by decide
 exact this ⟨j,h⟩
theorem floB_eq {u k:Nat} (h:16*u+15 < 18446744073709551616):Lt.sFloB (u:Int) (hexN k)=((16*u+k % 16:Nat):Int):=by
 unfold Lt.sFloB
 rw [hexN_val]
 have e:Int.tmod ((k % 16:Nat):Int) 16=((k % 16:Nat):Int):=by
  rw [show Int.tmod ((k % 16:Nat):Int) 16=((k % 16 % 16:Nat):Int) from rfl,Nat.mod_mod]
 rw [e]
 have h16:=Nat.mod_lt k (show 16 > 0 by decide)
 rw [show ((u:Nat):Int)*16=((16*u:Nat):Int) by omega,wrapu_small (by omega),show ((16*u:Nat):Int)+((k % 16:Nat):Int)=((16*u+k % 16:Nat):Int) by omega,wrapu_small (by omega)]
theorem hexR_fold:∀ (k m:Nat) (l:List UInt8),m < 18446744073709551616->k<=16->(Lt.hexR k (m:Int) l).foldl Lt.sFloB 0=l.foldl Lt.sFloB ((m % 16 ^ k:Nat):Int)
 | 0,m,l,_,_=>by simp [Lt.hexR,Nat.mod_one]
 | k+1,m,l,h,hk=>by
  rw [Lt.hexR,show Int.tdiv (m:Int) 16=((m / 16:Nat):Int) from rfl,wrapu_small (by omega),hexR_fold k (m / 16) _ (by omega) (by omega),hexB_eq,List.foldl_cons]
  have hp:16 ^ k<=16 ^ 15:=Nat.pow_le_pow_right (by decide) (by omega)
  have hm:=Nat.mod_lt (m / 16) (show 16 ^ k > 0 from Nat.pow_pos (by decide))
  have h15:(16:Nat) ^ 15=1152921504606846976:=by decide
  rw [floB_eq (by omega)]
  congr 2
  rw [Nat.pow_succ,Nat.mul_comm (16 ^ k) 16,Nat.mod_mul]
  omega
theorem plain_inR {n:Int} (h:Lt.inR n):Lt.inR (Lt.rPlain n):=by
 unfold Lt.rPlain Lt.inR at *
 split <;> omega
theorem floV_put {n:Int} (h:Lt.inR n):Lt.sFloV (Lt.rFlo n)=Lt.rPlain n:=by
 have hp:=plain_inR h
 unfold Lt.inR at hp
 unfold Lt.sFloV Lt.rFlo
 have hx:IntKind.u64.wrap (Lt.rPlain n)=(((IntKind.u64.wrap (Lt.rPlain n)).toNat:Nat):Int):=by
  rw [wrapu_eq]; rfl
 have hlt:(IntKind.u64.wrap (Lt.rPlain n)).toNat < 18446744073709551616:=by
  rw [wrapu_eq]; exact BitVec.isLt _
 have hl:=hexR_len 16 (IntKind.u64.wrap (Lt.rPlain n)) []
 have ed:([48,102]++Lt.hexR 16 (IntKind.u64.wrap (Lt.rPlain n)) []).drop 2=Lt.hexR 16 (IntKind.u64.wrap (Lt.rPlain n)) []:=rfl
 rw [ed,List.take_of_length_le (by rw [hl]; simp),hx,hexR_fold 16 _ _ hlt (by omega)]
 simp only [List.foldl_nil]
 have h16:(16:Nat) ^ 16=18446744073709551616:=by decide
 rw [h16,Nat.mod_eq_of_lt hlt,<- hx]
 simp only [IntKind.wrap,IntKind.signed,IntKind.bits]
 simp
 omega
theorem rFlo_len (n:Int):(Lt.rFlo n).length=18:=by rw [flo_eq]; exact floPut_len n
theorem rFlo_plain (n:Int):Lt.rFlo (Lt.rPlain n)=Lt.rFlo n:=by
 unfold Lt.rFlo
 have:Lt.rPlain (Lt.rPlain n)=Lt.rPlain n:=by
  unfold Lt.rPlain
  by_cases h:Lt.rIsNan n=true
  ·rw [if_pos h]; simp
  ·rw [if_neg h,if_neg h]
 rw [this]
theorem sFlo_put {n:Int} (h:Lt.inR n):Lt.sFlo (Lt.rFlo n)=(Lt.rPlain n,true):=by
 unfold Lt.sFlo
 rw [floV_put h,if_pos ⟨rFlo_len n,rFlo_plain n⟩]
theorem sTry_iff (s:List UInt8) (a:Lt.Arg):Lt.sTry s a=true ↔ Lt.wordRight a=true/\Lt.wordPut a=s:=by
 unfold Lt.sTry
 rw [right_eq,word_eq]; simp
theorem name_first {a:UInt8} {r:List UInt8} (h:Lt.Name (a::r)=true):Lt.letter a=true:=by
 unfold Lt.Name at h
 simp only [Bool.and_eq_true,List.getD_cons_zero] at h
 exact h.1.1.2
theorem num_not_name (n:Int):Lt.Name (Lt.numPut n)=false:=by
 cases hh:Lt.numPut n with
 | nil=>exact absurd hh (numPut_ne n)
 | cons a r=>
  have hb:=numPut_byte n a (by rw [hh]; simp)
  cases hN:Lt.Name (a::r) with
  | false=>rfl
  | true=>
   exfalso
   have:=name_first hN
   unfold Lt.letter Lt.letterI at this
   rcases hb with rfl | hb
   ·revert this; decide
   ·simp at this; omega
theorem word2 {n:Int}:Lt.wordPut ⟨2,[],n⟩=Lt.numPut n:=by simp [Lt.wordPut,Lt.wordRight]
theorem word3 {n:Int} (h:Lt.Plain n=n):Lt.wordPut ⟨3,[],n⟩=Lt.floPut n:=by simp [Lt.wordPut,Lt.wordRight,h]
theorem word4:Lt.wordPut ⟨4,[],0⟩=[110,117,108,108]:=by decide
theorem word5 {n:Int} (h0:0<=n) (h1:n<=999):Lt.wordPut ⟨5,[],n⟩=35::Lt.numPut n:=by simp [Lt.wordPut,Lt.wordRight,h0,h1]
theorem word1 {s:List UInt8} (h:Lt.Name s=true):Lt.wordPut ⟨1,s,0⟩=s:=by simp [Lt.wordPut,Lt.wordRight,h]
theorem try1 (s:List UInt8):Lt.sTry s ⟨1,s,0⟩=Lt.Name s:=by
 unfold Lt.sTry
 rw [right_eq,word_eq]
 by_cases h:Lt.Name s=true
 ·rw [word1 h]; simp [Lt.wordRight,h]
 ·simp [Lt.wordRight,h]
theorem sArg_put {a:Lt.Arg} (h:Lt.wordRight a=true) (ok:a.ok):Lt.sArg (Lt.wordPut a)=(a,true):=by
 obtain ⟨k,s,n⟩:=a
 have ok:Lt.inR n:=ok
 rcases wordRight_cases h with ⟨hk,hN,hn⟩ | ⟨hk,hs⟩ | ⟨hk,hs,hp⟩ | ⟨hk,hs,hn⟩ | ⟨hk,hs,h0,h1⟩
 ·simp only at hk hN hn; subst hk; subst hn
  rw [word1 hN]
  unfold Lt.sArg
  rw [try1,if_pos hN]
 ·simp only at hk hs; subst hk; subst hs
  rw [word2]
  unfold Lt.sArg
  rw [try1,num_not_name,sNum_put ok]
  rw [if_neg (by decide),if_pos ((sTry_iff _ _).2 ⟨h,word2⟩)]
 ·simp only at hk hs hp; subst hk; subst hs
  rw [word3 hp]
  have e:Lt.floPut n=48::102::(Lt.floPut n).drop 2:=rfl
  have hN:Lt.Name (Lt.floPut n)=false:=by
   cases hN:Lt.Name (Lt.floPut n) with
   | false=>rfl
   | true=>rw [e] at hN; have:=name_first hN; revert this; decide
  have h2:∀ m,Lt.sTry (Lt.floPut n) ⟨2,[],m⟩=false:=by
   intro m
   cases ht:Lt.sTry (Lt.floPut n) ⟨2,[],m⟩ with
   | false=>rfl
   | true=>
    have:=((sTry_iff _ _).1 ht).2
    rw [word2] at this
    have hb:=numPut_byte m 102 (by rw [this,e]; simp)
    revert hb; decide
  unfold Lt.sArg
  rw [try1,hN,h2,if_neg (by decide),if_neg (by decide)]
  have e3:(Lt.sFlo (Lt.floPut n)).1=n:=by rw [<- flo_eq,sFlo_put ok,plain_eq]; exact hp
  rw [e3,if_pos ((sTry_iff _ _).2 ⟨h,word3 hp⟩)]
 ·simp only at hk hs hn; subst hk; subst hs; subst hn
  decide +kernel
 ·simp only at hk hs h0 h1; subst hk; subst hs
  rw [word5 h0 h1]
  have hN:Lt.Name (35::Lt.numPut n)=false:=by
   cases hN:Lt.Name (35::Lt.numPut n) with
   | false=>rfl
   | true=>have:=name_first hN; revert this; decide
  have h2:∀ m,Lt.sTry (35::Lt.numPut n) ⟨2,[],m⟩=false:=by
   intro m
   cases ht:Lt.sTry (35::Lt.numPut n) ⟨2,[],m⟩ with
   | false=>rfl
   | true=>
    have:=((sTry_iff _ _).1 ht).2
    rw [word2] at this
    have hb:=numPut_byte m 35 (by rw [this]; simp)
    revert hb; decide
  have h3:∀ m,Lt.sTry (35::Lt.numPut n) ⟨3,[],m⟩=false:=by
   intro m
   cases ht:Lt.sTry (35::Lt.numPut n) ⟨3,[],m⟩ with
   | false=>rfl
   | true=>
    obtain ⟨hr,this⟩:=(sTry_iff _ _).1 ht
    rcases wordRight_cases hr with h | h | h | h | h
    ·exact absurd h.1 (by show ¬ (3:Int)=1; decide)
    ·exact absurd h.1 (by show ¬ (3:Int)=2; decide)
    ·rw [word3 h.2.2] at this
     have e:Lt.floPut m=48::102::(Lt.floPut m).drop 2:=rfl
     rw [e] at this
     simp at this
    ·exact absurd h.1 (by show ¬ (3:Int)=4; decide)
    ·exact absurd h.1 (by show ¬ (3:Int)=5; decide)
  have h4:Lt.sTry (35::Lt.numPut n) ⟨4,[],0⟩=false:=by
   cases ht:Lt.sTry (35::Lt.numPut n) ⟨4,[],0⟩ with
   | false=>rfl
   | true=>
    have:=((sTry_iff _ _).1 ht).2
    rw [word4] at this
    simp at this
  have ed:(35::Lt.numPut n).drop 1=Lt.numPut n:=rfl
  unfold Lt.sArg
  rw [try1,hN,h2,h3,h4,ed,sNum_put ok,if_neg (by decide),if_neg (by decide),if_neg (by decide),if_neg (by decide),if_pos ((sTry_iff _ _).2 ⟨h,word5 h0 h1⟩)]
theorem sArg_back {s:List UInt8} (h:(Lt.sArg s).2=true):Lt.wordRight (Lt.sArg s).1=true/\Lt.wordPut (Lt.sArg s).1=s:=by
 unfold Lt.sArg at h ⊢
 split at h
 ·rename_i hc; rw [if_pos hc]; exact (sTry_iff _ _).1 hc
 rename_i n1; rw [if_neg n1]
 split at h
 ·rename_i hc; rw [if_pos hc]; exact (sTry_iff _ _).1 hc
 rename_i n2; rw [if_neg n2]
 split at h
 ·rename_i hc; rw [if_pos hc]; exact (sTry_iff _ _).1 hc
 rename_i n3; rw [if_neg n3]
 split at h
 ·rename_i hc; rw [if_pos hc]; exact (sTry_iff _ _).1 hc
 rename_i n4; rw [if_neg n4]
 split at h
 ·rename_i hc; rw [if_pos hc]; exact (sTry_iff _ _).1 hc
 ·cases h
theorem argOk_put {objs:Bool} {a:Lt.Arg} (h:Lt.argRight objs a=true) (ok:a.ok):Lt.argOk objs (Lt.wordPut a)=true:=by
 unfold Lt.argRight at h
 simp only [Bool.and_eq_true] at h
 unfold Lt.argOk
 rw [sArg_put h.1 ok]
 simpa using h.2
theorem argOk_back {objs:Bool} {s:List UInt8} (h:Lt.argOk objs s=true):Lt.argRight objs (Lt.sArg s).1=true:=by
 unfold Lt.argOk at h
 simp only [Bool.and_eq_true] at h
 unfold Lt.argRight
 rw [(sArg_back h.1).1]
 simpa using h.2
theorem sArgs_put {objs:Bool} {l:List Lt.Arg} (h:Lt.showArgs l objs=true) (ok:Lt.argsOk l):Lt.sArgs (Lt.puts l) objs=(l,true):=by
 unfold Lt.showArgs at h
 rw [List.all_eq_true] at h
 unfold Lt.sArgs Lt.puts
 have h1:(l.map Lt.wordPut).all (Lt.argOk objs)=true:=by
  rw [List.all_eq_true]
  intro w hw
  obtain ⟨a,ha,rfl⟩:=List.mem_map.1 hw
  exact argOk_put (h a ha) (ok a ha)
 have h2:(l.map Lt.wordPut).map (fun w=>(Lt.sArg w).1)=l:=by
  rw [List.map_map]
  have:∀ a∈l,((fun w=>(Lt.sArg w).1) ∘ Lt.wordPut) a=id a:=fun a ha=>by
   show (Lt.sArg (Lt.wordPut a)).1=a
   have:=h a ha
   unfold Lt.argRight at this
   simp only [Bool.and_eq_true] at this
   rw [sArg_put this.1 (ok a ha)]
  rw [List.map_congr_left this,List.map_id]
 rw [if_pos h1,h2]
theorem sArgs_back {objs:Bool} {l:List (List UInt8)} (h:(Lt.sArgs l objs).2=true):Lt.showArgs (Lt.sArgs l objs).1 objs=true/\(Lt.sArgs l objs).1.length=l.length/\Lt.puts (Lt.sArgs l objs).1=l:=by
 unfold Lt.sArgs at h ⊢
 split at h
 ·rename_i hc
  rw [if_pos hc]
  rw [List.all_eq_true] at hc
  refine ⟨?_,by simp,?_⟩
  ·unfold Lt.showArgs
   rw [List.all_eq_true]
   intro a ha
   obtain ⟨w,hw,rfl⟩:=List.mem_map.1 ha
   exact argOk_back (hc w hw)
  ·unfold Lt.puts
   rw [List.map_map]
   have:∀ w∈l,(Lt.wordPut ∘ (fun w=>(Lt.sArg w).1)) w=id w:=fun w hw=>by
    have:=hc w hw
    unfold Lt.argOk at this
    simp only [Bool.and_eq_true] at this
    exact (sArg_back this.1).2
   rw [List.map_congr_left this,List.map_id]
 ·cases h
theorem pairsG_put {objs:Bool}:∀ {l:List Lt.Bind},(∀ b∈l,Lt.Name b.Name=true/\Lt.argRight objs b.A=true/\b.A.ok)->Lt.sPairsG objs (l.flatMap fun b=>[b.Name,Lt.wordPut b.A])=some l
 | [],_=>rfl
 | b::r,h=>by
  obtain ⟨h1,h2,h3⟩:=h b (by simp)
  have ih:=pairsG_put (l:=r) (fun x hx=>h x (by simp [hx]))
  have ha:Lt.wordRight b.A=true:=by
   unfold Lt.argRight at h2; simp only [Bool.and_eq_true] at h2; exact h2.1
  rw [List.flatMap_cons]
  show Lt.sPairsG objs (b.Name::Lt.wordPut b.A::(r.flatMap fun b=>[b.Name,Lt.wordPut b.A]))=_
  rw [Lt.sPairsG,rName_eq,h1,argOk_put h2 h3,ih,sArg_put ha h3]
  rfl
theorem pairsG_back {objs:Bool}:∀ {l:List (List UInt8)} {x:List Lt.Bind},Lt.sPairsG objs l=some x->(∀ b∈x,Lt.Name b.Name=true/\Lt.argRight objs b.A=true)/\(x.flatMap fun b=>[b.Name,Lt.wordPut b.A])=l
 | [],x,h=>by
  have:x=[]:=by simpa [Lt.sPairsG] using h.symm
  subst this; simp
 | [_],x,h=>by simp [Lt.sPairsG] at h
 | a::b::r,x,h=>by
  rw [Lt.sPairsG] at h
  split at h
  ·rename_i hc
   rw [Bool.and_eq_true,rName_eq] at hc
   cases hr:Lt.sPairsG objs r with
   | none=>simp [hr] at h
   | some y=>
    obtain ⟨k1,k2⟩:=pairsG_back hr
    simp [hr] at h
    subst h
    refine ⟨?_,?_⟩
    ·intro z hz
     rcases List.mem_cons.1 hz with rfl | hz
     ·exact ⟨hc.1,argOk_back hc.2⟩
     ·exact k1 z hz
    ·rw [List.flatMap_cons,k2]
     have:=hc.2
     unfold Lt.argOk at this
     simp only [Bool.and_eq_true] at this
     rw [(sArg_back this.1).2]; rfl
  ·simp at h
theorem opG_back (w:List UInt8):∀ (l:List (List UInt8)) (n m:Int),Lt.sOpG w l n=(m,true)->∃ i:Nat,i<l.length/\m=n+(i:Int)/\l.getD i []=w
 | [],n,m,h=>by simp [Lt.sOpG] at h
 | x::r,n,m,h=>by
  rw [Lt.sOpG] at h
  split at h
  ·rename_i hx
   exact ⟨0,by simp,by simp at h; omega,by simpa using hx⟩
  ·obtain ⟨i,h1,h2,h3⟩:=opG_back w r _ _ h
   exact ⟨i+1,by simp; omega,by omega,by simpa using h3⟩
theorem sOp_back {w:List UInt8} (h:(Lt.sOp w).2=true):(1<=(Lt.sOp w).1/\(Lt.sOp w).1<=34)/\(Lt.Of (Lt.sOp w).1).1.Word=w/\(Lt.Of (Lt.sOp w).1).2=true:=by
 have e:Lt.sOp w=((Lt.sOp w).1,true):=by rw [<- h]
 obtain ⟨i,h1,h2,h3⟩:=opG_back w (gw.drop 1) 1 (Lt.sOp w).1 e
 have hi:i < 34:=h1
 have ho:=rOf_eq (Lt.sOp w).1
 have hr1:(Lt.rOf (Lt.sOp w).1).1.Word=gw.getD (Lt.sOp w).1.toNat default:=by
  unfold Lt.rOf; rw [if_neg (by omega)]
 have hr2:(Lt.rOf (Lt.sOp w).1).2=true:=by
  unfold Lt.rOf; rw [if_neg (by omega)]
 refine ⟨by omega,?_,?_⟩
 ·rw [<- ho.2.1,hr1,h2,<- h3,show (1+(i:Int)).toNat=1+i by omega,List.getD,List.getD,List.getElem?_drop]; rfl
 ·rw [<- ho.1,hr2]
theorem sOp_put {op:Int} (h:(Lt.Of op).2=true):Lt.sOp (Lt.Of op).1.Word=(op,true):=by
 by_cases hc:1<=op/\op<=34
 ·obtain ⟨k,rfl⟩:=Int.eq_ofNat_of_zero_le (show 0<=op by omega)
  have hk:k < 35:=by omega
  have:∀ k:Fin 35,1<=k.1->Lt.sOp (Lt.Of (k.1:Int)).1.Word=((k.1:Int),true):=by decide +kernel
  exact this ⟨k,hk⟩ (by show 1<=k; omega)
 ·exfalso
  rw [<- (rOf_eq op).1] at h
  unfold Lt.rOf at h
  rw [if_pos (by omega)] at h
  cases h
end Go.Am
end

section
namespace Go.Am
open Go
set_option linter.unusedVariables false
set_option linter.unusedSimpArgs false
theorem joinB_app (a b:List Lt.Line):Lt.joinB (a++b)=Lt.joinB a++Lt.joinB b:=by simp [Lt.joinB]
theorem joinB_ln (w:List (List UInt8)):Lt.joinB [Lt.ln w]=Lt.lnT w:=by simp [Lt.joinB,Lt.ln,Lt.lnT]
theorem joinB_map {α:Type} (f:α->List (List UInt8)) (l:List α):Lt.joinB (l.map fun x=>Lt.ln (f x))=l.flatMap fun x=>Lt.lnT (f x):=by
 induction l with
 | nil=>rfl
 | cons a r ih=>rw [List.map_cons,List.flatMap_cons,<- ih,<- joinB_ln,<- joinB_app]; rfl
theorem joinB_flat {α:Type} (f:α->List Lt.Line) (l:List α):Lt.joinB (l.flatMap f)=l.flatMap fun x=>Lt.joinB (f x):=by
 induction l with
 | nil=>rfl
 | cons a r ih=>rw [List.flatMap_cons,List.flatMap_cons,joinB_app,ih]
theorem flat_congr {α β:Type} {f g:α->List β} {l:List α} (h:∀ x∈l,f x=g x):l.flatMap f=l.flatMap g:=by
 induction l with
 | nil=>rfl
 | cons a r ih=>rw [List.flatMap_cons,List.flatMap_cons,h a (by simp),ih (fun x hx=>h x (by simp [hx]))]
theorem rWords_eq {i:Lt.Instr} (h:Lt.instr i=true):Lt.rWords i=Lt.words i:=by
 have ho:=instr_ok h
 obtain ⟨_,e2,e3,e4,_,_⟩:=rOf_eq i.Op
 unfold Lt.rWords Lt.words Lt.rHead Lt.puts
 have ew:Lt.rWord=Lt.wordPut:=funext word_eq
 rw [e2,e3,e4,ew]
 by_cases hc:i.Op=26\/i.Op=27
 ·have:=ho.least hc
  cases ha:i.Args with
  | nil=>rw [ha] at this; simp at this
  | cons a r=>rw [if_pos ⟨hc,by simp⟩,if_pos hc]; simp
 ·rw [if_neg (fun h=>hc h.1),if_neg hc]; simp
theorem end_cases {t:Lt.Term} (h:Lt.showEnd t=true) :
  (∃ x,t=⟨1,⟨0,[],0⟩,[x],0⟩/\Lt.Name x=true)\/(∃ a x y,t=⟨2,a,[x,y],0⟩/\Lt.argRight false a=true/\Lt.Name x=true/\Lt.Name y=true) \/
  (∃ a,t=⟨3,a,[],0⟩/\Lt.argRight false a=true)\/(∃ n,t=⟨4,⟨0,[],0⟩,[],n⟩):=by
 obtain ⟨k,a,to,n⟩:=t
 unfold Lt.showEnd Lt.noArg at h
 simp only [Bool.and_eq_true,List.all_eq_true] at h
 obtain ⟨hto,h⟩:=h
 split at h
 ·rename_i hk
  simp only [Bool.and_eq_true,decide_eq_true_eq] at h
  obtain ⟨⟨rfl,hl⟩,rfl⟩:=h
  subst hk
  match to,hl with
  | [x],_=>exact .inl ⟨x,rfl,hto x (by simp)⟩
 split at h
 ·rename_i hk
  simp only [Bool.and_eq_true,decide_eq_true_eq] at h
  obtain ⟨⟨ha,hl⟩,rfl⟩:=h
  subst hk
  match to,hl with
  | [x,y],_=>exact .inr (.inl ⟨a,x,y,rfl,ha,hto x (by simp),hto y (by simp)⟩)
 split at h
 ·rename_i hk
  simp only [Bool.and_eq_true,decide_eq_true_eq] at h
  obtain ⟨⟨ha,hl⟩,rfl⟩:=h
  subst hk
  match to,hl with
  | [],_=>exact .inr (.inr (.inl ⟨a,rfl,ha⟩))
 split at h
 ·rename_i hk
  simp only [Bool.and_eq_true,decide_eq_true_eq] at h
  obtain ⟨rfl,hl⟩:=h
  subst hk
  match to,hl with
  | [],_=>exact .inr (.inr (.inr ⟨n,rfl⟩))
 ·cases h
theorem rEndT_eq {t:Lt.Term} (h:Lt.showEnd t=true):Lt.rEndT t=Lt.lnT (Lt.endW t):=by
 unfold Lt.rEndT Lt.rEndW Lt.endW Lt.rNum
 rcases end_cases h with ⟨x,rfl,_⟩ | ⟨a,x,y,rfl,_⟩ | ⟨a,rfl,_⟩ | ⟨n,rfl⟩
 ·rfl
 ·simp [word_eq]
 ·simp [word_eq]
 ·simp
theorem rVarsT_eq (first:List UInt8) (l:List Lt.Var):Lt.rVarsT first l=Lt.joinB (Lt.varsL first l):=(joinB_map (fun v:Lt.Var=>[first,v.Name,v.Type_]) l).symm
theorem rCodeT_eq {i:Lt.Instr} (h:Lt.instr i=true):Lt.rCodeT i=Lt.joinB (Lt.codeL i):=by
 have ew:Lt.rWord=Lt.wordPut:=funext word_eq
 unfold Lt.rCodeT Lt.codeL
 rw [joinB_app,joinB_app,joinB_ln,joinB_map,joinB_map,rWords_eq h]
 unfold Lt.rFrameW Lt.frameW Lt.rVirtW Lt.virtW Lt.puts
 rw [ew]; rfl
theorem rBlockT_eq {b:Lt.Block} (h:Lt.block b=true):Lt.rBlockT b=Lt.joinB (Lt.blockL b):=by
 have ew:Lt.rWord=Lt.wordPut:=funext word_eq
 obtain ⟨_,he,_,hc⟩:=block_ok h
 unfold Lt.rBlockT Lt.blockL
 rw [joinB_app,joinB_app,joinB_app,joinB_ln,joinB_map,joinB_flat,joinB_ln,rEndT_eq he,flat_congr (fun x hx=>rCodeT_eq (hc x hx))]
 unfold Lt.rPhiW Lt.phiW
 rw [ew]
theorem rFuncT_eq {f:Lt.Func} (h:Lt.showFunction f=true):Lt.rFuncT f=Lt.joinB (Lt.funcL f):=by
 have ho:=func_ok h
 unfold Lt.rFuncT Lt.funcL
 rw [joinB_app,joinB_app,joinB_app,joinB_ln,joinB_flat,<- rVarsT_eq,<- rVarsT_eq,flat_congr (fun x hx=>rBlockT_eq (ho.bl x hx))]
theorem rLines_eq {p:Lt.Program} (h:Lt.showRight p=true):Lt.rLines p=Lt.joinB (Lt.progL p):=by
 have ho:=prog_ok h
 unfold Lt.rLines Lt.progL
 rw [joinB_app,joinB_app,joinB_app,joinB_app,joinB_flat,joinB_flat,<- rVarsT_eq,flat_congr (fun x hx=>rFuncT_eq (ho.fn x hx))]
 have e1:p.Classes.flatMap Lt.rClassT=p.Classes.flatMap fun x=>Lt.joinB (Lt.classL x):=flat_congr (fun c _=>by
  unfold Lt.rClassT Lt.classL; rw [joinB_app,joinB_ln,<- rVarsT_eq])
 have e2:p.Externs.flatMap Lt.rExternT=Lt.joinB (p.Externs.map Lt.externL):=(joinB_map (fun x:Lt.Extern=>[[101,120,116,101,114,110],x.Name,Lt.number x.N]) p.Externs).symm
 have e3:(if p.SSA=true then Lt.lnT [[115,115,97]] else [])=Lt.joinB (if p.SSA=true then [Lt.ln [[115,115,97]]] else []):=by
  split
  ·exact (joinB_ln _).symm
  ·rfl
 rw [e1,e2,e3]
def goodB (c:UInt8):Bool:=decide (33<=c.toNat)&&decide (c.toNat<=126)&&!decide (c=59)
def goodW (w:List UInt8):Prop:=w≠[]/\∀ c∈w,goodB c=true
def goodL (x:Lt.Line):Prop:=x.Words≠[]/\∀ w∈x.Words,goodW w
theorem good_of_dec {w:List UInt8} (h:(!decide (w=[])&&w.all goodB)=true):goodW w:=by
 simp only [Bool.and_eq_true,Bool.not_eq_true',decide_eq_false_iff_not,List.all_eq_true] at h
 exact h
theorem nameByte_good {c:UInt8} (h:Lt.nameByte c=true):goodB c=true:=by
 unfold Lt.nameByte Lt.letter Lt.letterI Lt.wordDigit at h
 unfold goodB
 simp only [Bool.or_eq_true,Bool.and_eq_true,decide_eq_true_eq,Bool.not_eq_true',decide_eq_false_iff_not] at h ⊢
 refine ⟨⟨by omega,by omega⟩,?_⟩
 rintro rfl
 simp at h
theorem Name_good {s:List UInt8} (h:Lt.Name s=true):goodW s:=by
 unfold Lt.Name at h
 simp only [Bool.and_eq_true,Bool.not_eq_true',decide_eq_false_iff_not,List.all_eq_true] at h
 exact ⟨h.1.1.1.1,fun c hc=>nameByte_good (h.2 c hc)⟩
theorem kind_good {s:List UInt8} (h:Lt.kind s=true):goodW s:=by
 unfold Lt.kind at h
 simp only [Bool.or_eq_true,decide_eq_true_eq] at h
 rcases h with (rfl | rfl) | h
 ·exact good_of_dec (by decide)
 ·exact good_of_dec (by decide)
 ·exact Name_good h
theorem num_good (n:Int):goodW (Lt.numPut n):=by
 refine ⟨numPut_ne n,fun c hc=>?_⟩
 rcases numPut_byte n c hc with rfl | h
 ·decide
 ·unfold goodB
  simp only [Bool.and_eq_true,decide_eq_true_eq,Bool.not_eq_true',decide_eq_false_iff_not]
  refine ⟨⟨by omega,by omega⟩,?_⟩
  rintro rfl
  simp at h
theorem hexN_good (k:Nat):goodB (hexN k)=true:=by
 unfold hexN
 have h:k % 16 < 16:=Nat.mod_lt _ (by decide)
 generalize k % 16=j at h
 have:∀ j:Fin 16,goodB (hexT.getD j.1 0)=true:=by decide
 exact this ⟨j,h⟩
theorem flo_good (n:Int):goodW (Lt.floPut n):=by
 refine ⟨by simp [Lt.floPut],fun c hc=>?_⟩
 rw [<- flo_eq] at hc
 unfold Lt.rFlo at hc
 rw [wrapu_eq,hexR_eq 16 _ _ (BitVec.isLt _),List.append_nil] at hc
 rcases List.mem_append.1 hc with hc | hc
 ·simp only [List.mem_cons,List.not_mem_nil,or_false] at hc
  rcases hc with rfl | rfl <;> decide
 ·obtain ⟨i,_,rfl⟩:=List.mem_map.1 hc
  exact hexN_good _
theorem word_good {a:Lt.Arg} (h:Lt.wordRight a=true):goodW (Lt.wordPut a):=by
 obtain ⟨k,s,n⟩:=a
 rcases wordRight_cases h with ⟨hk,hN,hn⟩ | ⟨hk,hs⟩ | ⟨hk,hs,hp⟩ | ⟨hk,hs,hn⟩ | ⟨hk,hs,h0,h1⟩
 ·simp only at hk hN hn; subst hk; subst hn
  rw [word1 hN]; exact Name_good hN
 ·simp only at hk hs; subst hk; subst hs
  rw [word2]; exact num_good n
 ·simp only at hk hs hp; subst hk; subst hs
  rw [word3 hp]; exact flo_good n
 ·simp only at hk hs hn; subst hk; subst hs; subst hn
  rw [word4]; exact good_of_dec (by decide)
 ·simp only at hk hs h0 h1; subst hk; subst hs
  rw [word5 h0 h1]
  refine ⟨by simp,fun c hc=>?_⟩
  rcases List.mem_cons.1 hc with rfl | hc
  ·decide
  ·exact (num_good n).2 c hc
theorem arg_good {objs:Bool} {a:Lt.Arg} (h:Lt.argRight objs a=true):goodW (Lt.wordPut a):=by
 unfold Lt.argRight at h
 simp only [Bool.and_eq_true] at h
 exact word_good h.1
theorem puts_good {objs:Bool} {l:List Lt.Arg} (h:Lt.showArgs l objs=true):∀ w∈Lt.puts l,goodW w:=by
 intro w hw
 obtain ⟨a,ha,rfl⟩:=List.mem_map.1 hw
 unfold Lt.showArgs at h
 exact arg_good (List.all_eq_true.1 h a ha)
theorem Of_good {op:Int} (h:(Lt.Of op).2=true):goodW (Lt.Of op).1.Word:=by
 by_cases hc:1<=op/\op<=34
 ·obtain ⟨k,rfl⟩:=Int.eq_ofNat_of_zero_le (show 0<=op by omega)
  have hk:k < 35:=by omega
  have:∀ k:Fin 35,1<=k.1->(!decide ((Lt.Of (k.1:Int)).1.Word=[])&&(Lt.Of (k.1:Int)).1.Word.all goodB)=true:=by decide +kernel
  exact good_of_dec (this ⟨k,hk⟩ (by show 1<=k; omega))
 ·exfalso
  rw [<- (rOf_eq op).1] at h
  unfold Lt.rOf at h
  rw [if_pos (by omega)] at h
  cases h
theorem good_cons {w:List UInt8} {l:List (List UInt8)} (h:goodW w) (hl:∀ v∈l,goodW v):∀ v∈w::l,goodW v:=by
 intro v hv
 rcases List.mem_cons.1 hv with rfl | hv
 ·exact h
 ·exact hl v hv
theorem good_nil:∀ v∈([]:List (List UInt8)),goodW v:=by simp
theorem good_app {a b:List (List UInt8)} (h:∀ v∈a,goodW v) (hl:∀ v∈b,goodW v):∀ v∈a++b,goodW v:=by
 intro v hv
 rcases List.mem_append.1 hv with hv | hv
 ·exact h v hv
 ·exact hl v hv
theorem good_flat {α:Type} {n:α->List UInt8} {a:α->List UInt8} {l:List α} (h:∀ x∈l,goodW (n x)/\goodW (a x)):∀ v∈l.flatMap (fun x=>[n x,a x]),goodW v:=by
 intro v hv
 obtain ⟨x,hx,hv⟩:=List.mem_flatMap.1 hv
 simp only [List.mem_cons,List.not_mem_nil,or_false] at hv
 rcases hv with rfl | rfl
 ·exact (h x hx).1
 ·exact (h x hx).2
theorem words_good {i:Lt.Instr} (h:Lt.instr i=true):goodL (Lt.ln (Lt.words i)):=by
 have ho:=instr_ok h
 have hp:=puts_good ho.aok
 refine ⟨by simp [Lt.ln,Lt.words],?_⟩
 show ∀ w∈Lt.words i,goodW w
 unfold Lt.words
 refine good_app (good_app ?_ (good_cons (Of_good ho.of) good_nil)) ?_
 ·split
  ·rename_i hd; exact good_cons (Name_good (ho.dstN hd)) (good_cons (good_of_dec (by decide)) good_nil)
  ·exact good_nil
 ·split
  ·rename_i hc
   have hl:=ho.least hc
   have hN:(Lt.Of i.Op).1.Named=true:=by rcases hc with e | e <;> rw [e] <;> decide +kernel
   cases ha:i.Args with
   | nil=>rw [ha] at hl; simp at hl
   | cons a r=>
    rw [ha] at hp
    exact good_cons (hp _ (by simp [Lt.puts])) (good_cons (Name_good (ho.nmN hN)) (fun v hv=>hp v (by
     have:v∈r.map Lt.wordPut:=hv
     simp [Lt.puts]; right; simpa using this)))
  ·refine good_app ?_ hp
   split
   ·rename_i hd; exact good_cons (Name_good (ho.nmN hd)) good_nil
   ·exact good_nil
theorem varsL_good {first:List UInt8} (hf:goodW first) {l:List Lt.Var} {n:Int} (h:Lt.typed l n=true):∀ x∈Lt.varsL first l,goodL x:=by
 intro x hx
 obtain ⟨v,hv,rfl⟩:=List.mem_map.1 hx
 unfold Lt.typed at h
 simp only [Bool.and_eq_true,List.all_eq_true] at h
 have:=h.2 v hv
 exact ⟨by simp [Lt.ln],good_cons hf (good_cons (Name_good this.1) (good_cons (kind_good this.2) good_nil))⟩
theorem codeL_good {i:Lt.Instr} (h:Lt.instr i=true):∀ x∈Lt.codeL i,goodL x:=by
 have ho:=instr_ok h
 unfold Lt.codeL
 intro x hx
 rcases List.mem_append.1 hx with hx | hx
 ·rcases List.mem_append.1 hx with hx | hx
  ·rw [List.mem_singleton.1 hx]; exact words_good h
  ·obtain ⟨f,hf,rfl⟩:=List.mem_map.1 hx
   obtain ⟨h1,h2,_,_,_,h3⟩:=frame_ok (ho.fr f hf)
   refine ⟨by simp [Lt.ln,Lt.frameW],good_app (good_cons (good_of_dec (by decide)) (good_cons (Name_good h1) (good_cons (Name_good h2) (good_cons (num_good _) good_nil)))) (good_flat (fun b hb=>?_))⟩
   have:=h3 b hb
   unfold Lt.bindRight at this
   simp only [Bool.and_eq_true] at this
   exact ⟨Name_good this.1,arg_good this.2⟩
 ·obtain ⟨o,hm,rfl⟩:=List.mem_map.1 hx
  obtain ⟨h1,_,h3⟩:=virt_ok (ho.ob o hm)
  exact ⟨by simp [Lt.ln,Lt.virtW],good_app (good_cons (good_of_dec (by decide)) (good_cons (Name_good h1) good_nil)) (puts_good h3)⟩
theorem blockL_good {b:Lt.Block} (h:Lt.block b=true):∀ x∈Lt.blockL b,goodL x:=by
 obtain ⟨hn,he,hp,hc⟩:=block_ok h
 unfold Lt.blockL
 intro x hx
 rcases List.mem_append.1 hx with hx | hx
 ·rcases List.mem_append.1 hx with hx | hx
  ·rcases List.mem_append.1 hx with hx | hx
   ·rw [List.mem_singleton.1 hx]
    exact ⟨by simp [Lt.ln],good_cons (good_of_dec (by decide)) (good_cons (Name_good hn) good_nil)⟩
   ·obtain ⟨y,hy,rfl⟩:=List.mem_map.1 hx
    obtain ⟨h1,_,_,h3⟩:=phi_ok (hp y hy)
    refine ⟨by simp [Lt.ln,Lt.phiW],good_app (good_cons (good_of_dec (by decide)) (good_cons (Name_good h1) good_nil)) (good_flat (fun i hi=>?_))⟩
    have:=h3 i hi
    unfold Lt.inRight at this
    simp only [Bool.and_eq_true] at this
    exact ⟨Name_good this.1,arg_good this.2⟩
  ·obtain ⟨i,hi,hx⟩:=List.mem_flatMap.1 hx
   exact codeL_good (hc i hi) x hx
 ·rw [List.mem_singleton.1 hx]
  generalize b.End=t at he
  rcases end_cases he with ⟨x,rfl,h1⟩ | ⟨a,x,y,rfl,h1,h2,h3⟩ | ⟨a,rfl,h1⟩ | ⟨n,rfl⟩
  ·exact ⟨by simp [Lt.ln,Lt.endW],good_cons (good_of_dec (by decide)) (good_cons (Name_good h1) good_nil)⟩
  ·exact ⟨by simp [Lt.ln,Lt.endW],good_cons (good_of_dec (by decide)) (good_cons (arg_good h1) (good_cons (Name_good h2) (good_cons (Name_good h3) good_nil)))⟩
  ·exact ⟨by simp [Lt.ln,Lt.endW],good_cons (good_of_dec (by decide)) (good_cons (arg_good h1) good_nil)⟩
  ·exact ⟨by simp [Lt.ln,Lt.endW],good_cons (good_of_dec (by decide)) (good_cons (num_good _) good_nil)⟩
theorem funcL_good {f:Lt.Func} (h:Lt.showFunction f=true):∀ x∈Lt.funcL f,goodL x:=by
 have ho:=func_ok h
 unfold Lt.funcL
 intro x hx
 rcases List.mem_append.1 hx with hx | hx
 ·rcases List.mem_append.1 hx with hx | hx
  ·rcases List.mem_append.1 hx with hx | hx
   ·rw [List.mem_singleton.1 hx]
    exact ⟨by simp [Lt.ln],good_cons (good_of_dec (by decide)) (good_cons (Name_good ho.name) (good_cons (kind_good ho.res) good_nil))⟩
   ·exact varsL_good (good_of_dec (by decide)) ho.params x hx
  ·exact varsL_good (good_of_dec (by decide)) ho.vars x hx
 ·obtain ⟨b,hb,hx⟩:=List.mem_flatMap.1 hx
  exact blockL_good (ho.bl b hb) x hx
theorem progL_good {p:Lt.Program} (h:Lt.showRight p=true):∀ x∈Lt.progL p,goodL x:=by
 have ho:=prog_ok h
 unfold Lt.progL
 intro x hx
 rcases List.mem_append.1 hx with hx | hx
 ·rcases List.mem_append.1 hx with hx | hx
  ·rcases List.mem_append.1 hx with hx | hx
   ·rcases List.mem_append.1 hx with hx | hx
    ·split at hx
     ·rw [List.mem_singleton.1 hx]
      exact ⟨by simp [Lt.ln],good_cons (good_of_dec (by decide)) good_nil⟩
     ·cases hx
    ·obtain ⟨c,hc,hx⟩:=List.mem_flatMap.1 hx
     have hr:=ho.cl c hc
     unfold Lt.classRight at hr
     simp only [Bool.and_eq_true] at hr
     unfold Lt.classL at hx
     rcases List.mem_append.1 hx with hx | hx
     ·rw [List.mem_singleton.1 hx]
      exact ⟨by simp [Lt.ln],good_cons (good_of_dec (by decide)) (good_cons (Name_good hr.1) good_nil)⟩
     ·exact varsL_good (good_of_dec (by decide)) hr.2 x hx
   ·exact varsL_good (good_of_dec (by decide)) ho.glob x hx
  ·obtain ⟨e,he,rfl⟩:=List.mem_map.1 hx
   have hr:=ho.ex e he
   unfold Lt.externRight at hr
   simp only [Bool.and_eq_true] at hr
   exact ⟨by simp [Lt.ln,Lt.externL],good_cons (good_of_dec (by decide)) (good_cons (Name_good hr.1.1) (good_cons (num_good _) good_nil))⟩
 ·obtain ⟨f,hf,hx⟩:=List.mem_flatMap.1 hx
  exact funcL_good (ho.fn f hf) x hx
theorem split_word:∀ (w r:List UInt8) (k:Lt.Cut),(∀ c∈w,goodB c=true)->k.remark=false->Lt.sSplitG (w++r) k=Lt.sSplitG r { k with w:=k.w++w }
 | [],r,k,_,_=>by simp
 | c::w,r,k,h,hr=>by
  have hc:=h c (by simp)
  unfold goodB at hc
  simp only [Bool.and_eq_true,decide_eq_true_eq,Bool.not_eq_true',decide_eq_false_iff_not] at hc
  have n10:¬ c=10:=by rintro rfl; simp at hc
  have n32:¬ c=32:=by rintro rfl; simp at hc
  have n9:¬ c=9:=by rintro rfl; simp at hc
  have eb:k.byte c={ k with w:=k.w++[c] }:=by
   unfold Lt.Cut.byte
   rw [if_neg hc.2,if_neg (by simp [hr,n32,n9])]
   have:(decide (c.toNat < 33)||decide (126<c.toNat))=false:=by simp; omega
   rw [this,Bool.or_false]
  rw [List.cons_append,Lt.sSplitG,if_neg n10,eb,split_word w r { k with w:=k.w++[c] } (fun x hx=>h x (by simp [hx])) hr]
  simp
theorem split_line:∀ (ws:List (List UInt8)) (r:List UInt8) (out:List Lt.RLine) (l:List (List UInt8)) (w:List UInt8) (n:Int),(∀ v∈ws,goodW v)->w≠[] ->
  Lt.sSplitG (Lt.jw true ws++10::r) ⟨out,l,w,n,false,false⟩=Lt.sSplitG r ⟨out++[⟨n,l++w::ws⟩],[],[],n+1,false,false⟩
 | [],r,out,l,w,n,_,hw=>by
  rw [Lt.jw,List.nil_append,Lt.sSplitG,if_pos rfl,if_neg (show ¬ false=true by decide)]
  simp [Lt.Cut.line,Lt.Cut.word,hw]
 | v::vs,r,out,l,w,n,h,hw=>by
  have hv:=h v (by simp)
  rw [Lt.jw,if_pos rfl]
  show Lt.sSplitG (32::(v++Lt.jw true vs++10::r)) _=_
  rw [Lt.sSplitG,if_neg (by decide)]
  have eb:(⟨out,l,w,n,false,false⟩:Lt.Cut).byte 32=⟨out,l++[w],[],n,false,false⟩:=by
   unfold Lt.Cut.byte
   rw [if_neg (by decide),if_pos (show (false||decide ((32:UInt8)=32)||decide ((32:UInt8)=9))=true from rfl)]
   simp [Lt.Cut.word,hw]
  rw [eb,List.append_assoc,split_word v _ _ hv.2 rfl]
  simp only [List.nil_append]
  rw [split_line vs r out (l++[w]) v n (fun x hx=>h x (by simp [hx])) hv.1]
  simp
def numb:Int->List Lt.Line->List Lt.RLine
 | _,[]=>[]
 | n,x::t=>⟨n,x.Words⟩::numb (n+1) t
theorem split_lines:∀ (L:List Lt.Line) (out:List Lt.RLine) (n:Int),(∀ x∈L,goodL x)->Lt.sSplitG (Lt.joinB L) ⟨out,[],[],n,false,false⟩=(out++numb n L,0,0)
 | [],out,n,_=>by simp [Lt.joinB,Lt.sSplitG,Lt.Cut.line,Lt.Cut.word,numb]
 | x::t,out,n,h=>by
  obtain ⟨hne,hx⟩:=h x (by simp)
  cases hw:x.Words with
  | nil=>exact absurd hw hne
  | cons w ws=>
   rw [hw] at hx
   have hv:=hx w (by simp)
   have e:Lt.joinB (x::t)=w++(Lt.jw true ws++10::Lt.joinB t):=by
    simp [Lt.joinB,hw,Lt.jw]
   rw [e,split_word w _ _ hv.2 rfl]
   simp only [List.nil_append]
   rw [split_line ws _ out [] w n (fun v hv=>hx v (by simp [hv])) hv.1,split_lines t _ _ (fun y hy=>h y (by simp [hy]))]
   simp [numb,hw]
theorem split_join {L:List Lt.Line} (h:∀ x∈L,goodL x) (hl:(Lt.joinB L).length<=4194304):Lt.sSplit (Lt.joinB L)=(numb 1 L,0,0):=by
 unfold Lt.sSplit
 rw [if_neg (by omega),split_lines L [] 1 h]; rfl
end Go.Am
end

section
namespace Go.Am
open Go
set_option linter.unusedVariables false
set_option linter.unusedSimpArgs false
theorem law_sArgs (l:List (List UInt8)) (objs:Bool) (hp:Lt.preWords l objs) (KK:List Lt.Arg×Bool->Prop) (h:KK (Lt.sArgs l objs)):F_sArgs l objs KK:=by
 unfold F_sArgs; (try simp only [jn_app,jn_and,jn_imp,jval,bor,band,bnand,bimp,and_self])
 have hr:l.length<=1099511627776:=hp
 refine loop_len (fun hl=>?_)
 refine nat_loop _ l.length (fun i x=>x=((l.take i).map (fun w=>(Lt.sArg w).1),(i:Int))/\(l.take i).all (Lt.argOk objs)=true) (fun R i x hlt hx hR=>?_) (fun R x hx=>?_) _ ⟨rfl,rfl⟩
 ·obtain ⟨rfl,hh⟩:=hx
  simp only [lt_t hlt,if_true,Int.toNat_natCast]
  refine ⟨⟨Int.natCast_nonneg i,hlt⟩,?_⟩
  refine ifk (fun hc=>?_) (fun hc=>?_)
  ·refine kk h ?_
   have hn:l.all (Lt.argOk objs)=false:=by
    rw [List.all_eq_false]
    refine ⟨_,mem_getD l hlt,?_⟩
    unfold Lt.argOk
    grind
   unfold Lt.sArgs; rw [hn]; rfl
  ·refine ⟨⟨?_,?_⟩,?_⟩
   ·simp only [List.length_map,List.length_take,List.length_singleton]; omega
   ·simp only [List.length_map,List.length_take,List.length_singleton]; omega
   ·have e:=take_snoc l hlt
    refine hR _ ⟨?_,?_⟩
    ·rw [wrap_succ (by omega),e,List.map_append]; rfl
    ·rw [e,List.all_append,hh]
     unfold Lt.argOk
     simp only [List.all_cons,List.all_nil]
     grind
 ·obtain ⟨rfl,hh⟩:=hx
  rw [List.take_length] at hh ⊢
  unfold Lt.sArgs at h
  rw [if_pos hh] at h
  simp only [lt_f,Bool.false_eq_true,if_false]
  exact h
theorem one_drop (l:List (List UInt8)) {i:Nat} (h:i+1<l.length):(l.drop (i+1)).take (i+2 - (i+1))=[l.getD (i+1) default]:=by
 have e:i+2 - (i+1)=1:=by omega
 rw [e,List.drop_eq_getElem_cons h,List.getD,List.getElem?_eq_getElem h]; rfl
theorem sArgs_one (w:List UInt8) (objs:Bool):Lt.sArgs [w] objs=if Lt.argOk objs w=true then ([(Lt.sArg w).1],true) else ([],false):=by
 unfold Lt.sArgs
 by_cases h:Lt.argOk objs w=true <;> simp [h]
theorem sNames_one (w:List UInt8):Lt.sNames [w]=Lt.rName w:=by simp [Lt.sNames]
theorem sNames_two (v w:List UInt8):Lt.sNames [v,w]=(Lt.rName v&&Lt.rName w):=by simp [Lt.sNames]
theorem pairs_odd (objs:Bool):∀ (l:List (List UInt8)),l.length % 2=1->Lt.sPairsG objs l=none
 | [],h=>by simp at h
 | [_],_=>rfl
 | a::b::r,h=>by
  have:=pairs_odd objs r (by simp only [List.length_cons] at h; omega)
  rw [Lt.sPairsG,this]; split <;> rfl
theorem law_sPairs (l:List (List UInt8)) (f:Int) (objs:Bool) (hp:Lt.prePairs l f objs) (KK:List Lt.Bind×Bool->Prop) (h:KK (Lt.sPairs l f objs)):F_sPairs l f objs KK:=by
 obtain ⟨hr,hf0,hf4⟩:=hp
 have hr:l.length<=1099511627776:=hr
 obtain ⟨n,rfl⟩:=Int.eq_ofNat_of_zero_le hf0
 unfold F_sPairs; dsimp only
 rw [show ((n:Nat):Int)=(Int.ofNat n) from rfl] at *
 have tm:∀ k:Nat,Int.tmod (k:Int) 2=((k % 2:Nat):Int):=fun k=>by rw [Int.tmod_eq_emod_of_nonneg (by omega)]; rfl
 intro J1 hJ1 hl
 have hB:=hJ1 (decide ((l.length:Int)<Int.ofNat n)||!decide (Int.tmod (IntKind.i64.wrap ((l.length:Int)-Int.ofNat n)) 2=0)) ?_
 ·refine ifk (fun hc=>?_) (fun hc=>⟨by decide,?_⟩)
  ·rw [hc] at hB; exact hB
  ·rw [Bool.eq_false_iff.2 hc] at hB; exact hB
 simp only [jn_app,jn_and,jn_imp,jval,bor,sNames_one]
 refine ifk (fun hc=>?_) (fun hc=>?_)
 ·refine kk h ?_
  unfold Lt.sPairs
  by_cases h1:(l.length:Int)<Int.ofNat n
  ·rw [if_pos h1]
  ·rw [if_neg h1]
   have h1:n<=l.length:=by simp at h1; omega
   have h2:(l.length-n) % 2=1:=by
    simp only [Bool.or_eq_true,decide_eq_true_eq,Bool.not_eq_true',decide_eq_false_iff_not] at hc
    rcases hc with hc | hc
    ·simp at hc; omega
    ·rw [wrap_i64 (by simp; omega) (by simp; omega)] at hc
     rw [show ((l.length:Int)-Int.ofNat n)=((l.length-n:Nat):Int) from by simp; omega,tm] at hc
     omega
   rw [show (Int.ofNat n).toNat=n from rfl,pairs_odd objs (l.drop n) (by rw [List.length_drop]; exact h2)]
 ·simp only [Bool.or_eq_true,decide_eq_true_eq,Bool.not_eq_true',decide_eq_false_iff_not,not_or,Decidable.not_not] at hc
  obtain ⟨h1,h2⟩:=hc
  have h1:n<=l.length:=by simp at h1; omega
  rw [wrap_i64 (by simp; omega) (by simp; omega)] at h2
  rw [show ((l.length:Int)-Int.ofNat n)=((l.length-n:Nat):Int) from by simp; omega,tm] at h2
  have h2:(l.length-n) % 2=0:=by omega
  obtain ⟨m,hm⟩:∃ m,l.length=n+2*m:=⟨(l.length-n) / 2,by omega⟩
  have hs:Lt.sPairs l (Int.ofNat n) objs=match Lt.sPairsG objs (l.drop n) with | some x=>(x,true) | none=>([],false):=by
   unfold Lt.sPairs; rw [if_neg (by simp; omega)]; rfl
  refine nat_loop _ m (fun i x=>∃ acc:List Lt.Bind,x=(acc,((n+2*i:Nat):Int))/\acc.length<=i/\Lt.sPairsG objs (l.drop n)=(Lt.sPairsG objs (l.drop (n+2*i))).map (acc++·)) (fun R i x hi hx hR=>?_) (fun R x hx=>?_) _ ⟨[],rfl,by simp,by simp⟩
  ·obtain ⟨acc,rfl,ha,hx⟩:=hx
   have h3:n+2*i+1<l.length:=by omega
   have h4:n+2*i<l.length:=by omega
   have w1:IntKind.i64.wrap (((n+2*i:Nat):Int)+1)=((n+2*i+1:Nat):Int):=wrap_succ (by omega)
   have w2:IntKind.i64.wrap (((n+2*i:Nat):Int)+2)=((n+2*i+2:Nat):Int):=by rw [wrap_i64 (by omega) (by omega)]; rfl
   have hd:l.drop (n+2*i)=l.getD (n+2*i) default::l.getD (n+2*i+1) default::l.drop (n+2*(i+1)):=by
    rw [List.drop_eq_getElem_cons h4,List.drop_eq_getElem_cons h3]
    rw [List.getD,List.getD,List.getElem?_eq_getElem h4,List.getElem?_eq_getElem h3]; rfl
   simp only [w1,w2,lt_t h4,if_true,Int.toNat_natCast,one_drop l h3]
   rw [hd,Lt.sPairsG] at hx
   rw [sArgs_one]
   refine fun hl=>⟨by omega,by omega,⟨by omega,by omega⟩,?_,⟨by omega,h4⟩,?_⟩
   ·show 1<=Lt.room
    decide
   by_cases hh:(Lt.rName (l.getD (n+2*i) default)&&Lt.argOk objs (l.getD (n+2*i+1) default))=true
   ·rw [if_pos hh] at hx
    simp only [Bool.and_eq_true] at hh
    rw [if_pos hh.2,hh.1]
    simp only [Bool.not_true,Bool.or_false,Bool.false_eq_true,if_false]
    refine ⟨⟨by omega,h4⟩,⟨by decide,by simp⟩,⟨⟨by simp; omega,by simp; omega⟩,?_⟩⟩
    refine hR _ ⟨_,rfl,by simp; omega,?_⟩
    rw [hx]
    cases Lt.sPairsG objs (l.drop (n+2*(i+1))) <;> simp
   ·rw [if_neg hh] at hx
    rw [if_pos ?_]
    ·refine kk h ?_
     rw [hs,hx]; rfl
    ·by_cases ha:Lt.argOk objs (l.getD (n+2*i+1) default)=true <;> grind
  ·obtain ⟨acc,rfl,ha,hx⟩:=hx
   rw [<- hm] at hx ⊢
   simp only [lt_f,Bool.false_eq_true,if_false]
   refine fun _=>kk h ?_
   rw [hs,hx,List.drop_length]
   simp [Lt.sPairsG]
end Go.Am
end

section
namespace Go.Am
open Go
set_option linter.unusedVariables false
set_option linter.unusedSimpArgs false
theorem sTyped_len {l:List (List UInt8)} (h:Lt.sTyped l=true):l.length=3:=by
 unfold Lt.sTyped at h
 simp only [Bool.and_eq_true,decide_eq_true_eq] at h
 exact h.1
theorem typed_le {l:List Lt.Var} {k:Nat} (h:Lt.typed l k=true):l.length<=k:=by
 unfold Lt.typed at h
 simp only [Bool.and_eq_true,decide_eq_true_eq] at h
 omega
theorem sLimit_0 (n most:Int):(Lt.sLimit n most=0)=(n<most):=by
 unfold Lt.sLimit
 by_cases h:most<=n <;> simp [h] <;> omega
theorem app_ok {n c:Nat} (h:n<=5000) (hc:c<=200):(n+1<=4611686018427387904/\(n+1)*c<=140737488355328)=True:=by
 have:(n+1)*c<=5001*200:=Nat.mul_le_mul (by omega) hc
 simp; omega
theorem one_lt {l:List (List UInt8)} (h:1<l.length):((0:Int)<=1/\1<l.length)=True:=by simp [h]
theorem two_lt {l:List (List UInt8)} (h:2<l.length):((0:Int)<=2/\2<l.length)=True:=by simp [h]
theorem wrap_last {α:Type} {l:List α} (h:l≠[]) (h8:l.length<=5000):IntKind.i64.wrap ((l.length:Int) - 1)=((l.length - 1:Nat):Int):=by
 have:0<l.length:=List.length_pos_iff.2 h
 rw [wrap_i64 (by omega) (by omega)]; omega
theorem last_lt {α:Type} {l:List α} (h:l≠[]):(l.length - 1<l.length)=True:=by
 have:0<l.length:=List.length_pos_iff.2 h
 simp; omega
theorem last_ob {α:Type} {l:List α} (h:l≠[]):((0:Int)<=((l.length - 1:Nat):Int)/\((l.length - 1:Nat):Int) < (l.length:Int))=True:=by
 have:0<l.length:=List.length_pos_iff.2 h
 simp; omega
theorem all_last {α:Type} [Inhabited α] {l:List α} {p:α->Bool} (h:l.all p=true) (hn:l≠[]):p (l.getD (l.length - 1) default)=true:=by
 have:0<l.length:=List.length_pos_iff.2 hn
 exact List.all_eq_true.1 h _ (mem_getD l (by omega))
theorem law_sHeadM (r:Lt.Read) (l:List (List UInt8)) (hp:Lt.preRead r l) (KK:((Bool×Int)×Lt.Read)->Prop) (h:KK (Lt.sHeadM r l)):F_sHeadM r l KK:=by
 obtain ⟨hi,hl,hr⟩:=hp
 have hr:l.length<=1099511627776:=hr
 have h0:0<l.length:=List.length_pos_iff.2 hl
 obtain ⟨hw,⟨hc1,hc2,hc3⟩,⟨hg,hcl,hex⟩,h1,h2,h3⟩:=hi
 have hg8:=typed_le (k:=8) hg
 have a1:=@app_ok r.P.Classes.length
 unfold F_sHeadM; dsimp only
 unfold Lt.sHeadM at h
 refine ⟨⟨by decide,h0⟩,?_⟩
 refine ifk (fun hc=>?_) (fun hc=>?_)
 ·rw [if_pos (by simpa using hc)] at h
  simp only [jn_app,jn_and,jn_imp,jn_ite,jn_const,jval,bor,band,bnand,bimp,and_self,up_lr,up_l,up_r,sNames_one,Bool.not_true,Bool.false_eq_true,if_false,sLimit_0]
  refine ⟨by grind,by grind,ifk (fun hb=>kk h ?_) (fun hb _=>⟨by grind,fun _=>⟨by simp; omega,by simp; omega⟩,kk h ?_⟩)⟩
  ·unfold Lt.sClass; grind
  ·unfold Lt.sClass Lt.sLimit; grind
 ·rw [if_neg (by simpa using hc)] at h
  refine ifk (fun hc=>?_) (fun hc=>?_)
  ·rw [if_pos (by simpa using hc)] at h
   simp only [jn_app,jn_and,jn_imp,jn_ite,jn_const,jval,bor,band,bnand,bimp,and_self,up_lr,up_l,up_r,sNames_one,Bool.not_true,Bool.false_eq_true,if_false,sLimit_0]
   refine ifk (fun hb=>kk h ?_) (fun hb=>?_)
   ·unfold Lt.sField; grind
   ·simp only [Bool.or_eq_true,Bool.not_eq_true',decide_eq_false_iff_not,not_or,Decidable.not_not,Bool.not_eq_false] at hb
    have hne:=h1 hb.1
    have h3l:=sTyped_len hb.2
    have hf:=typed_le (k:=8) (Bool.and_eq_true _ _ ▸ all_last hcl hne:_/\_).2
    have hcc:r.P.Classes.length<=5000:=by omega
    simp only [wrap_last hne hcc,last_lt hne,last_ob hne,Int.toNat_natCast,one_lt (l:=l) (by omega),two_lt (l:=l) (by omega),implies_true,true_and,List.length_singleton,app_ok (show (r.P.Classes.getD (r.P.Classes.length - 1) default).Fields.length<=5000 by omega) (show 32<=200 by omega)]
    refine fun _ _=>kk h ?_
    unfold Lt.sField Lt.sLimit Lt.last
    grind
  rw [if_neg (by simpa using hc)] at h
  refine ifk (fun hc=>?_) (fun hc=>?_)
  ·rw [if_pos (by simpa using hc)] at h
   simp only [jn_app,jn_and,jn_imp,jn_ite,jn_const,jval,bor,band,bnand,bimp,and_self,up_lr,up_l,up_r,sNames_one,Bool.not_true,Bool.false_eq_true,if_false,sLimit_0]
   refine ifk (fun hb=>kk h ?_) (fun hb=>?_)
   ·unfold Lt.sGlobal; grind
   ·have h3l:l.length=3:=sTyped_len (by grind)
    simp only [one_lt (l:=l) (by omega),two_lt (l:=l) (by omega),implies_true,true_and,List.length_singleton,app_ok (show r.P.Globals.length<=5000 by omega) (show 32<=200 by omega)]
    refine fun _=>kk h ?_
    unfold Lt.sGlobal Lt.sLimit
    grind
  rw [if_neg (by simpa using hc)] at h
  refine ifk (fun hc=>?_) (fun hc=>?_)
  ·rw [if_pos (by simpa using hc)] at h
   simp only [jn_app,jn_and,jn_imp,jn_ite,jn_const,jval,bor,band,bnand,bimp,and_self,up_lr,up_l,up_r,sNames_one,Bool.not_true,Bool.false_eq_true,if_false,sLimit_0]
   refine ⟨by grind,by grind,by grind,ifk (fun hb=>kk h ?_) (fun hb=>?_)⟩
   ·unfold Lt.sExtern; grind
   ·have h3l:l.length=3:=by grind
    refine ifk (fun hb=>kk h ?_) (fun hb=>?_)
    ·unfold Lt.sExtern; grind
    simp only [one_lt (l:=l) (by omega),two_lt (l:=l) (by omega),implies_true,true_and,List.length_singleton,app_ok (show r.P.Externs.length<=5000 by omega) (show 24<=200 by omega)]
    refine fun _=>kk h ?_
    unfold Lt.sExtern Lt.sLimit
    grind
  rw [if_neg (by simpa using hc)] at h
  refine ifk (fun hc=>?_) (fun hc=>?_)
  ·rw [if_pos (by simpa using hc)] at h
   simp only [jn_app,jn_and,jn_imp,jn_ite,jn_const,jval,bor,band,bnand,bimp,and_self,up_lr,up_l,up_r,sNames_one,Bool.not_true,Bool.false_eq_true,if_false,sLimit_0]
   refine ifk (fun hb=>kk h ?_) (fun hb=>?_)
   ·unfold Lt.sFunc; grind
   ·have h3l:l.length=3:=sTyped_len (by grind)
    simp only [one_lt (l:=l) (by omega),two_lt (l:=l) (by omega),implies_true,true_and,List.length_singleton,app_ok (show r.P.Funcs.length<=5000 by omega) (show 104<=200 by omega)]
    refine fun _=>kk h ?_
    unfold Lt.sFunc Lt.sLimit
    grind
  rw [if_neg (by simpa using hc)] at h
  exact h
end Go.Am
end

section
namespace Go.Am
open Go
set_option linter.unusedVariables false
set_option linter.unusedSimpArgs false
theorem getD_snoc {α:Type} [Inhabited α] (l:List α) (x:α):(l++[x]).getD ((l++[x]).length - 1) default=x:=by
 have:(l++[x]).length - 1=l.length:=by simp
 rw [this,List.getD,List.getElem?_append_right (Nat.le_refl _)]; simp
theorem set_snoc {α:Type} (l:List α) (x y:α):(l++[x]).set ((l++[x]).length - 1) y=l++[y]:=by
 have:(l++[x]).length - 1=l.length:=by simp
 rw [this,List.set_append_right _ _ (Nat.le_refl _)]; simp
theorem snoc_ne {α:Type} (l:List α) (x:α):l++[x]≠[]:=by simp
theorem le_sum:∀ (l:List Lt.Block) (b:Lt.Block),b∈l->b.Phis.length+b.Code.length<=(l.map fun b=>b.Phis.length+b.Code.length).sum
 | [],_,h=>by simp at h
 | a::r,b,h=>by
  rcases List.mem_cons.1 h with rfl | h
  ·simp
  ·have:=le_sum r b h
   simp only [List.map_cons,List.sum_cons]; omega
theorem Inv_fun {r:Lt.Read} (h:Lt.Inv r) (hw:3<=r.Where):r.P.Funcs≠[]/\Lt.fnPart r.curF r.Where r.Long/\r.curF.Params.length<=6/\r.curF.Vars.length<=1024/\r.curF.Blocks.length<=256:=by
 obtain ⟨_,_,_,_,_,h3⟩:=h
 obtain ⟨fs,f,hf,_,hp⟩:=h3 hw
 have e:r.curF=f:=by unfold Lt.Read.curF; rw [hf]; exact getD_snoc fs f
 rw [e]
 exact ⟨by rw [hf]; exact snoc_ne _ _,hp,typed_le (k:=6) hp.1.2.2.1,typed_le (k:=1024) hp.1.2.2.2,hp.2.1.1⟩
theorem Inv_block {r:Lt.Read} (h:Lt.Inv r) (hw:5<=r.Where):r.curF.Blocks≠[]/\r.curB.Phis.length<=1024/\r.curB.Code.length<=1024/\r.curB.Code.all Lt.instr=true:=by
 obtain ⟨_,hp,_⟩:=Inv_fun h (by omega)
 obtain ⟨_,⟨_,h0,hn⟩,_,hb⟩:=hp
 obtain ⟨bs,b,hb,_,hs,hb2,_⟩:=hb hw
 have e:r.curB=b:=by unfold Lt.Read.curB; rw [hb]; exact getD_snoc bs b
 have:=le_sum r.curF.Blocks b (by rw [hb]; simp)
 rw [e]
 exact ⟨by rw [hb]; exact snoc_ne _ _,by omega,by omega,hb2.2.2⟩
theorem Inv_instr {r:Lt.Read} (h:Lt.Inv r) (hw:6<=r.Where) (hw8:r.Where<=8):r.curB.Code≠[]/\r.curI.Frames.length<=16/\r.curI.Objs.length<=99:=by
 obtain ⟨_,hp,_⟩:=Inv_fun h (by omega)
 obtain ⟨_,⟨_,h0,hn⟩,_,hb⟩:=hp
 obtain ⟨bs,b,hb,_,hs,hb2,_,hc⟩:=hb (by omega)
 obtain ⟨cs,c,hc,_⟩:=hc hw hw8
 have e:r.curB=b:=by unfold Lt.Read.curB; rw [hb]; exact getD_snoc bs b
 have e2:r.curI=c:=by unfold Lt.Read.curI; rw [e,hc]; exact getD_snoc cs c
 have hi:Lt.instr c=true:=List.all_eq_true.1 hb2.2.2 c (by rw [hc]; simp)
 unfold Lt.instr at hi
 simp only [Bool.and_eq_true,decide_eq_true_eq] at hi
 rw [e,e2]
 exact ⟨by rw [hc]; exact snoc_ne _ _,hi.1.2.1.2,hi.1.2.2⟩
theorem sPairsG_len (objs:Bool):∀ (l:List (List UInt8)) (x:List Lt.Bind),Lt.sPairsG objs l=some x->l.length=2*x.length
 | [],x,h=>by simp [Lt.sPairsG] at h; subst h; rfl
 | [_],x,h=>by simp [Lt.sPairsG] at h
 | a::b::r,x,h=>by
  rw [Lt.sPairsG] at h
  split at h
  ·cases hr:Lt.sPairsG objs r with
   | none=>simp [hr] at h
   | some y=>
    have:=sPairsG_len objs r y hr
    simp [hr] at h
    subst h
    simp only [List.length_cons]; omega
  ·simp at h
theorem sPairs_len {l:List (List UInt8)} {f:Int} {objs:Bool} (h:(Lt.sPairs l f objs).2=true) (h0:0<=f):(l.length:Int)=f+2*((Lt.sPairs l f objs).1.length:Int):=by
 unfold Lt.sPairs at h ⊢
 split at h
 ·simp at h
 ·rename_i hlt
  rw [if_neg hlt]
  split at h
  ·rename_i x hx
   have:=sPairsG_len _ _ _ hx
   rw [List.length_drop] at this
   simp only; omega
  ·simp at h
theorem law_sPartM (r:Lt.Read) (l:List (List UInt8)) (hp:Lt.preRead r l) (KK:((Bool×Int)×Lt.Read)->Prop) (h:KK (Lt.sPartM r l)):F_sPartM r l KK:=by
 obtain ⟨hi,hl,hr⟩:=hp
 have hr:l.length<=1099511627776:=hr
 have h0:0<l.length:=List.length_pos_iff.2 hl
 have hi0:=hi
 obtain ⟨hw,⟨hc1,hc2,hc3⟩,⟨hg,hcl,hex⟩,h1,h2,h3⟩:=hi
 unfold F_sPartM; dsimp only
 unfold Lt.sPartM at h
 refine fun _=>ifk (fun hf=>?_) (fun hf=>?_)
 ·have hf:r.P.Funcs≠[]:=fun e=>by rw [e] at hf; simp at hf
  have hf8:r.P.Funcs.length<=5000:=by omega
  have ef:r.P.Funcs.getD (r.P.Funcs.length - 1) default=r.curF:=rfl
  refine fun _=>?_
  simp only [wrap_last hf hf8,last_lt hf,last_ob hf,Int.toNat_natCast,true_and]
  refine ⟨⟨by decide,h0⟩,?_⟩
  refine ifk (fun hc=>?_) (fun hc=>?_)
  ·rw [if_pos (by simpa using hc)] at h
   simp only [jn_app,jn_and,jn_imp,jn_ite,jn_const,jval,bor,band,bnand,bimp,and_self,up_lr,up_l,up_r,sNames_one,Bool.not_true,Bool.false_eq_true,if_false,sLimit_0]
   refine ifk (fun hb=>kk h ?_) (fun hb=>?_)
   ·unfold Lt.sParam; grind
   ·have hw3:r.Where=3:=by grind
    have h3l:l.length=3:=sTyped_len (by grind)
    obtain ⟨_,_,hp6,_⟩:=Inv_fun hi0 (by omega)
    simp only [ef,one_lt (l:=l) (by omega),two_lt (l:=l) (by omega),implies_true,true_and,List.length_singleton,app_ok (show r.curF.Params.length<=5000 by omega) (show 32<=200 by omega)]
    refine fun _=>kk h ?_
    unfold Lt.sParam Lt.sLimit Lt.Read.func Lt.last
    simp only [ef]
    grind
  rw [if_neg (by simpa using hc)] at h
  refine ifk (fun hc=>?_) (fun hc=>?_)
  ·rw [if_pos (by simpa using hc)] at h
   simp only [jn_app,jn_and,jn_imp,jn_ite,jn_const,jval,bor,band,bnand,bimp,and_self,up_lr,up_l,up_r,sNames_one,Bool.not_true,Bool.false_eq_true,if_false,sLimit_0]
   refine ifk (fun hb=>kk h ?_) (fun hb=>?_)
   ·unfold Lt.sVar; grind
   ·have hw3:3<=r.Where:=by grind
    have h3l:l.length=3:=sTyped_len (by grind)
    obtain ⟨_,_,_,hv6,_⟩:=Inv_fun hi0 (by omega)
    simp only [ef,one_lt (l:=l) (by omega),two_lt (l:=l) (by omega),implies_true,true_and,List.length_singleton,app_ok (show r.curF.Vars.length<=5000 by omega) (show 32<=200 by omega)]
    refine fun _=>kk h ?_
    unfold Lt.sVar Lt.sLimit Lt.Read.func Lt.last
    simp only [ef]
    grind
  rw [if_neg (by simpa using hc)] at h
  refine ifk (fun hc=>?_) (fun hc=>?_)
  ·rw [if_pos (by simpa using hc)] at h
   simp only [jn_app,jn_and,jn_imp,jn_ite,jn_const,jval,bor,band,bnand,bimp,and_self,up_lr,up_l,up_r,sNames_one,Bool.not_true,Bool.false_eq_true,if_false,sLimit_0]
   refine ⟨by grind,by grind,by grind,ifk (fun hb=>kk h ?_) (fun hb=>?_)⟩
   ·unfold Lt.sBlock; grind
   ·have hw3:3<=r.Where:=by grind
    have h3l:l.length=2:=by grind
    obtain ⟨_,_,_,_,hb6⟩:=Inv_fun hi0 (by omega)
    simp only [ef,one_lt (l:=l) (by omega),implies_true,true_and,List.length_singleton,app_ok (show r.curF.Blocks.length<=5000 by omega) (show 136<=200 by omega)]
    refine fun _=>kk h ?_
    unfold Lt.sBlock Lt.sLimit Lt.Read.func Lt.last
    simp only [ef]
    grind
  rw [if_neg (by simpa using hc)] at h
  refine ifk (fun hc=>?_) (fun hc=>?_)
  ·rw [if_pos (by simpa using hc)] at h
   simp only [jn_app,jn_and,jn_imp,jn_ite,jn_const,jval,bor,band,bnand,bimp,and_self,up_lr,up_l,up_r,sNames_one,Bool.not_true,Bool.false_eq_true,if_false,sLimit_0]
   refine ⟨⟨by show l.length<=1099511627776; exact hr,by decide,by decide⟩,fun hw5 hok hne=>?_,?_⟩
   ·have:=sPairs_len (l:=l) (f:=2) (objs:=false) (by simpa using hok) (by decide)
    have:¬ (Lt.sPairs l 2 false).1.length=0:=by simpa using hne
    exact ⟨by decide,by omega⟩
   refine ifk (fun hb=>kk h ?_) (fun hb=>?_)
   ·unfold Lt.sPhi; grind
   ·have hw5:r.Where=5:=by grind
    have hok:(Lt.sPairs l 2 false).2=true:=by grind
    have hne:¬ (Lt.sPairs l 2 false).1.length=0:=by
     intro e
     rw [e] at hb
     simp at hb
    have h3l:=sPairs_len (l:=l) (f:=2) (objs:=false) hok (by decide)
    have hlt:1<l.length:=by omega
    obtain ⟨_,_,_,_,hb6⟩:=Inv_fun hi0 (by omega)
    obtain ⟨hbn,hph,_⟩:=Inv_block hi0 (by omega)
    refine fun _=>⟨fun _=>⟨by decide,hlt⟩,ifk (fun hb2=>kk h ?_) (fun hb2=>?_)⟩
    ·unfold Lt.sPhi; grind
    have h256:(Lt.sPairs l 2 false).1.length<=256:=by
     simp only [Bool.or_eq_true,decide_eq_true_eq,not_or] at hb2; omega
    have hl1024:r.Long < 1024:=by
     simp only [Bool.or_eq_true,decide_eq_true_eq,not_or] at hb2; omega
    have hl0:0<=r.Long:=(Inv_fun hi0 (by omega)).2.1.2.1.2.1
    have wl:IntKind.i64.wrap (r.Long+1)=r.Long+1:=wrap_i64 (by omega) (by omega)
    have eb:r.curF.Blocks.getD (r.curF.Blocks.length - 1) default=r.curB:=rfl
    have hb5:r.curF.Blocks.length<=5000:=by omega
    simp only [ef,one_lt (l:=l) hlt,true_and,wrap_last hbn hb5,last_lt hbn,last_ob hbn,Int.toNat_natCast,eb,List.length_singleton,app_ok (show r.curB.Phis.length<=5000 by omega) (show 40<=200 by omega),wl]
    refine nat_loop _ (Lt.sPairs l 2 false).1.length (fun i x=>x=((i:Int),⟨l.getD 1 default,((Lt.sPairs l 2 false).1.take i).map fun x=>⟨x.Name,x.A⟩⟩)) (fun R i x hlt hx hR=>?_) (fun R x hx=>?_) _ rfl
    ·subst hx
     simp only [lt_t hlt,if_true,Int.toNat_natCast]
     refine fun _=>⟨fun _=>⟨Int.natCast_nonneg i,hlt⟩,fun _=>⟨Int.natCast_nonneg i,hlt⟩,fun _=>⟨by simp; omega,by simp; omega⟩,?_⟩
     refine hR _ ?_
     rw [wrap_succ (by omega),take_snoc _ hlt,List.map_append]; rfl
    ·subst hx
     simp only [lt_f,Bool.false_eq_true,if_false]
     refine fun _=>⟨fun h=>h.elim,fun h=>h.elim,fun h=>h.elim,fun _=>kk h ?_⟩
     rw [List.take_length]
     have hn:Lt.rName (l.getD 1 default)=true:=by
      simp only [Bool.or_eq_true,Bool.not_eq_true',not_or] at hb
      simpa using hb.2.2.2
     have c1:(decide (r.Where=5)&&(Lt.sPairs l 2 false).2&&!decide ((Lt.sPairs l 2 false).1.length=0)&&Lt.rName (l.getD 1 default))=true:=by
      rw [hn,hok,hw5,decide_eq_false hne]; rfl
     unfold Lt.sPhi Lt.Read.block Lt.Read.func Lt.last
     simp only [ef,eb]
     rw [c1,if_neg (by simp),if_neg (by omega)]
  rw [if_neg (by simpa using hc)] at h
  exact h
 ·have hf:r.P.Funcs=[]:=by cases hh:r.P.Funcs with
   | nil=>rfl
   | cons a b=>rw [hh] at hf; simp at hf
  have hw2:r.Where<=2:=by
   apply Classical.byContradiction
   intro hw
   exact (Inv_fun hi0 (by omega)).1 hf
  have n3:decide (r.Where=3)=false:=by simp; omega
  have n4:decide (r.Where=4)=false:=by simp; omega
  have n5:decide (r.Where=5)=false:=by simp; omega
  have n9:decide (r.Where=9)=false:=by simp; omega
  refine ⟨⟨by decide,h0⟩,?_⟩
  simp only [n3,n4,n5,n9,Bool.not_false,if_true,jn_app]
  simp only [Lt.sParam,Lt.sVar,Lt.sBlock,Lt.sPhi,n3,n4,n5,n9,Bool.false_and,Bool.or_false,if_true] at h
  have hpp:Lt.prePairs l 2 false:=⟨by show l.length<=1099511627776; exact hr,by decide,by decide⟩
  grind
end Go.Am
end

section
namespace Go.Am
open Go
set_option linter.unusedVariables false
set_option linter.unusedSimpArgs false
def Runs:Lt.Read->List (List (List UInt8))->Lt.Read->Prop
 | r,[],r'=>r=r'
 | r,w::t,r'=>∃ r1,(∀ b,Lt.sLineM r w b=(0,r1))/\Runs r1 t r'
theorem Runs_app:∀ {a b:List (List (List UInt8))} {r r1 r2:Lt.Read},Runs r a r1->Runs r1 b r2->Runs r (a++b) r2
 | [],b,r,r1,r2,h1,h2=>by have:r=r1:=h1; subst this; exact h2
 | w::t,b,r,r1,r2,⟨q,hq,h1⟩,h2=>⟨q,hq,Runs_app h1 h2⟩
theorem Runs_one {r r1:Lt.Read} {w:List (List UInt8)} (h:∀ b,Lt.sLineM r w b=(0,r1)):Runs r [w] r1:=⟨r1,h,rfl⟩
theorem Runs_nil (r:Lt.Read):Runs r [] r:=rfl
theorem parse_runs:∀ (L:List Lt.Line) (n:Int) (b:Bool) (r r':Lt.Read),Runs r (L.map fun x=>x.Words) r' ->
  Lt.sParseG (numb n L) b r=if r'.out then (r'.P,0,0) else (⟨false,[],[],[],[]⟩,0,3)
 | [],n,b,r,r',h=>by have:r=r':=h; subst this; rfl
 | x::t,n,b,r,r',⟨q,hq,h⟩=>by
  rw [numb,Lt.sParseG]
  simp only [hq b,if_true]
  exact parse_runs t _ _ q r' h
theorem ff {r:Lt.Read}:¬ ((false,(0:Int)),r).1.1=true:=fun h=>by simp at h
theorem line_head {r r1:Lt.Read} {l:List (List UInt8)} {b:Bool} (he:Lt.sEq l=false) (hs:¬ Lt.w0 l=Lt.kSsa) (h:Lt.sHeadM r l=((true,0),r1)):Lt.sLineM r l b=(0,r1):=by
 unfold Lt.sLineM
 rw [he,if_neg (by decide),if_neg hs,h]; rfl
theorem line_part {r r1:Lt.Read} {l:List (List UInt8)} {b:Bool} (he:Lt.sEq l=false) (hs:¬ Lt.w0 l=Lt.kSsa) (hh:Lt.sHeadM r l=((false,0),r)) (h:Lt.sPartM r l=((true,0),r1)):Lt.sLineM r l b=(0,r1):=by
 unfold Lt.sLineM
 rw [he,if_neg (by decide),if_neg hs,hh,if_neg ff,h]; rfl
theorem line_state {r r1:Lt.Read} {l:List (List UInt8)} {b:Bool} (he:Lt.sEq l=false) (hs:¬ Lt.w0 l=Lt.kSsa) (hh:Lt.sHeadM r l=((false,0),r)) (hp:Lt.sPartM r l=((false,0),r)) (h:Lt.sStateM r l=((true,0),r1)):Lt.sLineM r l b=(0,r1):=by
 unfold Lt.sLineM
 rw [he,if_neg (by decide),if_neg hs,hh,if_neg ff,hp,if_neg ff,h]; rfl
theorem line_code {r:Lt.Read} {l:List (List UInt8)} {b:Bool} (hs:¬ Lt.w0 l=Lt.kSsa) (hh:Lt.sHeadM r l=((false,0),r)) (hp:Lt.sPartM r l=((false,0),r)) (h:Lt.sStateM r l=((false,0),r)):Lt.sLineM r l b=Lt.sCodeM r l:=by
 unfold Lt.sLineM
 rw [if_neg hs,hh,if_neg ff,hp,if_neg ff,h,if_neg ff]
 split <;> rfl
theorem head_no {r:Lt.Read} {l:List (List UInt8)} (h1:¬ Lt.w0 l=Lt.kClass) (h2:¬ Lt.w0 l=Lt.kField) (h3:¬ Lt.w0 l=Lt.kGlobal) (h4:¬ Lt.w0 l=Lt.kExtern) (h5:¬ Lt.w0 l=Lt.kFunc):Lt.sHeadM r l=((false,0),r):=by
 unfold Lt.sHeadM
 rw [if_neg h1,if_neg h2,if_neg h3,if_neg h4,if_neg h5]
theorem part_no {r:Lt.Read} {l:List (List UInt8)} (h1:¬ Lt.w0 l=Lt.kParam) (h2:¬ Lt.w0 l=Lt.kVar) (h3:¬ Lt.w0 l=Lt.kBlock) (h4:¬ Lt.w0 l=Lt.kPhi):Lt.sPartM r l=((false,0),r):=by
 unfold Lt.sPartM
 rw [if_neg h1,if_neg h2,if_neg h3,if_neg h4]
theorem state_no {r:Lt.Read} {l:List (List UInt8)} (h1:¬ Lt.w0 l=Lt.kAt) (h2:¬ Lt.w0 l=Lt.kObj) (h3:¬ Lt.w0 l=Lt.kJump) (h4:¬ Lt.w0 l=Lt.kBranch) (h5:¬ Lt.w0 l=Lt.kRet) (h6:¬ Lt.w0 l=Lt.kTrap):Lt.sStateM r l=((false,0),r):=by
 unfold Lt.sStateM
 rw [if_neg (by rintro (h | h | h | h | h | h) <;> contradiction)]
theorem head_class {r:Lt.Read} {l:List (List UInt8)} (h:Lt.w0 l=Lt.kClass):Lt.sHeadM r l=((true,(Lt.sClass r l).1),(Lt.sClass r l).2):=by
 unfold Lt.sHeadM
 rw [if_pos h]
theorem head_field {r:Lt.Read} {l:List (List UInt8)} (h:Lt.w0 l=Lt.kField):Lt.sHeadM r l=((true,(Lt.sField r l).1),(Lt.sField r l).2):=by
 unfold Lt.sHeadM
 rw [if_neg (show ¬ Lt.w0 l=Lt.kClass by rw [h]; decide),if_pos h]
theorem head_global {r:Lt.Read} {l:List (List UInt8)} (h:Lt.w0 l=Lt.kGlobal):Lt.sHeadM r l=((true,(Lt.sGlobal r l).1),(Lt.sGlobal r l).2):=by
 unfold Lt.sHeadM
 rw [if_neg (show ¬ Lt.w0 l=Lt.kClass by rw [h]; decide),if_neg (show ¬ Lt.w0 l=Lt.kField by rw [h]; decide),if_pos h]
theorem head_extern {r:Lt.Read} {l:List (List UInt8)} (h:Lt.w0 l=Lt.kExtern):Lt.sHeadM r l=((true,(Lt.sExtern r l).1),(Lt.sExtern r l).2):=by
 unfold Lt.sHeadM
 rw [if_neg (show ¬ Lt.w0 l=Lt.kClass by rw [h]; decide),if_neg (show ¬ Lt.w0 l=Lt.kField by rw [h]; decide),if_neg (show ¬ Lt.w0 l=Lt.kGlobal by rw [h]; decide),if_pos h]
theorem head_func {r:Lt.Read} {l:List (List UInt8)} (h:Lt.w0 l=Lt.kFunc):Lt.sHeadM r l=((true,(Lt.sFunc r l).1),(Lt.sFunc r l).2):=by
 unfold Lt.sHeadM
 rw [if_neg (show ¬ Lt.w0 l=Lt.kClass by rw [h]; decide),if_neg (show ¬ Lt.w0 l=Lt.kField by rw [h]; decide),if_neg (show ¬ Lt.w0 l=Lt.kGlobal by rw [h]; decide),if_neg (show ¬ Lt.w0 l=Lt.kExtern by rw [h]; decide),if_pos h]
theorem part_param {r:Lt.Read} {l:List (List UInt8)} (h:Lt.w0 l=Lt.kParam):Lt.sPartM r l=((true,(Lt.sParam r l).1),(Lt.sParam r l).2):=by
 unfold Lt.sPartM
 rw [if_pos h]
theorem part_var {r:Lt.Read} {l:List (List UInt8)} (h:Lt.w0 l=Lt.kVar):Lt.sPartM r l=((true,(Lt.sVar r l).1),(Lt.sVar r l).2):=by
 unfold Lt.sPartM
 rw [if_neg (show ¬ Lt.w0 l=Lt.kParam by rw [h]; decide),if_pos h]
theorem part_block {r:Lt.Read} {l:List (List UInt8)} (h:Lt.w0 l=Lt.kBlock):Lt.sPartM r l=((true,(Lt.sBlock r l).1),(Lt.sBlock r l).2):=by
 unfold Lt.sPartM
 rw [if_neg (show ¬ Lt.w0 l=Lt.kParam by rw [h]; decide),if_neg (show ¬ Lt.w0 l=Lt.kVar by rw [h]; decide),if_pos h]
theorem part_phi {r:Lt.Read} {l:List (List UInt8)} (h:Lt.w0 l=Lt.kPhi):Lt.sPartM r l=((true,(Lt.sPhi r l).1),(Lt.sPhi r l).2):=by
 unfold Lt.sPartM
 rw [if_neg (show ¬ Lt.w0 l=Lt.kParam by rw [h]; decide),if_neg (show ¬ Lt.w0 l=Lt.kVar by rw [h]; decide),if_neg (show ¬ Lt.w0 l=Lt.kBlock by rw [h]; decide),if_pos h]
theorem state_at {r:Lt.Read} {l:List (List UInt8)} (hi:r.ins=true) (h:Lt.w0 l=Lt.kAt):Lt.sStateM r l=((true,(Lt.sAt r l).1),(Lt.sAt r l).2):=by
 unfold Lt.sStateM
 rw [if_pos (.inl h),hi,if_neg (by decide),if_pos h]
theorem state_obj {r:Lt.Read} {l:List (List UInt8)} (hi:r.ins=true) (h:Lt.w0 l=Lt.kObj):Lt.sStateM r l=((true,(Lt.sObj r l).1),(Lt.sObj r l).2):=by
 unfold Lt.sStateM
 rw [if_pos (.inr (.inl h)),hi,if_neg (by decide),if_neg (show ¬ Lt.w0 l=Lt.kAt by rw [h]; decide),if_pos h]
theorem name_eqs {w:List UInt8} (h:Lt.Name w=true):¬ w=[61]:=by rintro rfl; revert h; decide
theorem word_eqs {a:Lt.Arg} (h:Lt.wordRight a=true) (ok:a.ok):¬ Lt.wordPut a=[61]:=by
 intro e
 have:=sArg_put h ok
 rw [e] at this
 have h2:(Lt.sArg [61]).2=false:=by decide +kernel
 rw [this] at h2
 cases h2
theorem eq_two (a b:List UInt8):Lt.sEq [a,b]=false:=rfl
theorem eq_name {a w:List UInt8} {l:List (List UInt8)} (h:¬ w=[61]):Lt.sEq (a::w::l)=false:=by
 unfold Lt.sEq
 have:decide (Lt.w1 (a::w::l)=[61])=false:=decide_eq_false h
 rw [this,Bool.and_false]
theorem kind_eq (w:List UInt8):Lt.sKind w=Lt.kind w:=by
 unfold Lt.sKind Lt.kind
 rw [rName_eq,Bool.or_assoc]
theorem typed_line {k:List UInt8} {v:Lt.Var} (h1:Lt.Name v.Name=true) (h2:Lt.kind v.Type_=true):Lt.sTyped [k,v.Name,v.Type_]=true:=by
 unfold Lt.sTyped
 rw [rName_eq,kind_eq]
 show (true&&(Lt.Name v.Name&&Lt.kind v.Type_))=true
 rw [h1,h2]; rfl
theorem last_snoc {α:Type} [Inhabited α] (l:List α) (x:α) (f:α->α):Lt.last (l++[x]) f=l++[f x]:=by
 unfold Lt.last
 rw [getD_snoc,set_snoc]
def stP (s:Bool) (cs:List Lt.Class) (gs:List Lt.Var) (es:List Lt.Extern) (fs:List Lt.Func) (w n:Int):Lt.Read:=⟨⟨s,cs,gs,es,fs⟩,w,n⟩
def stF (p:Lt.Program) (fs:List Lt.Func) (f:Lt.Func) (w n:Int):Lt.Read:=⟨{ p with Funcs:=fs++[f] },w,n⟩
def stB (p:Lt.Program) (fs:List Lt.Func) (f:Lt.Func) (bs:List Lt.Block) (b:Lt.Block) (w n:Int):Lt.Read:=stF p fs { f with Blocks:=bs++[b] } w n
def stI (p:Lt.Program) (fs:List Lt.Func) (f:Lt.Func) (bs:List Lt.Block) (b:Lt.Block) (cs:List Lt.Instr) (x:Lt.Instr) (w n:Int):Lt.Read:=stB p fs f bs { b with Code:=cs++[x] } w n
section
variable (p:Lt.Program) (fs:List Lt.Func) (f:Lt.Func) (bs:List Lt.Block) (b:Lt.Block) (cs:List Lt.Instr) (x:Lt.Instr) (w n:Int)
theorem func_st (g:Lt.Func->Lt.Func):(stF p fs f w n).func g=stF p fs (g f) w n:=by
 unfold Lt.Read.func stF
 rw [last_snoc]
theorem block_st (g:Lt.Block->Lt.Block):(stB p fs f bs b w n).block g=stB p fs f bs (g b) w n:=by
 unfold Lt.Read.block stB
 rw [func_st]
 simp only [last_snoc]
theorem instr_st (g:Lt.Instr->Lt.Instr):(stI p fs f bs b cs x w n).instr g=stI p fs f bs b cs (g x) w n:=by
 unfold Lt.Read.instr stI
 rw [block_st]
 simp only [last_snoc]
theorem curF_st:(stF p fs f w n).curF=f:=by unfold Lt.Read.curF stF; exact getD_snoc _ _
theorem curB_st:(stB p fs f bs b w n).curB=b:=by
 unfold Lt.Read.curB stB; rw [curF_st]; exact getD_snoc _ _
theorem curI_st:(stI p fs f bs b cs x w n).curI=x:=by
 unfold Lt.Read.curI stI; rw [curB_st]; exact getD_snoc _ _
end
theorem step_class {s:Bool} {cs:List Lt.Class} {gs:List Lt.Var} {es:List Lt.Extern} {fs:List Lt.Func} {w n:Int} {c:List UInt8} (ho:w<=2\/w=9) (hc:Lt.Name c=true) (hl:cs.length < 8) :
  Runs (stP s cs gs es fs w n) [[Lt.kClass,c]] (stP s (cs++[⟨c,[]⟩]) gs es fs 1 n):=by
 refine Runs_one fun b=>line_head (eq_two _ _) (by show ¬ Lt.kClass=Lt.kSsa; decide) ?_
 refine (head_class rfl).trans ?_
 have:Lt.sClass (stP s cs gs es fs w n) [Lt.kClass,c]=(0,stP s (cs++[⟨c,[]⟩]) gs es fs 1 n):=by
  unfold Lt.sClass
  rw [rName_eq]
  have h1:(Lt.Read.out (stP s cs gs es fs w n)&&decide (List.length [Lt.kClass,c]=2)&&Lt.Name (Lt.w1 [Lt.kClass,c]))=true:=by
   show ((decide (w<=2)||decide (w=9))&&true&&Lt.Name c)=true
   rw [hc]; simpa using ho
  rw [h1,if_neg (by decide),if_neg (by show ¬ 8<=cs.length; omega)]
  rfl
 rw [this]
theorem typed_mem {l:List Lt.Var} {k:Int} (h:Lt.typed l k=true):∀ v∈l,Lt.Name v.Name=true/\Lt.kind v.Type_=true:=by
 intro v hv
 unfold Lt.typed at h
 simp only [Bool.and_eq_true,List.all_eq_true] at h
 exact h.2 v hv
theorem steps_field {s:Bool} {cs:List Lt.Class} {gs:List Lt.Var} {es:List Lt.Extern} {fs:List Lt.Func} {n:Int}:∀ (l:List Lt.Var) (c:Lt.Class),(∀ v∈l,Lt.Name v.Name=true/\Lt.kind v.Type_=true)->c.Fields.length+l.length<=8 ->
  Runs (stP s (cs++[c]) gs es fs 1 n) (l.map fun v=>[Lt.kField,v.Name,v.Type_]) (stP s (cs++[{ c with Fields:=c.Fields++l }]) gs es fs 1 n)
 | [],c,_,_=>by simpa using Runs_nil _
 | v::l,c,h,hl=>by
  obtain ⟨h1,h2⟩:=h v (by simp)
  have hl':c.Fields.length+(l.length+1)<=8:=hl
  have ih:=steps_field (s:=s) (cs:=cs) (gs:=gs) (es:=es) (fs:=fs) (n:=n) l { c with Fields:=c.Fields++[v] } (fun x hx=>h x (by simp [hx])) (by simp; omega)
  refine ⟨stP s (cs++[{ c with Fields:=c.Fields++[v] }]) gs es fs 1 n,fun b=>line_head (eq_name (name_eqs h1)) (by show ¬ Lt.kField=Lt.kSsa; decide) ?_,by simpa using ih⟩
  refine (head_field rfl).trans ?_
  have:Lt.sField (stP s (cs++[c]) gs es fs 1 n) [Lt.kField,v.Name,v.Type_]=(0,stP s (cs++[{ c with Fields:=c.Fields++[v] }]) gs es fs 1 n):=by
   unfold Lt.sField
   rw [typed_line h1 h2]
   have e:(stP s (cs++[c]) gs es fs 1 n).P.Classes=cs++[c]:=rfl
   rw [e,getD_snoc,last_snoc,if_neg (by show ¬ (decide ((1:Int)=1)&&true)=false; decide),if_neg (by omega)]
   rfl
  rw [this]
theorem steps_class {s:Bool} {gs:List Lt.Var} {es:List Lt.Extern} {fs:List Lt.Func} {n:Int}:∀ (l cs:List Lt.Class) (w:Int),(w<=2\/w=9)->(∀ c∈l,Lt.classRight c=true)->cs.length+l.length<=8 ->
  ∃ w',(w'<=2\/w'=9)/\Runs (stP s cs gs es fs w n) ((l.flatMap Lt.classL).map fun x=>x.Words) (stP s (cs++l) gs es fs w' n)
 | [],cs,w,hw,_,_=>⟨w,hw,by simpa using Runs_nil _⟩
 | c::l,cs,w,hw,h,hl=>by
  have hc:=h c (by simp)
  unfold Lt.classRight at hc
  simp only [Bool.and_eq_true] at hc
  have hf:=typed_le (k:=8) hc.2
  have hl':cs.length+(l.length+1)<=8:=hl
  obtain ⟨w',hw',ih⟩:=steps_class (s:=s) (gs:=gs) (es:=es) (fs:=fs) (n:=n) l (cs++[c]) 1 (by omega) (fun x hx=>h x (by simp [hx])) (by simp; omega)
  refine ⟨w',hw',?_⟩
  have a:=step_class (s:=s) (gs:=gs) (es:=es) (fs:=fs) (n:=n) (cs:=cs) hw hc.1 (by omega)
  have b:=steps_field (s:=s) (cs:=cs) (gs:=gs) (es:=es) (fs:=fs) (n:=n) c.Fields ⟨c.Name,[]⟩ (typed_mem hc.2) (by simpa using hf)
  simp only [List.nil_append] at b
  have e:((c::l).flatMap Lt.classL).map (fun x=>x.Words)=([[Lt.kClass,c.Name]]++c.Fields.map fun v=>[Lt.kField,v.Name,v.Type_])++(l.flatMap Lt.classL).map fun x=>x.Words:=by
   simp [Lt.classL,Lt.ln,Lt.varsL,Function.comp_def]
  rw [e]
  have ih2:Runs (stP s (cs++[c]) gs es fs 1 n) ((l.flatMap Lt.classL).map fun x=>x.Words) (stP s (cs++c::l) gs es fs w' n):=by simpa using ih
  exact Runs_app (Runs_app a b) ih2
theorem steps_global {s:Bool} {cs:List Lt.Class} {es:List Lt.Extern} {fs:List Lt.Func} {n:Int}:∀ (l gs:List Lt.Var) (w:Int),(w<=2\/w=9)->(∀ v∈l,Lt.Name v.Name=true/\Lt.kind v.Type_=true)->gs.length+l.length<=8 ->
  ∃ w',(w'<=2\/w'=9)/\Runs (stP s cs gs es fs w n) (l.map fun v=>[Lt.kGlobal,v.Name,v.Type_]) (stP s cs (gs++l) es fs w' n)
 | [],gs,w,hw,_,_=>⟨w,hw,by simpa using Runs_nil _⟩
 | v::l,gs,w,hw,h,hl=>by
  obtain ⟨h1,h2⟩:=h v (by simp)
  have hl':gs.length+(l.length+1)<=8:=hl
  obtain ⟨w',hw',ih⟩:=steps_global (s:=s) (cs:=cs) (es:=es) (fs:=fs) (n:=n) l (gs++[v]) 2 (by omega) (fun x hx=>h x (by simp [hx])) (by simp; omega)
  refine ⟨w',hw',stP s cs (gs++[v]) es fs 2 n,fun b=>line_head (eq_name (name_eqs h1)) (by show ¬ Lt.kGlobal=Lt.kSsa; decide) ?_,by simpa using ih⟩
  refine (head_global rfl).trans ?_
  have:Lt.sGlobal (stP s cs gs es fs w n) [Lt.kGlobal,v.Name,v.Type_]=(0,stP s cs (gs++[v]) es fs 2 n):=by
   unfold Lt.sGlobal
   rw [typed_line h1 h2]
   have ho:(Lt.Read.out (stP s cs gs es fs w n)&&true)=true:=by
    show ((decide (w<=2)||decide (w=9))&&true)=true
    simpa using hw
   rw [ho,if_neg (by decide),if_neg (by show ¬ 8<=gs.length; omega)]
   rfl
  rw [this]
theorem steps_extern {s:Bool} {cs:List Lt.Class} {gs:List Lt.Var} {fs:List Lt.Func} {n:Int}:∀ (l es:List Lt.Extern) (w:Int),(w<=2\/w=9)->(∀ x∈l,Lt.externRight x=true)->es.length+l.length<=8 ->
  ∃ w',(w'<=2\/w'=9)/\Runs (stP s cs gs es fs w n) (l.map fun x=>[Lt.kExtern,x.Name,Lt.numPut x.N]) (stP s cs gs (es++l) fs w' n)
 | [],es,w,hw,_,_=>⟨w,hw,by simpa using Runs_nil _⟩
 | v::l,es,w,hw,h,hl=>by
  have hv:=h v (by simp)
  unfold Lt.externRight at hv
  simp only [Bool.and_eq_true,decide_eq_true_eq] at hv
  obtain ⟨⟨h1,h2⟩,h3⟩:=hv
  have hl':es.length+(l.length+1)<=8:=hl
  obtain ⟨w',hw',ih⟩:=steps_extern (s:=s) (cs:=cs) (gs:=gs) (fs:=fs) (n:=n) l (es++[v]) 2 (by omega) (fun x hx=>h x (by simp [hx])) (by simp; omega)
  refine ⟨w',hw',stP s cs gs (es++[v]) fs 2 n,fun b=>line_head (eq_name (name_eqs h1)) (by show ¬ Lt.kExtern=Lt.kSsa; decide) ?_,by simpa using ih⟩
  refine (head_extern rfl).trans ?_
  have:Lt.sExtern (stP s cs gs es fs w n) [Lt.kExtern,v.Name,Lt.numPut v.N]=(0,stP s cs gs (es++[v]) fs 2 n):=by
   unfold Lt.sExtern
   have en:Lt.sNum (Lt.w2 [Lt.kExtern,v.Name,Lt.numPut v.N])=(v.N,true):=sNum_put (by unfold Lt.inR; omega)
   have e1:Lt.w1 [Lt.kExtern,v.Name,Lt.numPut v.N]=v.Name:=rfl
   rw [en,e1,rName_eq,h1]
   have ho:(Lt.Read.out (stP s cs gs es fs w n)&&decide (List.length [Lt.kExtern,v.Name,Lt.numPut v.N]=3)&&true&&((v.N,true).2&&decide (0<=(v.N,true).1)&&decide ((v.N,true).1<=8)))=true:=by
    show ((decide (w<=2)||decide (w=9))&&true&&true&&(true&&decide (0<=v.N)&&decide (v.N<=8)))=true
    simp [h2,h3,hw]
   rw [ho,if_neg (by decide),if_neg (by show ¬ 8<=es.length; omega)]
   rfl
  rw [this]
theorem step_func {p:Lt.Program} {fs:List Lt.Func} {w n:Int} {a t:List UInt8} (ho:w<=2\/w=9) (h1:Lt.Name a=true) (h2:Lt.kind t=true) (hl:fs.length < 8) :
  Runs ⟨{ p with Funcs:=fs },w,n⟩ [[Lt.kFunc,a,t]] (stF p fs ⟨a,t,[],[],[]⟩ 3 0):=by
 refine Runs_one fun b=>line_head (eq_name (name_eqs h1)) (by show ¬ Lt.kFunc=Lt.kSsa; decide) ?_
 refine (head_func rfl).trans ?_
 have:Lt.sFunc ⟨{ p with Funcs:=fs },w,n⟩ [Lt.kFunc,a,t]=(0,stF p fs ⟨a,t,[],[],[]⟩ 3 0):=by
  unfold Lt.sFunc
  rw [typed_line (v:=⟨a,t⟩) h1 h2]
  have ho:(Lt.Read.out ⟨{ p with Funcs:=fs },w,n⟩&&true)=true:=by
   show ((decide (w<=2)||decide (w=9))&&true)=true
   simpa using ho
  rw [ho,if_neg (by decide),if_neg (by show ¬ 8<=fs.length; omega)]
  rfl
 rw [this]
theorem steps_param {p:Lt.Program} {fs:List Lt.Func} {n:Int}:∀ (l:List Lt.Var) (f:Lt.Func),(∀ v∈l,Lt.Name v.Name=true/\Lt.kind v.Type_=true)->f.Params.length+l.length<=6 ->
  Runs (stF p fs f 3 n) (l.map fun v=>[Lt.kParam,v.Name,v.Type_]) (stF p fs { f with Params:=f.Params++l } 3 n)
 | [],f,_,_=>by simpa using Runs_nil _
 | v::l,f,h,hl=>by
  obtain ⟨h1,h2⟩:=h v (by simp)
  have hl':f.Params.length+(l.length+1)<=6:=hl
  have ih:=steps_param (p:=p) (fs:=fs) (n:=n) l { f with Params:=f.Params++[v] } (fun x hx=>h x (by simp [hx])) (by simp; omega)
  refine ⟨stF p fs { f with Params:=f.Params++[v] } 3 n,fun b=>line_part (eq_name (name_eqs h1)) (by show ¬ Lt.kParam=Lt.kSsa; decide) (head_no (by show ¬ Lt.kParam=_; decide) (by show ¬ Lt.kParam=_; decide) (by show ¬ Lt.kParam=_; decide) (by show ¬ Lt.kParam=_; decide) (by show ¬ Lt.kParam=_; decide)) ?_,by simpa using ih⟩
  refine (part_param rfl).trans ?_
  have:Lt.sParam (stF p fs f 3 n) [Lt.kParam,v.Name,v.Type_]=(0,stF p fs { f with Params:=f.Params++[v] } 3 n):=by
   unfold Lt.sParam
   rw [typed_line h1 h2,curF_st,func_st,if_neg (by show ¬ (decide ((3:Int)=3)&&true)=false; decide),if_neg (by omega)]
   rfl
  rw [this]
theorem steps_var {p:Lt.Program} {fs:List Lt.Func} {n:Int}:∀ (l:List Lt.Var) (f:Lt.Func) (w:Int),(w=3\/w=4)->(∀ v∈l,Lt.Name v.Name=true/\Lt.kind v.Type_=true)->f.Vars.length+l.length<=1024 ->
  ∃ w',(w'=3\/w'=4)/\Runs (stF p fs f w n) (l.map fun v=>[Lt.kVar,v.Name,v.Type_]) (stF p fs { f with Vars:=f.Vars++l } w' n)
 | [],f,w,hw,_,_=>⟨w,hw,by simpa using Runs_nil _⟩
 | v::l,f,w,hw,h,hl=>by
  obtain ⟨h1,h2⟩:=h v (by simp)
  have hl':f.Vars.length+(l.length+1)<=1024:=hl
  obtain ⟨w',hw',ih⟩:=steps_var (p:=p) (fs:=fs) (n:=n) l { f with Vars:=f.Vars++[v] } 4 (.inr rfl) (fun x hx=>h x (by simp [hx])) (by simp; omega)
  refine ⟨w',hw',stF p fs { f with Vars:=f.Vars++[v] } 4 n,fun b=>line_part (eq_name (name_eqs h1)) (by show ¬ Lt.kVar=Lt.kSsa; decide) (head_no (by show ¬ Lt.kVar=_; decide) (by show ¬ Lt.kVar=_; decide) (by show ¬ Lt.kVar=_; decide) (by show ¬ Lt.kVar=_; decide) (by show ¬ Lt.kVar=_; decide)) ?_,by simpa using ih⟩
  refine (part_var rfl).trans ?_
  have:Lt.sVar (stF p fs f w n) [Lt.kVar,v.Name,v.Type_]=(0,stF p fs { f with Vars:=f.Vars++[v] } 4 n):=by
   unfold Lt.sVar
   have ho:((decide ((stF p fs f w n).Where=3)||decide ((stF p fs f w n).Where=4))&&true)=true:=by
    show ((decide (w=3)||decide (w=4))&&true)=true
    simpa using hw
   rw [typed_line h1 h2,curF_st,func_st,ho,if_neg (by decide),if_neg (by omega)]
   rfl
  rw [this]
theorem step_block {p:Lt.Program} {fs:List Lt.Func} {f:Lt.Func} {w n:Int} {a:List UInt8} (hw:w=3\/w=4\/w=9) (h1:Lt.Name a=true) (hl:f.Blocks.length < 256) :
  Runs (stF p fs f w n) [[Lt.kBlock,a]] (stB p fs f f.Blocks ⟨a,[],[],⟨0,⟨0,[],0⟩,[],0⟩⟩ 5 n):=by
 refine Runs_one fun b=>line_part (eq_two _ _) (by show ¬ Lt.kBlock=Lt.kSsa; decide) (head_no (by show ¬ Lt.kBlock=_; decide) (by show ¬ Lt.kBlock=_; decide) (by show ¬ Lt.kBlock=_; decide) (by show ¬ Lt.kBlock=_; decide) (by show ¬ Lt.kBlock=_; decide)) ?_
 refine (part_block rfl).trans ?_
 have:Lt.sBlock (stF p fs f w n) [Lt.kBlock,a]=(0,stB p fs f f.Blocks ⟨a,[],[],⟨0,⟨0,[],0⟩,[],0⟩⟩ 5 n):=by
  unfold Lt.sBlock
  have ho:((decide ((stF p fs f w n).Where=3)||decide ((stF p fs f w n).Where=4)||decide ((stF p fs f w n).Where=9))&&decide (List.length [Lt.kBlock,a]=2)&&Lt.Name (Lt.w1 [Lt.kBlock,a]))=true:=by
   show ((decide (w=3)||decide (w=4)||decide (w=9))&&true&&Lt.Name a)=true
   rw [h1]
   rcases hw with h | h | h <;> simp [h]
  rw [rName_eq,ho,curF_st,func_st,if_neg (by decide),if_neg (by omega)]
  rfl
 rw [this]
theorem phiW_pairs {x:Lt.Phi} (h:Lt.phi x=true) (ok:x.ok):Lt.sPairs (Lt.phiW x) 2 false=(x.Ins.map fun i=>⟨i.Block,i.A⟩,true):=by
 obtain ⟨_,_,_,h4⟩:=phi_ok h
 unfold Lt.sPairs Lt.phiW
 have hg:=pairsG_put (objs:=false) (l:=x.Ins.map fun i=>⟨i.Block,i.A⟩) (by
  intro b hb
  obtain ⟨i,hi,rfl⟩:=List.mem_map.1 hb
  have:=h4 i hi
  unfold Lt.inRight at this
  simp only [Bool.and_eq_true] at this
  exact ⟨this.1,this.2,ok.2 i hi⟩)
 rw [List.flatMap_map] at hg
 have ed:([Lt.kPhi,x.Dst]++x.Ins.flatMap fun i=>[i.Block,Lt.wordPut i.A]).drop (2:Int).toNat=x.Ins.flatMap fun i=>[i.Block,Lt.wordPut i.A]:=rfl
 rw [ed,hg,if_neg (by simp; omega)]
theorem back_ins (l:List Lt.In):(l.map fun i=>(⟨i.Block,i.A⟩:Lt.Bind)).map (fun x=>(⟨x.Name,x.A⟩:Lt.In))=l:=by
 rw [List.map_map]; exact List.map_id _
theorem steps_phi {p:Lt.Program} {fs:List Lt.Func} {f:Lt.Func} {bs:List Lt.Block}:∀ (l:List Lt.Phi) (b:Lt.Block) (n:Nat),(∀ x∈l,Lt.phi x=true/\x.ok)->n+l.length<=1024 ->
  Runs (stB p fs f bs b 5 n) (l.map Lt.phiW) (stB p fs f bs { b with Phis:=b.Phis++l } 5 ((n+l.length:Nat):Int))
 | [],b,n,_,_=>by simpa using Runs_nil _
 | x::l,b,n,h,hl=>by
  obtain ⟨h1,hok⟩:=h x (by simp)
  obtain ⟨hd,hne,h256,_⟩:=phi_ok h1
  have hl':n+(l.length+1)<=1024:=hl
  have ih:=steps_phi (p:=p) (fs:=fs) (f:=f) (bs:=bs) l { b with Phis:=b.Phis++[x] } (n+1) (fun y hy=>h y (by simp [hy])) (by omega)
  have e:n+1+l.length=n+(x::l).length:=by simp; omega
  rw [e] at ih
  refine ⟨stB p fs f bs { b with Phis:=b.Phis++[x] } 5 ((n+1:Nat):Int),fun c=>line_part (eq_name (name_eqs hd)) (by show ¬ Lt.kPhi=Lt.kSsa; decide) (head_no (by show ¬ Lt.kPhi=_; decide) (by show ¬ Lt.kPhi=_; decide) (by show ¬ Lt.kPhi=_; decide) (by show ¬ Lt.kPhi=_; decide) (by show ¬ Lt.kPhi=_; decide)) ?_,by simpa using ih⟩
  refine (part_phi rfl).trans ?_
  have:Lt.sPhi (stB p fs f bs b 5 n) (Lt.phiW x)=(0,stB p fs f bs { b with Phis:=b.Phis++[x] } 5 ((n+1:Nat):Int)):=by
   unfold Lt.sPhi
   rw [phiW_pairs h1 hok,rName_eq]
   have ho:(decide ((stB p fs f bs b 5 (n:Int)).Where=5)&&((x.Ins.map fun i=>(⟨i.Block,i.A⟩:Lt.Bind)),true).2&&!decide ((((x.Ins.map fun i=>(⟨i.Block,i.A⟩:Lt.Bind)),true)).1.length=0)&&Lt.Name (Lt.w1 (Lt.phiW x)))=true:=by
    show (true&&true&&!decide ((x.Ins.map fun i=>(⟨i.Block,i.A⟩:Lt.Bind)).length=0)&&Lt.Name x.Dst)=true
    rw [hd]
    simp [hne]
   rw [ho,if_neg (by decide),if_neg (by
    show ¬ (256 < (x.Ins.map fun i=>(⟨i.Block,i.A⟩:Lt.Bind)).length\/1024<=(n:Int))
    simp only [List.length_map]; omega),block_st]
   simp only [back_ins]
   rfl
  rw [this]
def opWords (i:Lt.Instr):List (List UInt8):=
 (Lt.Of i.Op).1.Word::(if i.Op=26\/i.Op=27 then (Lt.puts i.Args).getD 0 default::i.Name::(Lt.puts i.Args).drop 1 else (if (Lt.Of i.Op).1.Named then [i.Name] else [])++Lt.puts i.Args)
theorem words_eq (i:Lt.Instr):Lt.words i=(if (Lt.Of i.Op).1.Dst then [i.Dst,[61]] else [])++opWords i:=by
 unfold Lt.words opWords
 simp
theorem bare (i:Lt.Instr) (h:Lt.instr i=true) (ok:i.ok):Lt.sInstr i.Dst (opWords i)=some { i with Frames:=[],Objs:=[] }:=by
 have ho:=instr_ok h
 obtain ⟨_,e2,e3,e4,e5,e6⟩:=rOf_eq i.Op
 have hop:=sOp_put ho.of
 have hsa:=sArgs_put ho.aok ok.1
 unfold Lt.sInstr
 have ew:Lt.w0 (opWords i)=(Lt.Of i.Op).1.Word:=rfl
 rw [ew,hop]
 simp only [e3,e4,e5,e6,rName_eq]
 have hD:((Lt.Of i.Op).1.Dst==!decide (i.Dst=[]))=true:=by rw [ho.dst]; simp
 rw [hD,if_neg (by decide)]
 have hr:Lt.sRest i.Op (opWords i)=some (i.Name,Lt.puts i.Args):=by
  unfold Lt.sRest
  by_cases hc:i.Op=26\/i.Op=27
  ·have hl:=ho.least hc
   rw [if_pos hc]
   unfold opWords
   rw [if_pos hc]
   cases ha:i.Args with
   | nil=>rw [ha] at hl; simp at hl
   | cons a r=>rw [if_neg (by simp)]; rfl
  ·rw [if_neg hc,e4]
   unfold opWords
   rw [if_neg hc]
   cases hn:(Lt.Of i.Op).1.Named with
   | true=>rw [if_pos rfl,if_pos rfl,if_neg (by simp)]; rfl
   | false=>
    have:i.Name=[]:=by have:=ho.nm; rw [hn] at this; simpa using this
    rw [if_neg (by decide),if_neg (by decide),this]; rfl
 rw [hr]
 simp only [hsa]
 have hN:(!((Lt.Of i.Op).1.Named&&!Lt.Name i.Name))=true:=by
  cases hn:(Lt.Of i.Op).1.Named with
  | true=>rw [ho.nmN hn]; rfl
  | false=>rfl
 rw [hN,decide_eq_true ho.lo,decide_eq_true ho.hi]; rfl
theorem no_dst {op:Int} (h:(Lt.Of op).2=true) (hd:(Lt.Of op).1.Dst=false):op=27\/op=30\/op=33\/op=34:=by
 by_cases hc:1<=op/\op<=34
 ·obtain ⟨k,rfl⟩:=Int.eq_ofNat_of_zero_le (show 0<=op by omega)
  have hk:k < 35:=by omega
  have:∀ k:Fin 35,1<=k.1->(Lt.Of (k.1:Int)).1.Dst=false->k.1=27\/k.1=30\/k.1=33\/k.1=34:=by decide +kernel
  have:=this ⟨k,hk⟩ (by show 1<=k; omega) hd
  simp only at this
  omega
 ·exfalso
  rw [<- (rOf_eq op).1] at h
  unfold Lt.rOf at h
  rw [if_pos (by omega)] at h
  cases h
theorem puts_eqs {objs:Bool} {l:List Lt.Arg} (h:Lt.showArgs l objs=true) (ok:Lt.argsOk l):∀ w∈Lt.puts l,¬ w=[61]:=by
 intro w hw
 obtain ⟨a,ha,rfl⟩:=List.mem_map.1 hw
 unfold Lt.showArgs at h
 have:=List.all_eq_true.1 h a ha
 unfold Lt.argRight at this
 simp only [Bool.and_eq_true] at this
 exact word_eqs this.1 (ok a ha)
theorem eq_ops {i:Lt.Instr} (h:Lt.instr i=true) (ok:i.ok):Lt.sEq (opWords i)=false:=by
 have ho:=instr_ok h
 have hp:=puts_eqs ho.aok ok.1
 have key:∀ w∈(opWords i).drop 1,¬ w=[61]:=by
  unfold opWords
  simp only [List.drop_succ_cons,List.drop_zero]
  intro w hw
  split at hw
  ·rename_i hc
   have hl:=ho.least hc
   have hN:(Lt.Of i.Op).1.Named=true:=by rcases hc with e | e <;> rw [e] <;> decide +kernel
   cases ha:i.Args with
   | nil=>rw [ha] at hl; simp at hl
   | cons a r=>
    rw [ha] at hw hp
    rcases List.mem_cons.1 hw with rfl | hw
    ·exact hp _ (by simp [Lt.puts])
    rcases List.mem_cons.1 hw with rfl | hw
    ·exact name_eqs (ho.nmN hN)
    ·exact hp w (by
      have:w∈r.map Lt.wordPut:=hw
      simp [Lt.puts]; right; simpa using this)
  ·rcases List.mem_append.1 hw with hw | hw
   ·split at hw
    ·rename_i hn
     rw [List.mem_singleton.1 hw]; exact name_eqs (ho.nmN hn)
    ·cases hw
   ·exact hp w hw
 unfold Lt.sEq
 rw [Bool.and_eq_false_iff]
 cases hw:opWords i with
 | nil=>exact .inl rfl
 | cons a t=>
  rw [hw] at key
  cases t with
  | nil=>exact .inl rfl
  | cons b t=>exact .inr (decide_eq_false (key b (by simp)))
theorem step_code {p:Lt.Program} {fs:List Lt.Func} {f:Lt.Func} {bs:List Lt.Block} {b:Lt.Block} {w:Int} {n:Nat} {i:Lt.Instr} (hw:5<=w/\w<=8) (h:Lt.instr i=true) (ok:i.ok) (hl:n+1<=1024) :
  Runs (stB p fs f bs b w n) [Lt.words i] (stI p fs f bs b b.Code { i with Frames:=[],Objs:=[] } (if i.Op=31\/i.Op=34 then 7 else 6) ((n+1:Nat):Int)):=by
 have ho:=instr_ok h
 have hb:=bare i h ok
 have hin:(stB p fs f bs b w (n:Int)).ins=true:=by
  show (decide (5<=w)&&decide (w<=8))=true
  simp [hw.1,hw.2]
 refine Runs_one fun c=>?_
 rw [words_eq]
 cases hd:(Lt.Of i.Op).1.Dst with
 | true=>
  rw [if_pos rfl]
  have hN:=ho.dstN hd
  have he:Lt.sEq ([i.Dst,[61]]++opWords i)=true:=by
   unfold Lt.sEq
   have h1:decide (2 < ([i.Dst,[61]]++opWords i).length)=true:=by
    unfold opWords; simp
   rw [h1]; rfl
  unfold Lt.sLineM
  rw [he,if_pos rfl]
  unfold Lt.sCodeM
  have e0:Lt.w0 ([i.Dst,[61]]++opWords i)=i.Dst:=rfl
  have e2:([i.Dst,[61]]++opWords i).drop 2=opWords i:=rfl
  rw [he,e0,rName_eq,hN,hin,if_neg (by decide),if_neg (by decide),if_pos rfl,if_pos rfl,e2,hb]
  simp only
  rw [if_neg (by show ¬ (1024:Int)<=(n:Int); omega),block_st]
  rfl
 | false=>
  rw [if_neg (by decide),List.nil_append]
  have he:=eq_ops h ok
  have hD:i.Dst=[]:=by have:=ho.dst; rw [hd] at this; simpa using this
  have e0:Lt.w0 (opWords i)=(Lt.Of i.Op).1.Word:=rfl
  have hk:∀ k∈[Lt.kSsa,Lt.kClass,Lt.kField,Lt.kGlobal,Lt.kExtern,Lt.kFunc,Lt.kParam,Lt.kVar,Lt.kBlock,Lt.kPhi,Lt.kAt,Lt.kObj,Lt.kJump,Lt.kBranch,Lt.kRet,Lt.kTrap],¬ Lt.w0 (opWords i)=k:=by
   rw [e0]
   rcases no_dst ho.of hd with e | e | e | e <;> rw [e] <;> decide +kernel
  rw [line_code (hk _ (by simp)) (head_no (hk _ (by simp)) (hk _ (by simp)) (hk _ (by simp)) (hk _ (by simp)) (hk _ (by simp))) (part_no (hk _ (by simp)) (hk _ (by simp)) (hk _ (by simp)) (hk _ (by simp))) (state_no (hk _ (by simp)) (hk _ (by simp)) (hk _ (by simp)) (hk _ (by simp)) (hk _ (by simp)) (hk _ (by simp)))]
  unfold Lt.sCodeM
  rw [he,hin,Bool.false_and,if_neg (by decide),if_neg (by decide),if_neg (by decide),if_neg (by decide)]
  rw [hD] at hb
  rw [hb]
  simp only
  rw [if_neg (by show ¬ (1024:Int)<=(n:Int); omega),block_st]
  simp only [hD]
  rfl
theorem frame_pairs {x:Lt.Frame} (h:Lt.frame x=true) (ok:x.ok):Lt.sPairs (Lt.frameW x) 4 true=(x.Vars,true):=by
 obtain ⟨_,_,_,_,_,h4⟩:=frame_ok h
 unfold Lt.sPairs Lt.frameW
 have hg:=pairsG_put (objs:=true) (l:=x.Vars) (by
  intro b hb
  have:=h4 b hb
  unfold Lt.bindRight at this
  simp only [Bool.and_eq_true] at this
  exact ⟨this.1,this.2,ok.2 b hb⟩)
 have ed:([Lt.kAt,x.Func,x.Block,Lt.number x.At]++x.Vars.flatMap fun b=>[b.Name,Lt.wordPut b.A]).drop (4:Int).toNat=x.Vars.flatMap fun b=>[b.Name,Lt.wordPut b.A]:=rfl
 rw [ed,hg,if_neg (by simp; omega)]
theorem steps_frame {p:Lt.Program} {fs:List Lt.Func} {f:Lt.Func} {bs:List Lt.Block} {b:Lt.Block} {cs:List Lt.Instr} {n:Int}:∀ (l:List Lt.Frame) (i:Lt.Instr),(∀ x∈l,Lt.frame x=true/\x.ok)->i.Frames.length+l.length<=16 ->
  Runs (stI p fs f bs b cs i 7 n) (l.map Lt.frameW) (stI p fs f bs b cs { i with Frames:=i.Frames++l } 7 n)
 | [],i,_,_=>by simpa using Runs_nil _
 | x::l,i,h,hl=>by
  obtain ⟨h1,hok⟩:=h x (by simp)
  obtain ⟨hf,hb,ha0,ha1,h16,_⟩:=frame_ok h1
  have hl':i.Frames.length+(l.length+1)<=16:=hl
  have ih:=steps_frame (p:=p) (fs:=fs) (f:=f) (bs:=bs) (b:=b) (cs:=cs) (n:=n) l { i with Frames:=i.Frames++[x] } (fun y hy=>h y (by simp [hy])) (by simp; omega)
  refine ⟨stI p fs f bs b cs { i with Frames:=i.Frames++[x] } 7 n,fun c=>line_state (eq_name (name_eqs hf)) (by show ¬ Lt.kAt=Lt.kSsa; decide) (head_no (by show ¬ Lt.kAt=_; decide) (by show ¬ Lt.kAt=_; decide) (by show ¬ Lt.kAt=_; decide) (by show ¬ Lt.kAt=_; decide) (by show ¬ Lt.kAt=_; decide)) (part_no (by show ¬ Lt.kAt=_; decide) (by show ¬ Lt.kAt=_; decide) (by show ¬ Lt.kAt=_; decide) (by show ¬ Lt.kAt=_; decide)) ?_,by simpa using ih⟩
  refine (state_at (by show (decide ((5:Int)<=7)&&decide ((7:Int)<=8))=true; decide) rfl).trans ?_
  have:Lt.sAt (stI p fs f bs b cs i 7 n) (Lt.frameW x)=(0,stI p fs f bs b cs { i with Frames:=i.Frames++[x] } 7 n):=by
   unfold Lt.sAt
   have en:Lt.sNum (Lt.w3 (Lt.frameW x))=(x.At,true):=sNum_put (by unfold Lt.inR; omega)
   have e1:Lt.w1 (Lt.frameW x)=x.Func:=rfl
   have e2:Lt.w2 (Lt.frameW x)=x.Block:=rfl
   rw [frame_pairs h1 hok,rName_eq,rName_eq,en,e1,e2,hf,hb,curI_st,instr_st]
   have ho:(decide ((stI p fs f bs b cs i 7 n).Where=7)&&(x.Vars,true).2&&true&&true&&((x.At,true).2&&decide (0<=(x.At,true).1)&&decide ((x.At,true).1<=1024)))=true:=by
    show (true&&true&&true&&true&&(true&&decide (0<=x.At)&&decide (x.At<=1024)))=true
    simp [ha0,ha1]
   rw [ho,if_neg (by decide),if_neg (by show ¬ (16<x.Vars.length\/16<=i.Frames.length); omega)]
  rw [this]
theorem steps_obj {p:Lt.Program} {fs:List Lt.Func} {f:Lt.Func} {bs:List Lt.Block} {b:Lt.Block} {cs:List Lt.Instr} {n:Int}:∀ (l:List Lt.Virt) (i:Lt.Instr) (w:Int),(w=7\/w=8)->(∀ x∈l,Lt.virt x=true/\x.ok)->i.Objs.length+l.length<=99 ->
  ∃ w',(w'=7\/w'=8)/\Runs (stI p fs f bs b cs i w n) (l.map Lt.virtW) (stI p fs f bs b cs { i with Objs:=i.Objs++l } w' n)
 | [],i,w,hw,_,_=>⟨w,hw,by simpa using Runs_nil _⟩
 | x::l,i,w,hw,h,hl=>by
  obtain ⟨h1,hok⟩:=h x (by simp)
  obtain ⟨hc,h8,hv⟩:=virt_ok h1
  have hl':i.Objs.length+(l.length+1)<=99:=hl
  obtain ⟨w',hw',ih⟩:=steps_obj (p:=p) (fs:=fs) (f:=f) (bs:=bs) (b:=b) (cs:=cs) (n:=n) l { i with Objs:=i.Objs++[x] } 8 (.inr rfl) (fun y hy=>h y (by simp [hy])) (by simp; omega)
  refine ⟨w',hw',stI p fs f bs b cs { i with Objs:=i.Objs++[x] } 8 n,fun c=>line_state (eq_name (name_eqs hc)) (by show ¬ Lt.kObj=Lt.kSsa; decide) (head_no (by show ¬ Lt.kObj=_; decide) (by show ¬ Lt.kObj=_; decide) (by show ¬ Lt.kObj=_; decide) (by show ¬ Lt.kObj=_; decide) (by show ¬ Lt.kObj=_; decide)) (part_no (by show ¬ Lt.kObj=_; decide) (by show ¬ Lt.kObj=_; decide) (by show ¬ Lt.kObj=_; decide) (by show ¬ Lt.kObj=_; decide)) ?_,by simpa using ih⟩
  have hin:(stI p fs f bs b cs i w n).ins=true:=by
   show (decide (5<=w)&&decide (w<=8))=true
   rcases hw with rfl | rfl <;> decide
  refine (state_obj hin rfl).trans ?_
  have:Lt.sObj (stI p fs f bs b cs i w n) (Lt.virtW x)=(0,stI p fs f bs b cs { i with Objs:=i.Objs++[x] } 8 n):=by
   unfold Lt.sObj
   have ed:(Lt.virtW x).drop 2=Lt.puts x.Vals:=rfl
   have e1:Lt.w1 (Lt.virtW x)=x.Class:=rfl
   have el:(Lt.virtW x).length=x.Vals.length+2:=by simp [Lt.virtW,Lt.puts]
   rw [ed,sArgs_put hv hok,rName_eq,e1,hc,curI_st,instr_st,el]
   have ho:(decide (7<=(stI p fs f bs b cs i w n).Where)&&decide (2<=x.Vals.length+2)&&decide (x.Vals.length+2<=10)&&true&&(x.Vals,true).2)=true:=by
    show (decide (7<=w)&&decide (2<=x.Vals.length+2)&&decide (x.Vals.length+2<=10)&&true&&true)=true
    simp; omega
   rw [ho,if_neg (by decide),if_neg (by omega)]
   rfl
  rw [this]
theorem steps_instr {p:Lt.Program} {fs:List Lt.Func} {f:Lt.Func} {bs:List Lt.Block} {b:Lt.Block} {w:Int} {n:Nat} {i:Lt.Instr} (hw:5<=w/\w<=8) (h:Lt.instr i=true) (ok:i.ok) (hl:n+1<=1024) :
  ∃ w',(5<=w'/\w'<=8)/\Runs (stB p fs f bs b w n) ((Lt.codeL i).map fun x=>x.Words) (stB p fs f bs { b with Code:=b.Code++[i] } w' ((n+1:Nat):Int)):=by
 have ho:=instr_ok h
 have a:=step_code (p:=p) (fs:=fs) (f:=f) (bs:=bs) (b:=b) hw h ok hl
 have e:(Lt.codeL i).map (fun x=>x.Words)=[Lt.words i]++(i.Frames.map Lt.frameW++i.Objs.map Lt.virtW):=by
  simp [Lt.codeL,Lt.ln,Function.comp_def]
 rw [e]
 by_cases hc:i.Op=31\/i.Op=34
 ·rw [if_pos hc] at a
  have b1:=steps_frame (p:=p) (fs:=fs) (f:=f) (bs:=bs) (b:=b) (cs:=b.Code) (n:=((n+1:Nat):Int)) i.Frames { i with Frames:=[],Objs:=[] } (fun x hx=>⟨ho.fr x hx,ok.2.1 x hx⟩) (by simpa using ho.frames)
  obtain ⟨w',hw',b2⟩:=steps_obj (p:=p) (fs:=fs) (f:=f) (bs:=bs) (b:=b) (cs:=b.Code) (n:=((n+1:Nat):Int)) i.Objs { i with Objs:=[] } 7 (.inl rfl) (fun x hx=>⟨ho.ob x hx,ok.2.2 x hx⟩) (by simpa using ho.objs)
  simp only [List.nil_append] at b1 b2
  exact ⟨w',by omega,Runs_app a (Runs_app b1 b2)⟩
 ·rw [if_neg hc] at a
  obtain ⟨e1,e2⟩:=ho.none (by omega)
  refine ⟨6,by omega,?_⟩
  have ei:({ i with Frames:=[],Objs:=[] }:Lt.Instr)=i:=by
   rw [<- e1,<- e2]
  rw [ei] at a
  rw [e1,e2]
  exact a
theorem steps_code {p:Lt.Program} {fs:List Lt.Func} {f:Lt.Func} {bs:List Lt.Block}:∀ (l:List Lt.Instr) (b:Lt.Block) (w:Int) (n:Nat),(5<=w/\w<=8)->(∀ i∈l,Lt.instr i=true/\i.ok)->n+l.length<=1024 ->
  ∃ w',(5<=w'/\w'<=8)/\Runs (stB p fs f bs b w n) ((l.flatMap Lt.codeL).map fun x=>x.Words) (stB p fs f bs { b with Code:=b.Code++l } w' ((n+l.length:Nat):Int))
 | [],b,w,n,hw,_,_=>⟨w,hw,by simpa using Runs_nil _⟩
 | i::l,b,w,n,hw,h,hl=>by
  obtain ⟨h1,hok⟩:=h i (by simp)
  have hl':n+(l.length+1)<=1024:=hl
  obtain ⟨w1,hw1,a⟩:=steps_instr (p:=p) (fs:=fs) (f:=f) (bs:=bs) (b:=b) hw h1 hok (n:=n) (by omega)
  obtain ⟨w2,hw2,ih⟩:=steps_code (p:=p) (fs:=fs) (f:=f) (bs:=bs) l { b with Code:=b.Code++[i] } w1 (n+1) hw1 (fun y hy=>h y (by simp [hy])) (by omega)
  have e:n+1+l.length=n+(i::l).length:=by simp; omega
  rw [e] at ih
  refine ⟨w2,hw2,?_⟩
  rw [List.flatMap_cons,List.map_append]
  exact Runs_app a (by simpa using ih)
theorem term_put {t:Lt.Term} (h:Lt.showEnd t=true) (ok:t.ok):Lt.sTerm (Lt.endW t)=some t:=by
 rcases end_cases h with ⟨x,rfl,h1⟩ | ⟨a,x,y,rfl,h1,h2,h3⟩ | ⟨a,rfl,h1⟩ | ⟨n,rfl⟩
 ·have e:Lt.endW ⟨1,⟨0,[],0⟩,[x],0⟩=[Lt.kJump,x]:=rfl
  rw [e]
  unfold Lt.sTerm
  rw [if_pos (show Lt.w0 [Lt.kJump,x]=Lt.kJump from rfl),rName_eq,if_pos (by show (true&&Lt.Name x)=true; rw [h1]; rfl)]
  rfl
 ·have e:Lt.endW ⟨2,a,[x,y],0⟩=[Lt.kBranch,Lt.wordPut a,x,y]:=by simp [Lt.endW]
  have ha:Lt.sArg (Lt.wordPut a)=(a,true):=sArg_put (by unfold Lt.argRight at h1; simp only [Bool.and_eq_true] at h1; exact h1.1) ok.1
  rw [e]
  unfold Lt.sTerm
  rw [if_neg (by show ¬ Lt.kBranch=_; decide),if_pos (show Lt.w0 [Lt.kBranch,Lt.wordPut a,x,y]=Lt.kBranch from rfl),rName_eq,rName_eq,if_pos (by
   show (true&&(Lt.Name x&&Lt.Name y)&&Lt.argOk false (Lt.wordPut a))=true
   rw [h2,h3,argOk_put h1 ok.1]; rfl)]
  show some (⟨2,(Lt.sArg (Lt.wordPut a)).1,[x,y],0⟩:Lt.Term)=_
  rw [ha]
 ·have e:Lt.endW ⟨3,a,[],0⟩=[Lt.kRet,Lt.wordPut a]:=by simp [Lt.endW]
  have ha:Lt.sArg (Lt.wordPut a)=(a,true):=sArg_put (by unfold Lt.argRight at h1; simp only [Bool.and_eq_true] at h1; exact h1.1) ok.1
  rw [e]
  unfold Lt.sTerm
  rw [if_neg (by show ¬ Lt.kRet=_; decide),if_neg (by show ¬ Lt.kRet=_; decide),if_pos (show Lt.w0 [Lt.kRet,Lt.wordPut a]=Lt.kRet from rfl),if_pos (by
   show (true&&Lt.argOk false (Lt.wordPut a))=true
   rw [argOk_put h1 ok.1]; rfl)]
  show some (⟨3,(Lt.sArg (Lt.wordPut a)).1,[],0⟩:Lt.Term)=_
  rw [ha]
 ·have e:Lt.endW ⟨4,⟨0,[],0⟩,[],n⟩=[Lt.kTrap,Lt.numPut n]:=by simp [Lt.endW]
  have ha:Lt.sNum (Lt.numPut n)=(n,true):=sNum_put ok.2
  rw [e]
  unfold Lt.sTerm
  rw [if_neg (by show ¬ Lt.kTrap=_; decide),if_neg (by show ¬ Lt.kTrap=_; decide),if_neg (by show ¬ Lt.kTrap=_; decide),if_pos (show Lt.w0 [Lt.kTrap,Lt.numPut n]=Lt.kTrap from rfl),if_pos (by
   show (true&&(Lt.sNum (Lt.numPut n)).2)=true
   rw [ha]; rfl)]
  show some (⟨4,⟨0,[],0⟩,[],(Lt.sNum (Lt.numPut n)).1⟩:Lt.Term)=_
  rw [ha]
theorem step_end {p:Lt.Program} {fs:List Lt.Func} {f:Lt.Func} {bs:List Lt.Block} {b:Lt.Block} {w n:Int} {t:Lt.Term} (hw:5<=w/\w<=8) (h:Lt.showEnd t=true) (ok:t.ok) :
  Runs (stB p fs f bs b w n) [Lt.endW t] (stB p fs f bs { b with End:=t } 9 n):=by
 have hin:(stB p fs f bs b w n).ins=true:=by
  show (decide (5<=w)&&decide (w<=8))=true
  simp [hw.1,hw.2]
 have key:Lt.sEnd (stB p fs f bs b w n) (Lt.endW t)=(0,stB p fs f bs { b with End:=t } 9 n):=by
  unfold Lt.sEnd
  rw [term_put h ok]
  simp only [block_st]
  rfl
 have hk:Lt.sEq (Lt.endW t)=false/\(Lt.w0 (Lt.endW t)=Lt.kJump\/Lt.w0 (Lt.endW t)=Lt.kBranch\/Lt.w0 (Lt.endW t)=Lt.kRet\/Lt.w0 (Lt.endW t)=Lt.kTrap):=by
  rcases end_cases h with ⟨x,rfl,h1⟩ | ⟨a,x,y,rfl,h1,h2,h3⟩ | ⟨a,rfl,h1⟩ | ⟨n,rfl⟩
  ·exact ⟨rfl,.inl rfl⟩
  ·have e:Lt.endW ⟨2,a,[x,y],0⟩=[Lt.kBranch,Lt.wordPut a,x,y]:=by simp [Lt.endW]
   rw [e]
   unfold Lt.argRight at h1
   simp only [Bool.and_eq_true] at h1
   exact ⟨eq_name (word_eqs h1.1 ok.1),.inr (.inl rfl)⟩
  ·have e:Lt.endW ⟨3,a,[],0⟩=[Lt.kRet,Lt.wordPut a]:=by simp [Lt.endW]
   rw [e]; exact ⟨rfl,.inr (.inr (.inl rfl))⟩
  ·have e:Lt.endW ⟨4,⟨0,[],0⟩,[],n⟩=[Lt.kTrap,Lt.numPut n]:=by simp [Lt.endW]
   rw [e]; exact ⟨rfl,.inr (.inr (.inr rfl))⟩
 obtain ⟨he,hk⟩:=hk
 have hn:∀ k∈[Lt.kSsa,Lt.kClass,Lt.kField,Lt.kGlobal,Lt.kExtern,Lt.kFunc,Lt.kParam,Lt.kVar,Lt.kBlock,Lt.kPhi,Lt.kAt,Lt.kObj],¬ Lt.w0 (Lt.endW t)=k:=by
  rcases hk with e | e | e | e <;> rw [e] <;> decide
 refine Runs_one fun c=>line_state he (hn _ (by simp)) (head_no (hn _ (by simp)) (hn _ (by simp)) (hn _ (by simp)) (hn _ (by simp)) (hn _ (by simp))) (part_no (hn _ (by simp)) (hn _ (by simp)) (hn _ (by simp)) (hn _ (by simp))) ?_
 unfold Lt.sStateM
 rw [if_pos (.inr (.inr hk)),hin,if_neg (by decide),if_neg (hn _ (by simp)),if_neg (hn _ (by simp)),key]
theorem steps_block {p:Lt.Program} {fs:List Lt.Func} {f:Lt.Func} {w:Int} {n:Nat} {b:Lt.Block} (hw:w=3\/w=4\/w=9) (h:Lt.block b=true) (ok:b.ok) (hb:f.Blocks.length < 256) (hl:n+(b.Phis.length+b.Code.length)<=1024) :
  Runs (stF p fs f w n) ((Lt.blockL b).map fun x=>x.Words) (stF p fs { f with Blocks:=f.Blocks++[b] } 9 ((n+(b.Phis.length+b.Code.length):Nat):Int)):=by
 obtain ⟨hn,he,hp,hc⟩:=block_ok h
 obtain ⟨o1,o2,o3⟩:=ok
 have a1:=step_block (p:=p) (fs:=fs) (f:=f) (n:=(n:Int)) hw hn hb
 have a2:=steps_phi (p:=p) (fs:=fs) (f:=f) (bs:=f.Blocks) b.Phis ⟨b.Name,[],[],⟨0,⟨0,[],0⟩,[],0⟩⟩ n (fun x hx=>⟨hp x hx,o1 x hx⟩) (by omega)
 simp only [List.nil_append] at a2
 obtain ⟨w',hw',a3⟩:=steps_code (p:=p) (fs:=fs) (f:=f) (bs:=f.Blocks) b.Code ⟨b.Name,b.Phis,[],⟨0,⟨0,[],0⟩,[],0⟩⟩ 5 (n+b.Phis.length) (by omega) (fun x hx=>⟨hc x hx,o2 x hx⟩) (by omega)
 simp only [List.nil_append] at a3
 have a4:=step_end (p:=p) (fs:=fs) (f:=f) (bs:=f.Blocks) (b:=⟨b.Name,b.Phis,b.Code,⟨0,⟨0,[],0⟩,[],0⟩⟩) (n:=((n+b.Phis.length+b.Code.length:Nat):Int)) hw' he o3
 have e:(Lt.blockL b).map (fun x=>x.Words)=[[Lt.kBlock,b.Name]]++(b.Phis.map Lt.phiW++((b.Code.flatMap Lt.codeL).map (fun x=>x.Words)++[Lt.endW b.End])):=by
  simp [Lt.blockL,Lt.ln,Function.comp_def]
 rw [e,<- Nat.add_assoc]
 exact Runs_app a1 (Runs_app a2 (Runs_app a3 a4))
theorem steps_blocks {p:Lt.Program} {fs:List Lt.Func}:∀ (l:List Lt.Block) (f:Lt.Func) (w:Int) (n:Nat),(w=3\/w=4\/w=9)->(∀ b∈l,Lt.block b=true/\b.ok)->f.Blocks.length+l.length<=256->n+longs l<=1024 ->
  Runs (stF p fs f w n) ((l.flatMap Lt.blockL).map fun x=>x.Words) (stF p fs { f with Blocks:=f.Blocks++l } (if l=[] then w else 9) ((n+longs l:Nat):Int))
 | [],f,w,n,_,_,_,_=>by simpa [longs] using Runs_nil _
 | b::l,f,w,n,hw,h,hb,hl=>by
  obtain ⟨h1,hok⟩:=h b (by simp)
  have hb':f.Blocks.length+(l.length+1)<=256:=hb
  have el:longs (b::l)=(b.Phis.length+b.Code.length)+longs l:=by simp [longs]
  rw [el] at hl ⊢
  have a:=steps_block (p:=p) (fs:=fs) (f:=f) hw h1 hok (by omega) (n:=n) (by omega)
  have ih:=steps_blocks (p:=p) (fs:=fs) l { f with Blocks:=f.Blocks++[b] } 9 (n+(b.Phis.length+b.Code.length)) (by omega) (fun y hy=>h y (by simp [hy])) (by simp; omega) (by omega)
  rw [List.flatMap_cons,List.map_append,if_neg (by simp),<- Nat.add_assoc]
  have e9:(if l=[] then (9:Int) else 9)=9:=by split <;> rfl
  rw [e9] at ih
  exact Runs_app a (by simpa using ih)
theorem steps_func {p:Lt.Program} {fs:List Lt.Func} {w n:Int} {f:Lt.Func} (hw:w<=2\/w=9) (h:Lt.showFunction f=true) (ok:f.ok) (hl:fs.length < 8) :
  Runs ⟨{ p with Funcs:=fs },w,n⟩ ((Lt.funcL f).map fun x=>x.Words) ⟨{ p with Funcs:=fs++[f] },9,(longs f.Blocks:Int)⟩:=by
 have ho:=func_ok h
 have a1:=step_func (p:=p) (fs:=fs) (n:=n) hw ho.name ho.res hl
 have a2:=steps_param (p:=p) (fs:=fs) (n:=0) f.Params ⟨f.Name,f.Result,[],[],[]⟩ (typed_mem ho.params) (by simpa using typed_le (k:=6) ho.params)
 simp only [List.nil_append] at a2
 obtain ⟨w',hw',a3⟩:=steps_var (p:=p) (fs:=fs) (n:=0) f.Vars ⟨f.Name,f.Result,f.Params,[],[]⟩ 3 (.inl rfl) (typed_mem ho.vars) (by simpa using typed_le (k:=1024) ho.vars)
 simp only [List.nil_append] at a3
 have a4:=steps_blocks (p:=p) (fs:=fs) f.Blocks ⟨f.Name,f.Result,f.Params,f.Vars,[]⟩ w' 0 (by omega) (fun b hb=>⟨ho.bl b hb,ok b hb⟩) (by simpa using ho.len) (by simpa using ho.long)
 simp only [List.nil_append,if_neg ho.ne,Nat.zero_add] at a4
 have e:(Lt.funcL f).map (fun x=>x.Words)=[[Lt.kFunc,f.Name,f.Result]]++(f.Params.map (fun v=>[Lt.kParam,v.Name,v.Type_])++(f.Vars.map (fun v=>[Lt.kVar,v.Name,v.Type_])++(f.Blocks.flatMap Lt.blockL).map fun x=>x.Words)):=by
  simp [Lt.funcL,Lt.ln,Lt.varsL,Function.comp_def]
 rw [e]
 exact Runs_app a1 (Runs_app a2 (Runs_app a3 a4))
theorem steps_funcs {p:Lt.Program}:∀ (l fs:List Lt.Func) (w n:Int),(w<=2\/w=9)->(∀ f∈l,Lt.showFunction f=true/\f.ok)->fs.length+l.length<=8 ->
  ∃ w' n',(w'<=2\/w'=9)/\Runs ⟨{ p with Funcs:=fs },w,n⟩ ((l.flatMap Lt.funcL).map fun x=>x.Words) ⟨{ p with Funcs:=fs++l },w',n'⟩
 | [],fs,w,n,hw,_,_=>⟨w,n,hw,by simpa using Runs_nil _⟩
 | f::l,fs,w,n,hw,h,hl=>by
  obtain ⟨h1,hok⟩:=h f (by simp)
  have hl':fs.length+(l.length+1)<=8:=hl
  have a:=steps_func (p:=p) (n:=n) hw h1 hok (fs:=fs) (by omega)
  obtain ⟨w',n',hw',ih⟩:=steps_funcs (p:=p) l (fs++[f]) 9 (longs f.Blocks) (.inr rfl) (fun y hy=>h y (by simp [hy])) (by simp; omega)
  refine ⟨w',n',hw',?_⟩
  rw [List.flatMap_cons,List.map_append]
  exact Runs_app a (by simpa using ih)
def restL (p:Lt.Program):List Lt.Line:=p.Classes.flatMap Lt.classL++Lt.varsL Lt.kGlobal p.Globals++p.Externs.map Lt.externL++p.Funcs.flatMap Lt.funcL
theorem steps_rest {p:Lt.Program} (h:Lt.showRight p=true) (ok:p.ok):∃ w n,(w<=2\/w=9)/\Runs ⟨⟨p.SSA,[],[],[],[]⟩,0,0⟩ ((restL p).map fun x=>x.Words) ⟨p,w,n⟩:=by
 have ho:=prog_ok h
 obtain ⟨w1,hw1,a1⟩:=steps_class (s:=p.SSA) (gs:=[]) (es:=[]) (fs:=[]) (n:=0) p.Classes [] 0 (by omega) ho.cl (by simpa using ho.nc)
 obtain ⟨w2,hw2,a2⟩:=steps_global (s:=p.SSA) (cs:=p.Classes) (es:=[]) (fs:=[]) (n:=0) p.Globals [] w1 hw1 (typed_mem ho.glob) (by simpa using typed_le (k:=8) ho.glob)
 obtain ⟨w3,hw3,a3⟩:=steps_extern (s:=p.SSA) (cs:=p.Classes) (gs:=p.Globals) (fs:=[]) (n:=0) p.Externs [] w2 hw2 ho.ex (by simpa using ho.ne)
 obtain ⟨w4,n4,hw4,a4⟩:=steps_funcs (p:=p) p.Funcs [] w3 0 hw3 (fun f hf=>⟨ho.fn f hf,ok f hf⟩) (by simpa using ho.nf)
 simp only [List.nil_append] at a1 a2 a3 a4
 refine ⟨w4,n4,hw4,?_⟩
 have e:(restL p).map (fun x=>x.Words)=(p.Classes.flatMap Lt.classL).map (fun x=>x.Words)++(p.Globals.map (fun v=>[Lt.kGlobal,v.Name,v.Type_])++(p.Externs.map (fun x=>[Lt.kExtern,x.Name,Lt.numPut x.N])++(p.Funcs.flatMap Lt.funcL).map fun x=>x.Words)):=by
  simp [restL,Lt.ln,Lt.varsL,Lt.externL,Lt.number,Function.comp_def]
 rw [e]
 exact Runs_app a1 (Runs_app a2 (Runs_app a3 a4))
theorem parse_show {p:Lt.Program} (h:Lt.showRight p=true) (ok:p.ok) (hl:(Lt.rLines p).length<=4194304):Lt.sParse (Lt.rLines p)=(p,0,0):=by
 have e:=rLines_eq h
 rw [e] at hl ⊢
 obtain ⟨w,n,hw,hr⟩:=steps_rest h ok
 have hout:(⟨p,w,n⟩:Lt.Read).out=true:=by
  show (decide (w<=2)||decide (w=9))=true
  simpa using hw
 unfold Lt.sParse
 rw [split_join (progL_good h) hl]
 simp only [if_true]
 have el:Lt.progL p=(if p.SSA then [Lt.ln [Lt.kSsa]] else [])++restL p:=by
  unfold Lt.progL restL; simp
 rw [el]
 cases hs:p.SSA with
 | true=>
  rw [hs] at hr
  rw [if_pos rfl]
  show Lt.sParseG (⟨1,[Lt.kSsa]⟩::numb (1+1) (restL p)) true _=_
  have h1:Lt.sLineM ⟨⟨false,[],[],[],[]⟩,0,0⟩ [Lt.kSsa] true=(0,⟨⟨true,[],[],[],[]⟩,0,0⟩):=rfl
  rw [Lt.sParseG,h1,if_pos rfl,parse_runs _ _ _ _ _ hr,hout]; rfl
 | false=>
  rw [hs] at hr
  rw [if_neg (by decide),List.nil_append,parse_runs _ _ _ _ _ hr,hout]; rfl
end Go.Am
end
