/-
  Part 11: AmLay · AmNiceY · AmNiceT · AmG4 · AmG3 · AmG2 · AmG · AmN1 · AmN2 · AmN3 · AmN4 · AmN5 · AmN6 · AmN7 · AmN8 · AmN9 · AmS1 · AmS2 · AmS3 · AmS4 · AmS5 · AmS6 · AmS7 · AmS8 · AmS9 · AmR1 · AmN10 · AmN11 · AmR2 · AmR3 · AmY1 · AmY2 · AmY3 · AmY4 · AmY5 · AmY6 · AmY7 · AmR4 · AmR5.
-/
import Derived.Test.YtlikflolhhlgjaaDoorOp10
import Derived.Shelf.Small.Strs
import Derived.Shelf.Small.Wraps
import Derived.Shelf.Strings.Cut
import Derived.Shelf.Strings.Split
set_option linter.unusedSimpArgs false
set_option linter.unusedVariables false
set_option linter.unusedSectionVars false
set_option linter.unnecessarySimpa false
section
namespace Go.Proofs
open Go.Shelf
def Tryd.lays137_ren:Go.Shelf.Ren:=⟨fun | 137=>159 | 217=>135 | 266=>150 | n=>n,fun | 9=>9 | 5=>5 | 3=>3 | n=>n,fun | n=>n⟩
theorem Tryd.lays137:Go.Proofs.Lays.n137 Tryd.prog Tryd.lays137_ren:={
 mixed:=by kernel_rfl
 f137:=Tryd.func159.trans (congrArg some (by kernel_rfl))
 f217:=Tryd.func135.trans (congrArg some (by kernel_rfl))
 f266:=Tryd.func150.trans (congrArg some (by kernel_rfl))
 t3:=Tryd.underlying3
 a3:=Tryd.isAgg3
 z3:=Tryd.sizeOf3
 v3:=Tryd.zeroValue3
 t5:=Tryd.underlying5
 a5:=Tryd.isAgg5
 z5:=Tryd.sizeOf5
 v5:=Tryd.zeroValue5
 t9:=Tryd.underlying9
 a9:=Tryd.isAgg9
 z9:=Tryd.sizeOf9
 v9:=Tryd.zeroValue9 }
open Go.RowKit in
theorem Tryd.strings_IndexByte (s:ByteArray) (c:Int) (w:World) :
  Calls Tryd.prog 159 #[.string s,.int .u8 c] w fun e w'=>e=.returned (.int .i64 (Lib.indexByte s.data.toList c.toNat.toUInt8))/\w'=w:=Any.strings_IndexByte Tryd.lays137 s c w
def Tryd.lays103_ren:Go.Shelf.Ren:=⟨fun | 103=>158 | 210=>160 | 206=>161 | n=>n,fun | 9=>9 | 4=>4 | 24=>228 | 3=>3 | n=>n,fun | n=>n⟩
theorem Tryd.lays103:Go.Proofs.Lays.n103 Tryd.prog Tryd.lays103_ren:={
 mixed:=by kernel_rfl
 f103:=Tryd.func158.trans (congrArg some (by kernel_rfl))
 f206:=Tryd.func161.trans (congrArg some (by kernel_rfl))
 f210:=Tryd.func160.trans (congrArg some (by kernel_rfl))
 t3:=Tryd.underlying3
 a3:=Tryd.isAgg3
 z3:=Tryd.sizeOf3
 v3:=Tryd.zeroValue3
 t4:=Tryd.underlying4
 a4:=Tryd.isAgg4
 z4:=Tryd.sizeOf4
 v4:=Tryd.zeroValue4
 t9:=Tryd.underlying9
 a9:=Tryd.isAgg9
 z9:=Tryd.sizeOf9
 v9:=Tryd.zeroValue9
 t24:=Tryd.underlying228
 a24:=Tryd.isAgg228
 z24:=Tryd.sizeOf228
 v24:=Tryd.zeroValue228 }
open Go.RowKit in
theorem Tryd.strings_CutPrefix (s p:ByteArray) (w:World) :
  Calls Tryd.prog 158 #[.string s,.string p] w fun e w'=>e=.returned (.tuple #[.string ⟨(Lib.trimPrefix s.data.toList p.data.toList).toArray⟩,.bool (Lib.hasPrefix s.data.toList p.data.toList)])/\w'=w:=Any.strings_CutPrefix Tryd.lays103 s p w
def Tryd.lays145_ren:Go.Shelf.Ren:=⟨fun | 145=>44 | 220=>72 | 219=>111 | 217=>135 | 225=>136 | 224=>137 | 267=>138 | 266=>150 | 314=>151 | n=>n,fun | 9=>9 | 4=>4 | 59=>114 | 3=>3 | 5=>5 | 46=>186 | 146=>220 | 51=>219 | n=>n,fun | 1=>1 | n=>n⟩
theorem Tryd.lays145:Go.Proofs.Lays.n145 Tryd.prog Tryd.lays145_ren:={
 mixed:=by kernel_rfl
 f145:=Tryd.func44.trans (congrArg some (by kernel_rfl))
 f217:=Tryd.func135.trans (congrArg some (by kernel_rfl))
 f219:=Tryd.func111.trans (congrArg some (by kernel_rfl))
 f220:=Tryd.func72.trans (congrArg some (by kernel_rfl))
 f224:=Tryd.func137.trans (congrArg some (by kernel_rfl))
 f225:=Tryd.func136.trans (congrArg some (by kernel_rfl))
 f266:=Tryd.func150.trans (congrArg some (by kernel_rfl))
 f267:=Tryd.func138.trans (congrArg some (by kernel_rfl))
 f314:=Tryd.func151.trans (congrArg some (by kernel_rfl))
 t3:=Tryd.underlying3
 a3:=Tryd.isAgg3
 z3:=Tryd.sizeOf3
 v3:=Tryd.zeroValue3
 t4:=Tryd.underlying4
 a4:=Tryd.isAgg4
 z4:=Tryd.sizeOf4
 v4:=Tryd.zeroValue4
 t5:=Tryd.underlying5
 a5:=Tryd.isAgg5
 z5:=Tryd.sizeOf5
 v5:=Tryd.zeroValue5
 t9:=Tryd.underlying9
 a9:=Tryd.isAgg9
 z9:=Tryd.sizeOf9
 v9:=Tryd.zeroValue9
 t46:=Tryd.underlying186
 a46:=Tryd.isAgg186
 z46:=Tryd.sizeOf186
 v46:=Tryd.zeroValue186
 t51:=Tryd.underlying219
 a51:=Tryd.isAgg219
 z51:=Tryd.sizeOf219
 v51:=Tryd.zeroValue219
 t59:=Tryd.underlying114
 a59:=Tryd.isAgg114
 z59:=Tryd.sizeOf114
 v59:=Tryd.zeroValue114
 t146:=Tryd.underlying220
 a146:=Tryd.isAgg220
 z146:=Tryd.sizeOf220
 v146:=Tryd.zeroValue220
 g1:=by kernel_rfl }
open Go.RowKit Go.Lib in
theorem Tryd.strings_Cut (s sep:ByteArray) (m:Int) (w:World) (hs:s.size < 4294967281) (hm:w.cell? ⟨1,0,none⟩=some (.int .i64 m)) :
  Calls Tryd.prog 44 #[.string s,.string sep] w fun e w'=>e=.returned (.tuple #[.string ⟨(Lib.cut s.data.toList sep.data.toList).1.toArray⟩,.string ⟨(Lib.cut s.data.toList sep.data.toList).2.1.toArray⟩,.bool (Lib.cut s.data.toList sep.data.toList).2.2])/\∃ n,w'=w.drewN n:=Any.strings_Cut Tryd.lays145 s sep m w hs hm
def Tryd.lays146_ren:Go.Shelf.Ren:=⟨fun | 146=>43 | 221=>71 | 268=>108 | 138=>109 | 143=>110 | 195=>132 | 197=>133 | 218=>134 | 219=>111 | 260=>149 | 217=>135 | 225=>136 | 224=>137 | 267=>138 | 266=>150 | 314=>151 | n=>n,fun | 9=>9 | 31=>56 | 3=>3 | 4=>4 | 0=>0 | 105=>204 | 21=>21 | 5=>5 | 46=>186 | 119=>223 | 139=>226 | 138=>225 | 146=>220 | 51=>219 | n=>n,fun | 1=>1 | 3=>2 | 4=>3 | n=>n⟩
theorem Tryd.lays146:Go.Proofs.Lays.n146 Tryd.prog Tryd.lays146_ren:={
 mixed:=by kernel_rfl
 f138:=Tryd.func109.trans (congrArg some (by kernel_rfl))
 f143:=Tryd.func110.trans (congrArg some (by kernel_rfl))
 f146:=Tryd.func43.trans (congrArg some (by kernel_rfl))
 f195:=Tryd.func132.trans (congrArg some (by kernel_rfl))
 f197:=Tryd.func133.trans (congrArg some (by kernel_rfl))
 f217:=Tryd.func135.trans (congrArg some (by kernel_rfl))
 f218:=Tryd.func134.trans (congrArg some (by kernel_rfl))
 f219:=Tryd.func111.trans (congrArg some (by kernel_rfl))
 f221:=Tryd.func71.trans (congrArg some (by kernel_rfl))
 f224:=Tryd.func137.trans (congrArg some (by kernel_rfl))
 f225:=Tryd.func136.trans (congrArg some (by kernel_rfl))
 f260:=Tryd.func149.trans (congrArg some (by kernel_rfl))
 f266:=Tryd.func150.trans (congrArg some (by kernel_rfl))
 f267:=Tryd.func138.trans (congrArg some (by kernel_rfl))
 f268:=Tryd.func108.trans (congrArg some (by kernel_rfl))
 f314:=Tryd.func151.trans (congrArg some (by kernel_rfl))
 t0:=Tryd.underlying0
 a0:=Tryd.isAgg0
 z0:=Tryd.sizeOf0
 v0:=Tryd.zeroValue0
 t3:=Tryd.underlying3
 a3:=Tryd.isAgg3
 z3:=Tryd.sizeOf3
 v3:=Tryd.zeroValue3
 t4:=Tryd.underlying4
 a4:=Tryd.isAgg4
 z4:=Tryd.sizeOf4
 v4:=Tryd.zeroValue4
 t5:=Tryd.underlying5
 a5:=Tryd.isAgg5
 z5:=Tryd.sizeOf5
 v5:=Tryd.zeroValue5
 t9:=Tryd.underlying9
 a9:=Tryd.isAgg9
 z9:=Tryd.sizeOf9
 v9:=Tryd.zeroValue9
 t21:=Tryd.underlying21
 a21:=Tryd.isAgg21
 z21:=Tryd.sizeOf21
 v21:=Tryd.zeroValue21
 t31:=Tryd.underlying56
 a31:=Tryd.isAgg56
 z31:=Tryd.sizeOf56
 v31:=Tryd.zeroValue56
 t46:=Tryd.underlying186
 a46:=Tryd.isAgg186
 z46:=Tryd.sizeOf186
 v46:=Tryd.zeroValue186
 t51:=Tryd.underlying219
 a51:=Tryd.isAgg219
 z51:=Tryd.sizeOf219
 v51:=Tryd.zeroValue219
 t105:=Tryd.underlying204
 a105:=Tryd.isAgg204
 z105:=Tryd.sizeOf204
 v105:=Tryd.zeroValue204
 t119:=Tryd.underlying223
 a119:=Tryd.isAgg223
 z119:=Tryd.sizeOf223
 t138:=Tryd.underlying225
 a138:=Tryd.isAgg225
 z138:=Tryd.sizeOf225
 v138:=Tryd.zeroValue225
 t139:=Tryd.underlying226
 a139:=Tryd.isAgg226
 z139:=Tryd.sizeOf226
 v139:=Tryd.zeroValue226
 t146:=Tryd.underlying220
 a146:=Tryd.isAgg220
 z146:=Tryd.sizeOf220
 v146:=Tryd.zeroValue220
 g1:=by kernel_rfl
 g3:=by kernel_rfl
 g4:=by kernel_rfl }
open Go.RowKit Go.Lib in
theorem Tryd.strings_Split (s sep:ByteArray) (m:Int) (w:World) (hs:s.size < 4294967281) (hm:w.cell? ⟨1,0,none⟩=some (.int .i64 m)) (h1:1<=sep.size) :
  Calls Tryd.prog 43 #[.string s,.string sep] w fun e w'=>
   e=.returned (.slice (some ⟨w.heap.size,0,none⟩) (Lib.countB s sep+1) (Lib.countB s sep+1))/\w'=w.alloc (.cells ((Lib.splitB sep 0 (Lib.countB s sep) s).map Value.string).toArray 9):=Any.strings_Split Tryd.lays146 (by kernel_rfl) s sep m w hs hm h1
end Go.Proofs
end

section
namespace Lt
def gIndex (s:List UInt8) (c:UInt8):Int:=Go.Lib.indexByte s c
def gCutP (s p:List UInt8):List UInt8×Bool:=(Go.Lib.trimPrefix s p,Go.Lib.hasPrefix s p)
def gCut (s p:List UInt8):List UInt8×List UInt8×Bool:=Go.Lib.cut s p
def gSplit (s p:List UInt8):List (List UInt8):=(Go.Lib.splitB ⟨p.toArray⟩ 0 (Go.Lib.countB ⟨s.toArray⟩ ⟨p.toArray⟩) ⟨s.toArray⟩).map (·.data.toList)
def preCut (s p:List UInt8):Prop:=s.length < 4294967281
def preSplit (s p:List UInt8):Prop:=s.length < 4294967281/\1<=p.length
end Lt
namespace Lt
open Go
def flt (n:Int):Value:=.iface 106 (.agg #[.int .i64 n])
def numGet (s:List UInt8):Int×Bool:=sNum s
def floGet (s:List UInt8):Int×Bool:=sFlo s
def wordGet (s:List UInt8):Arg×Bool:=sArg s
def wordNumber (s:List UInt8):Arg×Bool:=if (sFlo s).2 then (⟨3,[],(sFlo s).1⟩,true) else if (sNum s).2 then (⟨2,[],(sNum s).1⟩,true) else (⟨0,[],0⟩,false)
def yHas (l:List Int) (n:Int):Bool:=l.contains n
def yName (w:List UInt8):Except Value (List UInt8):=if Name w then .ok w else .error (flt 3)
def yKind (w:List UInt8):Except Value (List UInt8):=if sKind w then .ok w else .error (flt 3)
def yNumber (w:List UInt8) (least most:Int):Except Value Int:=if (sNum w).2&&(decide (least<=(sNum w).1)&&decide ((sNum w).1<=most)) then .ok (sNum w).1 else .error (flt 3)
def yArg (w:List UInt8) (objs:Bool):Except Value Arg:=if argOk objs w then .ok (sArg w).1 else .error (flt 3)
def yArgs (l:List (List UInt8)) (objs:Bool):Except Value (List Arg):=if (sArgs l objs).2 then .ok (sArgs l objs).1 else .error (flt 3)
def yOp (w:List UInt8):Int×Bool:=sOp w
def Reader.abs (r:Reader):Read:=⟨r.p,if r.where_=0 then (if 0<=r.long then 9 else 2) else if r.where_=1 then 1 else r.where_+1,r.long⟩
def yRes (r:Reader) (x:Int×Read) (w:Int):Except Value Unit×Reader:=
 if x.1=0 then (.ok (),⟨x.2.P,r.at_,w,r.first,x.2.Long⟩) else (.error (flt x.1),r)
def ySsa (r:Reader) (l:List (List UInt8)):Except Value Unit×Reader:=yRes r (if (r.first&&decide (l.length=1))=false then (3,r.abs) else (0,{ r.abs with P:={ r.p with SSA:=true } })) r.where_
def yClass (r:Reader) (l:List (List UInt8)):Except Value Unit×Reader:=yRes r (sClass r.abs l) 1
def yField (r:Reader) (l:List (List UInt8)):Except Value Unit×Reader:=yRes r (sField r.abs l) r.where_
def yGlobal (r:Reader) (l:List (List UInt8)):Except Value Unit×Reader:=yRes r (sGlobal r.abs l) 0
def yExtern (r:Reader) (l:List (List UInt8)):Except Value Unit×Reader:=yRes r (sExtern r.abs l) 0
def yFunction (r:Reader) (l:List (List UInt8)):Except Value Unit×Reader:=yRes r (sFunc r.abs l) 2
def yParam (r:Reader) (l:List (List UInt8)):Except Value Unit×Reader:=yRes r (sParam r.abs l) r.where_
def yVariable (r:Reader) (l:List (List UInt8)):Except Value Unit×Reader:=yRes r (sVar r.abs l) 3
def yStart (r:Reader) (l:List (List UInt8)):Except Value Unit×Reader:=yRes r (sBlock r.abs l) 4
def yPhi (r:Reader) (l:List (List UInt8)):Except Value Unit×Reader:=yRes r (sPhi r.abs l) 4
def yCode (r:Reader) (l:List (List UInt8)):Except Value Unit×Reader:=yRes r (sCodeM r.abs l) ((sCodeM r.abs l).2.Where - 1)
def yFrame (r:Reader) (l:List (List UInt8)):Except Value Unit×Reader:=yRes r (sAt r.abs l) 6
def yObject (r:Reader) (l:List (List UInt8)):Except Value Unit×Reader:=yRes r (if r.abs.ins=false then (3,r.abs) else sObj r.abs l) 7
def yTerm (l:List (List UInt8)):Option Term:=if w0 l=kJump\/w0 l=kBranch\/w0 l=kRet then sTerm l else if (decide (l.length=2)&&(sNum (w1 l)).2)=true then some ⟨4,⟨0,[],0⟩,[],(sNum (w1 l)).1⟩ else none
def yEnd (r:Reader) (l:List (List UInt8)):Except Value Unit×Reader:=yRes r (if r.abs.ins=false then (3,r.abs) else match yTerm l with | some t=>(0,{ r.abs.block (fun b=>{ b with End:=t }) with Where:=9 }) | none=>(3,r.abs)) 0
def yBody (r:Reader) (l:List (List UInt8)):Except Value Unit×Reader:=
 if sEq l then yCode r l
 else if w0 l=kSsa then ySsa r l else if w0 l=kClass then yClass r l else if w0 l=kField then yField r l else if w0 l=kGlobal then yGlobal r l
 else if w0 l=kExtern then yExtern r l else if w0 l=kFunc then yFunction r l else if w0 l=kParam then yParam r l else if w0 l=kVar then yVariable r l
 else if w0 l=kBlock then yStart r l else if w0 l=kPhi then yPhi r l else if w0 l=kAt then yFrame r l else if w0 l=kObj then yObject r l
 else if w0 l=kJump\/w0 l=kBranch\/w0 l=kRet\/w0 l=kTrap then yEnd r l else yCode r l
def Reader.heads (r:Reader):Nat:=r.p.Classes.length+r.p.Globals.length+r.p.Externs.length
def yLine (r:Reader) (l:List (List UInt8)):Except Value Unit×Reader:=match yBody r l with
 | (.ok _,x)=>(.ok (),{ x with first:=false,long:=if r.heads<x.heads then -1 else x.long })
 | (.error v,x)=>(.error v,x)
def yParse (s:List UInt8):Program×Int×Int:=sParse s
def blank (c:UInt8):Bool:=decide (c=32)||decide (c=9)
def lWordsG:List UInt8->List UInt8->List (List UInt8)->List (List UInt8)×Bool
 | [],w,out=>(if w=[] then out else out++[w],true)
 | c::r,w,out=>if blank c then lWordsG r [] (if w=[] then out else out++[w]) else if c.toNat<=32\/126<c.toNat then ([],false) else lWordsG r (w++[c]) out
def preLWords (s:List UInt8):Prop:=s.length<=room
def lWords (s:List UInt8):List (List UInt8)×Bool:=lWordsG s [] []
def lSplit (s:List UInt8):List Line×Int×Int:=((sSplit s).1.map fun l=>⟨l.N,l.Words⟩,(sSplit s).2.1,(sSplit s).2.2)
def Reader.inv (r:Reader):Prop:=Inv r.abs/\(0<=r.where_/\r.where_<=7)/\(-1<=r.long/\r.long<=1024)/\(0<=r.long ↔ r.where_≠1/\r.abs.Where≠2)
def preReader (r:Reader) (l:List (List UInt8)):Prop:=r.inv/\l≠[]/\l.length<=room
end Lt
end

section
namespace Lt
open Go
def awake5:Bool:=true
def right5 (x:Instr):Bool:=
 ((Of x.Op).2&&((!decide (x.Dst=[]))==(Of x.Op).1.Dst)&&((!decide (x.Name=[]))==(Of x.Op).1.Named)&&decide ((Of x.Op).1.Least<=(x.Args.length:Int))&&decide ((x.Args.length:Int)<=(Of x.Op).1.Most)) &&
 (decide (x.Op=31)||(decide (x.Op=34)||decide (IntKind.i64.wrap ((x.Frames.length:Int)+(x.Objs.length:Int))=0)))
def SyntaxOps (_:Int) (_:List UInt8):Bool:=true
end Lt
end

section
namespace Go.Am
open Go
set_option linter.unusedVariables false
def F_awake5 (KK:Bool->Prop):Prop:=
 have z4:=Lt.yParse [102,117,110,99,32,102,32,105,110,116,10]; have z1:=Lt.yParse [102,117,110,99,32,102,32,105,110,116,10,98,108,111,99,107,32,98,10,120,32,61,32,97,100,100,32,49,32,121,10,114,101,116,32,120,10]; have z3:=(((z1.1).Funcs).getD 0 default).Blocks; have z2:=z3.getD 0 default; joinP (α:=Bool) (fun J1=>if (!decide (z1.2.2=0))=true then (J1 true) else (if (!decide ((((z1.1).Funcs).length:Int)=1))=true then (J1 true) else (((0:Int)<=0/\0 < ((z1.1).Funcs).length)/\if (!decide ((z3.length:Int)=1))=true then (J1 true) else (if (!decide ((Lt.yParse [120,32,61,32,97,100,100,32,49,32,50]).2.2=3))=true then (J1 true) else (if (!decide ((Lt.yParse [120,32,61,32,97,100,100,32,49,32,50]).2.1=1))=true then (J1 true) else (if (!decide (z4.2.2=3))=true then (J1 true) else (J1 (!decide (z4.2.1=0))))))))) (fun v2=>if v2=true then (KK false) else (((0:Int)<=0/\0 < ((z1.1).Funcs).length)/\((0:Int)<=0/\0<z3.length)/\joinP (α:=Bool) (fun J3=>((z2.Code).length<=4611686018427387904->if (decide (((z2.Code).length:Int)=1))=true then (((0:Int)<=0/\0 < (z2.Code).length)/\if (decide (((z2.Code).getD 0 default).Op=1))=true then (((0:Int)<=0/\0 < (z2.Code).length)/\if (decide (((z2.Code).getD 0 default).Dst=[120]))=true then (J3 (decide ((z2.End).Kind=3))) else (J3 false)) else (J3 false)) else (J3 false))) (fun v4=>KK v4)))
def F_SyntaxOps (a0_op:Int) (a1_w:List UInt8) (KK:Bool->Prop):Prop:=
 joinP (α:=Bool) (fun J1=>if (decide (((Lt.Of a0_op).1).Word=((Lt.rOf a0_op).1).Word))=true then (if (((Lt.Of a0_op).1).Dst==((Lt.rOf a0_op).1).Dst)=true then (if (((Lt.Of a0_op).1).Named==((Lt.rOf a0_op).1).Named)=true then (if (decide (((Lt.Of a0_op).1).Least=((Lt.rOf a0_op).1).Least))=true then (J1 (decide (((Lt.Of a0_op).1).Most=((Lt.rOf a0_op).1).Most))) else (J1 false)) else (J1 false)) else (J1 false)) else (J1 false)) (fun v2=>joinP (α:=Bool) (fun J3=>if Lt.awake5=true then (if ((Lt.Of a0_op).2==(Lt.rOf a0_op).2)=true then (if v2=true then (if (decide (a1_w=([]:List UInt8)))=true then (J3 true) else (if (decide ((Lt.yOp a1_w).1=(Lt.sOp a1_w).1))=true then (J3 ((Lt.yOp a1_w).2==(Lt.sOp a1_w).2)) else (J3 false))) else (J3 false)) else (J3 false)) else (J3 false)) (fun v4=>KK v4))
end Go.Am
end

section
namespace Go.Am
open Go
set_option linter.unusedVariables false
def F_numGet (a0_s:List UInt8) (KK:(Int×Bool)->Prop):Prop:=
 joinP (α:=Bool) (fun J1=>if (decide (a0_s=([]:List UInt8)))=true then (J1 true) else (J1 (decide (20 < (a0_s.length:Int))))) (fun v2=>if v2=true then (KK (0,false)) else (joinP (α:=Int) (fun J3=>((0:Int)<=0/\0<a0_s.length)/\if (decide ((((a0_s.getD 0 0).toNat:Nat):Int)=(((45:UInt8).toNat:Nat):Int)))=true then (J3 1) else (J3 0)) (fun v4=>loopP (α:=Int×Int) (fun R5 v6=>have z2:=((0:Int)<=v6.2/\v6.2.toNat<a0_s.length); have z1:=(((a0_s.getD v6.2.toNat 0).toNat:Nat):Int); (a0_s.length<=4611686018427387904->if (decide (v6.2 < (a0_s.length:Int)))=true then (joinP (α:=Bool) (fun J7=>z2/\if (decide (z1 < (((48:UInt8).toNat:Nat):Int)))=true then (J7 true) else (z2/\J7 (decide ((((57:UInt8).toNat:Nat):Int)<z1)))) (fun v8=>if v8=true then (KK (0,false)) else (z2/\R5 ((IntKind.i64.wrap ((IntKind.i64.wrap (v6.1*10)) - (IntKind.i64.wrap (((UInt8.ofNat (IntKind.u8.wrap (z1 - (((48:UInt8).toNat:Nat):Int))).toNat).toNat:Nat):Int)))),(IntKind.i64.wrap (v6.2+1)))))) else (joinP (α:=Int) (fun J9=>if (decide (v4=0))=true then (J9 (IntKind.i64.wrap (0-v6.1))) else (J9 v6.1)) (fun v10=>(Lt.preNum v10)/\if (!decide ((Lt.numPut v10)=a0_s))=true then (KK (0,false)) else (KK (v10,true)))))) (0,v4))))
def F_floGet (a0_s:List UInt8) (KK:(Int×Bool)->Prop):Prop:=
 joinP (α:=Bool) (fun J1=>if (!((Lt.gCutP a0_s [48,102]).2))=true then (J1 true) else (J1 (!decide ((((Lt.gCutP a0_s [48,102]).1).length:Int)=16)))) (fun v2=>if v2=true then (KK (0,false)) else ((((Lt.gCutP a0_s [48,102]).1).length<=4611686018427387904->loopP (α:=Int×Int) (fun R3 v4=>if (decide (v4.2 < (((Lt.gCutP a0_s [48,102]).1).length:Int)))=true then (((0:Int)<=v4.2/\v4.2.toNat < ((Lt.gCutP a0_s [48,102]).1).length)/\if (decide ((Lt.gIndex [48,49,50,51,52,53,54,55,56,57,97,98,99,100,101,102] (((Lt.gCutP a0_s [48,102]).1).getD v4.2.toNat 0)) < 0))=true then (KK (0,false)) else ((0:Int)<=4/\R3 ((IntKind.u64.wrap ((BitVec.ofInt IntKind.u64.bits (IntKind.u64.wrap (v4.1*2 ^ (min (4:Int).toNat IntKind.u64.bits))) ||| BitVec.ofInt IntKind.u64.bits (IntKind.u64.wrap (Lt.gIndex [48,49,50,51,52,53,54,55,56,57,97,98,99,100,101,102] (((Lt.gCutP a0_s [48,102]).1).getD v4.2.toNat 0)))).toNat:Nat)),(IntKind.i64.wrap (v4.2+1))))) else (if (!decide ((Lt.Plain (IntKind.i64.wrap v4.1))=(IntKind.i64.wrap v4.1)))=true then (KK (0,false)) else (KK ((IntKind.i64.wrap v4.1),true)))) (0,0))))
def F_wordNumber (a0_s:List UInt8) (KK:(Lt.Arg×Bool)->Prop):Prop:=
 if ((Lt.floGet a0_s).2)=true then (KK ((Lt.Arg.mk 3 ([]:List UInt8) ((Lt.floGet a0_s).1)),true)) else (if (!((Lt.numGet a0_s).2))=true then (KK ((Lt.Arg.mk 0 ([]:List UInt8) 0),false)) else (KK ((Lt.Arg.mk 2 ([]:List UInt8) ((Lt.numGet a0_s).1)),true)))
def F_wordGet (a0_s:List UInt8) (KK:(Lt.Arg×Bool)->Prop):Prop:=
 if (decide (a0_s=([]:List UInt8)))=true then (KK ((Lt.Arg.mk 0 ([]:List UInt8) 0),false)) else (if (decide (a0_s=[110,117,108,108]))=true then (KK ((Lt.Arg.mk 4 ([]:List UInt8) 0),true)) else (if (Lt.Name a0_s)=true then (KK ((Lt.Arg.mk 1 a0_s 0),true)) else (((0:Int)<=0/\0<a0_s.length)/\if (decide ((((a0_s.getD 0 0).toNat:Nat):Int)=(((35:UInt8).toNat:Nat):Int)))=true then ((0:Int)<=1/\(1<=a0_s.length/\a0_s.length<=a0_s.length)/\joinP (α:=Bool) (fun J1=>if (!((Lt.numGet ((a0_s.drop 1).take (a0_s.length - 1))).2))=true then (J1 true) else (if (decide ((Lt.numGet ((a0_s.drop 1).take (a0_s.length - 1))).1 < 0))=true then (J1 true) else (J1 (decide (999 < (Lt.numGet ((a0_s.drop 1).take (a0_s.length - 1))).1))))) (fun v2=>if v2=true then (KK ((Lt.Arg.mk 0 ([]:List UInt8) 0),false)) else (KK ((Lt.Arg.mk 5 ([]:List UInt8) ((Lt.numGet ((a0_s.drop 1).take (a0_s.length - 1))).1)),true)))) else (KK (((Lt.wordNumber a0_s).1),(Lt.wordNumber a0_s).2)))))
def F_blank (a0_c:UInt8) (KK:Bool->Prop):Prop:=
 if (decide (((a0_c.toNat:Nat):Int)=(((32:UInt8).toNat:Nat):Int)))=true then (KK true) else (KK (decide (((a0_c.toNat:Nat):Int)=(((9:UInt8).toNat:Nat):Int))))
def F_lWords (a0_s:List UInt8) (KK:(List (List UInt8)×Bool)->Prop):Prop:=
 loopP (α:=List (List UInt8)×Int×Int) (fun R1 v2=>have z2:=((0:Int)<=v2.2.2/\v2.2.2.toNat<a0_s.length); have z1:=([((a0_s.drop v2.2.1.toNat).take (v2.2.2.toNat-v2.2.1.toNat))]:List (List UInt8)); (a0_s.length<=4611686018427387904->if (decide (v2.2.2<=(a0_s.length:Int)))=true then (joinP (α:=List (List UInt8)×Int) (fun J3=>joinP (α:=Bool) (fun J5=>(a0_s.length<=4611686018427387904->if (decide (v2.2.2=(a0_s.length:Int)))=true then (J5 true) else (z2/\J5 (Lt.blank (a0_s.getD v2.2.2.toNat 0))))) (fun v6=>if v6=true then (joinP (α:=List (List UInt8)) (fun J7=>if (decide (0<=v2.2.1))=true then ((0:Int)<=v2.2.1/\(0:Int)<=v2.2.2/\(v2.2.1.toNat<=v2.2.2.toNat/\v2.2.2.toNat<=a0_s.length)/\(v2.1.length+z1.length<=4611686018427387904/\(v2.1.length+z1.length)*16<=140737488355328)/\J7 (v2.1++z1)) else (J7 v2.1)) (fun v8=>J3 (v8,(-1)))) else (joinP (α:=Bool) (fun J9=>z2/\if (decide ((((a0_s.getD v2.2.2.toNat 0).toNat:Nat):Int)<=(((32:UInt8).toNat:Nat):Int)))=true then (J9 true) else (z2/\J9 (decide ((((126:UInt8).toNat:Nat):Int) < (((a0_s.getD v2.2.2.toNat 0).toNat:Nat):Int))))) (fun v10=>if v10=true then (KK ([],false)) else (if (decide (v2.2.1 < 0))=true then (J3 (v2.1,v2.2.2)) else (J3 (v2.1,v2.2.1))))))) (fun v4=>R1 (v4.1,v4.2,(IntKind.i64.wrap (v2.2.2+1))))) else (KK (v2.1,true)))) ([],(-1),0)
def F_lSplit (a0_s:List UInt8) (KK:(List Lt.Line×Int×Int)->Prop):Prop:=
 (a0_s.length<=4611686018427387904->if (decide (4194304 < (a0_s.length:Int)))=true then (KK ([],0,2)) else ((Lt.preSplit a0_s [10])/\((Lt.gSplit a0_s [10]).length<=4611686018427387904->loopP (α:=List Lt.Line×Int) (fun R1 v2=>have z1:=(Lt.gCut ((Lt.gSplit a0_s [10]).getD v2.2.toNat default) [59]).1; have z2:=([(Lt.Line.mk (IntKind.i64.wrap (v2.2+1)) ((Lt.lWords z1).1))]:List Lt.Line); if (decide (v2.2 < ((Lt.gSplit a0_s [10]).length:Int)))=true then (joinP (α:=List Lt.Line) (fun J3=>((0:Int)<=v2.2/\v2.2.toNat < (Lt.gSplit a0_s [10]).length)/\(Lt.preCut ((Lt.gSplit a0_s [10]).getD v2.2.toNat default) [59])/\(Lt.preLWords z1)/\if (!((Lt.lWords z1).2))=true then (KK ([],(IntKind.i64.wrap (v2.2+1)),3)) else ((((Lt.lWords z1).1).length<=4611686018427387904->if (decide (0 < (((Lt.lWords z1).1).length:Int)))=true then ((v2.1.length+z2.length<=4611686018427387904/\(v2.1.length+z2.length)*32<=140737488355328)/\J3 (v2.1++z2)) else (J3 v2.1)))) (fun v4=>R1 (v4,(IntKind.i64.wrap (v2.2+1))))) else (KK (v2.1,0,0))) ([],0))))
def F_yHas (a0_l:List Int) (a1_n:Int) (KK:Bool->Prop):Prop:=
 (a0_l.length<=4611686018427387904->loopP (α:=Int) (fun R1 v2=>if (decide (v2 < (a0_l.length:Int)))=true then (((0:Int)<=v2/\v2.toNat<a0_l.length)/\if (decide ((a0_l.getD v2.toNat default)=a1_n))=true then (KK true) else (R1 (IntKind.i64.wrap (v2+1)))) else (KK false)) 0)
def F_yName (a0_w:List UInt8) (KK:(List UInt8)->Prop) (KP:Value->Prop):Prop:=
 if (!(Lt.Name a0_w))=true then (KP (Lt.flt 3)) else (KK a0_w)
def F_yKind (a0_w:List UInt8) (KK:(List UInt8)->Prop) (KP:Value->Prop):Prop:=
 joinP (α:=Unit) (fun J1=>if (decide (a0_w=[105,110,116]))=true then (if (!true)=true then (KP (Lt.flt 3)) else (J1 ())) else (if (decide (a0_w=[102,108,111,97,116]))=true then (if (!true)=true then (KP (Lt.flt 3)) else (J1 ())) else (if (!(Lt.Name a0_w))=true then (KP (Lt.flt 3)) else (J1 ())))) (fun v2=>KK a0_w)
def F_yNumber (a0_w:List UInt8) (a1_least:Int) (a2_most:Int) (KK:Int->Prop) (KP:Value->Prop):Prop:=
 joinP (α:=Unit) (fun J1=>if ((Lt.numGet a0_w).2)=true then (if (decide (a1_least<=(Lt.numGet a0_w).1))=true then (if (!(decide ((Lt.numGet a0_w).1<=a2_most)))=true then (KP (Lt.flt 3)) else (J1 ())) else (if (!false)=true then (KP (Lt.flt 3)) else (J1 ()))) else (if (!false)=true then (KP (Lt.flt 3)) else (J1 ()))) (fun v2=>KK ((Lt.numGet a0_w).1))
def F_yArg (a0_w:List UInt8) (a1_objs:Bool) (KK:Lt.Arg->Prop) (KP:Value->Prop):Prop:=
 joinP (α:=Unit) (fun J1=>if ((Lt.wordGet a0_w).2)=true then (if a1_objs=true then (if (!true)=true then (KP (Lt.flt 3)) else (J1 ())) else (if (!(!decide (((Lt.wordGet a0_w).1).Kind=5)))=true then (KP (Lt.flt 3)) else (J1 ()))) else (if (!false)=true then (KP (Lt.flt 3)) else (J1 ()))) (fun v2=>KK ((Lt.wordGet a0_w).1))
def F_yArgs (a0_l:List (List UInt8)) (a1_objs:Bool) (KK:(List Lt.Arg)->Prop) (KP:Value->Prop):Prop:=
 (a0_l.length<=4611686018427387904->loopP (α:=List Lt.Arg×Int) (fun R1 v2=>if (decide (v2.2 < (a0_l.length:Int)))=true then (((0:Int)<=v2.2/\v2.2.toNat<a0_l.length)/\True/\exQ (Lt.yArg (a0_l.getD v2.2.toNat default) a1_objs) (fun z3=>(v2.1.length+([z3]:List Lt.Arg).length<=4611686018427387904/\(v2.1.length+([z3]:List Lt.Arg).length)*32<=140737488355328)/\R1 ((v2.1++([z3]:List Lt.Arg)),(IntKind.i64.wrap (v2.2+1)))) (fun v=>KP v)) else (KK v2.1)) ([],0))
def F_yOp (a0_w:List UInt8) (KK:(Int×Bool)->Prop):Prop:=
 loopP (α:=Int) (fun R1 v2=>if (decide (v2<=34))=true then (if (decide (((Lt.Of v2).1).Word=a0_w))=true then (KK (v2,true)) else (R1 (IntKind.i64.wrap (v2+1)))) else (KK (0,false))) 1
def F_ySsa (a0_r:Lt.Reader) (a1_l:List (List UInt8)) (KK:((Unit)×Lt.Reader)->Prop) (KP:Value->Lt.Reader->Prop):Prop:=
 joinP (α:=Unit) (fun J1=>if a0_r.first=true then (if (!(decide ((a1_l.length:Int)=1)))=true then (KP (Lt.flt 3) a0_r) else (J1 ())) else (if (!false)=true then (KP (Lt.flt 3) a0_r) else (J1 ()))) (fun v2=>KK ((),(Lt.Reader.mk (Lt.Program.mk true a0_r.p.Classes a0_r.p.Globals a0_r.p.Externs a0_r.p.Funcs) a0_r.at_ a0_r.where_ a0_r.first a0_r.long)))
def F_yClass (a0_r:Lt.Reader) (a1_l:List (List UInt8)) (KK:((Unit)×Lt.Reader)->Prop) (KP:Value->Lt.Reader->Prop):Prop:=
 if (!(Lt.yHas [0,1] a0_r.where_))=true then (KP (Lt.flt 3) a0_r) else ((a1_l.length<=4611686018427387904->if (!(decide ((a1_l.length:Int)=2)))=true then (KP (Lt.flt 3) a0_r) else (((0:Int)<=1/\1<a1_l.length)/\True/\exQ (Lt.yName (a1_l.getD 1 default)) (fun z1=>(a0_r.p.Classes.length<=4611686018427387904->if (decide (8<=(a0_r.p.Classes.length:Int)))=true then (KP (Lt.flt 2) a0_r) else (joinP (α:=Lt.Reader) (fun J2=>((a0_r.p.Classes.length+([(Lt.Class.mk z1 [])]:List Lt.Class).length<=4611686018427387904/\(a0_r.p.Classes.length+([(Lt.Class.mk z1 [])]:List Lt.Class).length)*40<=140737488355328)/\J2 (Lt.Reader.mk (Lt.Program.mk a0_r.p.SSA (a0_r.p.Classes++([(Lt.Class.mk z1 [])]:List Lt.Class)) a0_r.p.Globals a0_r.p.Externs a0_r.p.Funcs) a0_r.at_ a0_r.where_ a0_r.first a0_r.long))/\((a0_r.p.Classes.length+([(Lt.Class.mk z1 [])]:List Lt.Class).length<=4611686018427387904/\(a0_r.p.Classes.length+([(Lt.Class.mk z1 [])]:List Lt.Class).length)*40<=140737488355328)/\J2 (Lt.Reader.mk (Lt.Program.mk a0_r.p.SSA (a0_r.p.Classes++([(Lt.Class.mk z1 [])]:List Lt.Class)) a0_r.p.Globals a0_r.p.Externs a0_r.p.Funcs) a0_r.at_ a0_r.where_ a0_r.first a0_r.long))) (fun v3=>KK ((),(Lt.Reader.mk v3.p v3.at_ 1 v3.first v3.long)))))) (fun v=>KP v a0_r))))
def F_yField (a0_r:Lt.Reader) (a1_l:List (List UInt8)) (KK:((Unit)×Lt.Reader)->Prop) (KP:Value->Lt.Reader->Prop):Prop:=
 have z2:=(IntKind.i64.wrap ((a0_r.p.Classes.length:Int) - 1)); have z8:=(a0_r.p.Classes.getD z2.toNat default).Fields; if (!(Lt.yHas [1] a0_r.where_))=true then (KP (Lt.flt 3) a0_r) else ((a1_l.length<=4611686018427387904->if (!(decide ((a1_l.length:Int)=3)))=true then (KP (Lt.flt 3) a0_r) else (joinP (α:=Lt.Var) (fun J1=>((0:Int)<=1/\1<a1_l.length)/\((0:Int)<=2/\2<a1_l.length)/\(True/\exQ (Lt.yName (a1_l.getD 1 default)) (fun z5=>(True/\exQ (Lt.yKind (a1_l.getD 2 default)) (fun z7=>J1 (Lt.Var.mk z5 z7)) (fun v=>KP v a0_r))/\(True/\exQ (Lt.yKind (a1_l.getD 2 default)) (fun z6=>J1 (Lt.Var.mk z5 z6)) (fun v=>KP v a0_r))) (fun v=>KP v a0_r))/\(True/\exQ (Lt.yName (a1_l.getD 1 default)) (fun z3=>True/\exQ (Lt.yKind (a1_l.getD 2 default)) (fun z4=>J1 (Lt.Var.mk z3 z4)) (fun v=>KP v a0_r)) (fun v=>KP v a0_r))) (fun v2=>have z1:=((z8.length+([v2]:List Lt.Var).length<=4611686018427387904/\(z8.length+([v2]:List Lt.Var).length)*32<=140737488355328)/\z2.toNat<a0_r.p.Classes.length/\z2.toNat=z2.toNat/\KK ((),(Lt.Reader.mk (Lt.Program.mk a0_r.p.SSA (a0_r.p.Classes.set z2.toNat (Lt.Class.mk ((a0_r.p.Classes.getD z2.toNat default).Name) (z8++([v2]:List Lt.Var)))) a0_r.p.Globals a0_r.p.Externs a0_r.p.Funcs) a0_r.at_ a0_r.where_ a0_r.first a0_r.long))); (a0_r.p.Classes.length<=4611686018427387904->((0:Int)<=z2/\z2 < ((a0_r.p.Classes.length:Nat):Int))/\(z8.length<=4611686018427387904->if (decide (8<=(z8.length:Int)))=true then (KP (Lt.flt 2) a0_r) else (z1/\z1)))))))
def F_yGlobal (a0_r:Lt.Reader) (a1_l:List (List UInt8)) (KK:((Unit)×Lt.Reader)->Prop) (KP:Value->Lt.Reader->Prop):Prop:=
 if (!(Lt.yHas [0,1] a0_r.where_))=true then (KP (Lt.flt 3) a0_r) else ((a1_l.length<=4611686018427387904->if (!(decide ((a1_l.length:Int)=3)))=true then (KP (Lt.flt 3) a0_r) else (joinP (α:=Lt.Var) (fun J1=>((0:Int)<=1/\1<a1_l.length)/\((0:Int)<=2/\2<a1_l.length)/\(True/\exQ (Lt.yName (a1_l.getD 1 default)) (fun z5=>(True/\exQ (Lt.yKind (a1_l.getD 2 default)) (fun z7=>J1 (Lt.Var.mk z5 z7)) (fun v=>KP v a0_r))/\(True/\exQ (Lt.yKind (a1_l.getD 2 default)) (fun z6=>J1 (Lt.Var.mk z5 z6)) (fun v=>KP v a0_r))) (fun v=>KP v a0_r))/\(True/\exQ (Lt.yName (a1_l.getD 1 default)) (fun z3=>True/\exQ (Lt.yKind (a1_l.getD 2 default)) (fun z4=>J1 (Lt.Var.mk z3 z4)) (fun v=>KP v a0_r)) (fun v=>KP v a0_r))) (fun v2=>(a0_r.p.Globals.length<=4611686018427387904->if (decide (8<=(a0_r.p.Globals.length:Int)))=true then (KP (Lt.flt 2) a0_r) else (joinP (α:=Lt.Reader) (fun J8=>have z1:=((a0_r.p.Globals.length+([v2]:List Lt.Var).length<=4611686018427387904/\(a0_r.p.Globals.length+([v2]:List Lt.Var).length)*32<=140737488355328)/\J8 (Lt.Reader.mk (Lt.Program.mk a0_r.p.SSA a0_r.p.Classes (a0_r.p.Globals++([v2]:List Lt.Var)) a0_r.p.Externs a0_r.p.Funcs) a0_r.at_ a0_r.where_ a0_r.first a0_r.long)); z1/\z1) (fun v9=>KK ((),(Lt.Reader.mk v9.p v9.at_ 0 v9.first v9.long)))))))))
def F_yExtern (a0_r:Lt.Reader) (a1_l:List (List UInt8)) (KK:((Unit)×Lt.Reader)->Prop) (KP:Value->Lt.Reader->Prop):Prop:=
 have z2:=Lt.yNumber (a1_l.getD 2 default) 0 8; if (!(Lt.yHas [0,1] a0_r.where_))=true then (KP (Lt.flt 3) a0_r) else ((a1_l.length<=4611686018427387904->if (!(decide ((a1_l.length:Int)=3)))=true then (KP (Lt.flt 3) a0_r) else (joinP (α:=Lt.Extern) (fun J1=>((0:Int)<=1/\1<a1_l.length)/\((0:Int)<=2/\2<a1_l.length)/\(True/\exQ (Lt.yName (a1_l.getD 1 default)) (fun z5=>(True/\exQ z2 (fun z7=>J1 (Lt.Extern.mk z5 z7)) (fun v=>KP v a0_r))/\(True/\exQ z2 (fun z6=>J1 (Lt.Extern.mk z5 z6)) (fun v=>KP v a0_r))) (fun v=>KP v a0_r))/\(True/\exQ (Lt.yName (a1_l.getD 1 default)) (fun z3=>True/\exQ z2 (fun z4=>J1 (Lt.Extern.mk z3 z4)) (fun v=>KP v a0_r)) (fun v=>KP v a0_r))) (fun v2=>(a0_r.p.Externs.length<=4611686018427387904->if (decide (8<=(a0_r.p.Externs.length:Int)))=true then (KP (Lt.flt 2) a0_r) else (joinP (α:=Lt.Reader) (fun J8=>have z1:=((a0_r.p.Externs.length+([v2]:List Lt.Extern).length<=4611686018427387904/\(a0_r.p.Externs.length+([v2]:List Lt.Extern).length)*24<=140737488355328)/\J8 (Lt.Reader.mk (Lt.Program.mk a0_r.p.SSA a0_r.p.Classes a0_r.p.Globals (a0_r.p.Externs++([v2]:List Lt.Extern)) a0_r.p.Funcs) a0_r.at_ a0_r.where_ a0_r.first a0_r.long)); z1/\z1) (fun v9=>KK ((),(Lt.Reader.mk v9.p v9.at_ 0 v9.first v9.long)))))))))
def F_yFunction (a0_r:Lt.Reader) (a1_l:List (List UInt8)) (KK:((Unit)×Lt.Reader)->Prop) (KP:Value->Lt.Reader->Prop):Prop:=
 if (!(Lt.yHas [0,1] a0_r.where_))=true then (KP (Lt.flt 3) a0_r) else ((a1_l.length<=4611686018427387904->if (!(decide ((a1_l.length:Int)=3)))=true then (KP (Lt.flt 3) a0_r) else (joinP (α:=Lt.Func) (fun J1=>((0:Int)<=1/\1<a1_l.length)/\((0:Int)<=2/\2<a1_l.length)/\(True/\exQ (Lt.yName (a1_l.getD 1 default)) (fun z5=>(True/\exQ (Lt.yKind (a1_l.getD 2 default)) (fun z7=>J1 (Lt.Func.mk z5 z7 [] [] [])) (fun v=>KP v a0_r))/\(True/\exQ (Lt.yKind (a1_l.getD 2 default)) (fun z6=>J1 (Lt.Func.mk z5 z6 [] [] [])) (fun v=>KP v a0_r))) (fun v=>KP v a0_r))/\(True/\exQ (Lt.yName (a1_l.getD 1 default)) (fun z3=>True/\exQ (Lt.yKind (a1_l.getD 2 default)) (fun z4=>J1 (Lt.Func.mk z3 z4 [] [] [])) (fun v=>KP v a0_r)) (fun v=>KP v a0_r))) (fun v2=>have z2:=([(Lt.Func.mk v2.Name v2.Result [] [] [])]:List Lt.Func); (a0_r.p.Funcs.length<=4611686018427387904->if (decide (8<=(a0_r.p.Funcs.length:Int)))=true then (KP (Lt.flt 2) a0_r) else (joinP (α:=Lt.Reader) (fun J8=>have z1:=((a0_r.p.Funcs.length+z2.length<=4611686018427387904/\(a0_r.p.Funcs.length+z2.length)*104<=140737488355328)/\J8 (Lt.Reader.mk (Lt.Program.mk a0_r.p.SSA a0_r.p.Classes a0_r.p.Globals a0_r.p.Externs (a0_r.p.Funcs++z2)) a0_r.at_ a0_r.where_ a0_r.first a0_r.long)); z1/\z1) (fun v9=>KK ((),(Lt.Reader.mk v9.p v9.at_ 2 v9.first 0)))))))))
def F_yParam (a0_r:Lt.Reader) (a1_l:List (List UInt8)) (KK:((Unit)×Lt.Reader)->Prop) (KP:Value->Lt.Reader->Prop):Prop:=
 have z2:=(IntKind.i64.wrap ((a0_r.p.Funcs.length:Int) - 1)); have z8:=a0_r.p.Funcs.getD z2.toNat default; if (!(Lt.yHas [2] a0_r.where_))=true then (KP (Lt.flt 3) a0_r) else ((a1_l.length<=4611686018427387904->if (!(decide ((a1_l.length:Int)=3)))=true then (KP (Lt.flt 3) a0_r) else (joinP (α:=Lt.Var) (fun J1=>((0:Int)<=1/\1<a1_l.length)/\((0:Int)<=2/\2<a1_l.length)/\(True/\exQ (Lt.yName (a1_l.getD 1 default)) (fun z5=>(True/\exQ (Lt.yKind (a1_l.getD 2 default)) (fun z7=>J1 (Lt.Var.mk z5 z7)) (fun v=>KP v a0_r))/\(True/\exQ (Lt.yKind (a1_l.getD 2 default)) (fun z6=>J1 (Lt.Var.mk z5 z6)) (fun v=>KP v a0_r))) (fun v=>KP v a0_r))/\(True/\exQ (Lt.yName (a1_l.getD 1 default)) (fun z3=>True/\exQ (Lt.yKind (a1_l.getD 2 default)) (fun z4=>J1 (Lt.Var.mk z3 z4)) (fun v=>KP v a0_r)) (fun v=>KP v a0_r))) (fun v2=>have z1:=(((z8.Params).length+([v2]:List Lt.Var).length<=4611686018427387904/\((z8.Params).length+([v2]:List Lt.Var).length)*32<=140737488355328)/\z2.toNat<a0_r.p.Funcs.length/\z2.toNat=z2.toNat/\KK ((),(Lt.Reader.mk (Lt.Program.mk a0_r.p.SSA a0_r.p.Classes a0_r.p.Globals a0_r.p.Externs (a0_r.p.Funcs.set z2.toNat (Lt.Func.mk (z8.Name) (z8.Result) ((z8.Params)++([v2]:List Lt.Var)) (z8.Vars) (z8.Blocks)))) a0_r.at_ a0_r.where_ a0_r.first a0_r.long))); (a0_r.p.Funcs.length<=4611686018427387904->((0:Int)<=z2/\z2 < ((a0_r.p.Funcs.length:Nat):Int))/\((z8.Params).length<=4611686018427387904->if (decide (6<=((z8.Params).length:Int)))=true then (KP (Lt.flt 2) a0_r) else (z1/\z1)))))))
def F_yVariable (a0_r:Lt.Reader) (a1_l:List (List UInt8)) (KK:((Unit)×Lt.Reader)->Prop) (KP:Value->Lt.Reader->Prop):Prop:=
 have z2:=(IntKind.i64.wrap ((a0_r.p.Funcs.length:Int) - 1)); have z8:=a0_r.p.Funcs.getD z2.toNat default; if (!(Lt.yHas [2,3] a0_r.where_))=true then (KP (Lt.flt 3) a0_r) else ((a1_l.length<=4611686018427387904->if (!(decide ((a1_l.length:Int)=3)))=true then (KP (Lt.flt 3) a0_r) else (joinP (α:=Lt.Var) (fun J1=>((0:Int)<=1/\1<a1_l.length)/\((0:Int)<=2/\2<a1_l.length)/\(True/\exQ (Lt.yName (a1_l.getD 1 default)) (fun z5=>(True/\exQ (Lt.yKind (a1_l.getD 2 default)) (fun z7=>J1 (Lt.Var.mk z5 z7)) (fun v=>KP v a0_r))/\(True/\exQ (Lt.yKind (a1_l.getD 2 default)) (fun z6=>J1 (Lt.Var.mk z5 z6)) (fun v=>KP v a0_r))) (fun v=>KP v a0_r))/\(True/\exQ (Lt.yName (a1_l.getD 1 default)) (fun z3=>True/\exQ (Lt.yKind (a1_l.getD 2 default)) (fun z4=>J1 (Lt.Var.mk z3 z4)) (fun v=>KP v a0_r)) (fun v=>KP v a0_r))) (fun v2=>(a0_r.p.Funcs.length<=4611686018427387904->((0:Int)<=z2/\z2 < ((a0_r.p.Funcs.length:Nat):Int))/\((z8.Vars).length<=4611686018427387904->if (decide (1024<=((z8.Vars).length:Int)))=true then (KP (Lt.flt 2) a0_r) else (joinP (α:=Lt.Reader) (fun J8=>have z1:=(((z8.Vars).length+([v2]:List Lt.Var).length<=4611686018427387904/\((z8.Vars).length+([v2]:List Lt.Var).length)*32<=140737488355328)/\z2.toNat<a0_r.p.Funcs.length/\z2.toNat=z2.toNat/\J8 (Lt.Reader.mk (Lt.Program.mk a0_r.p.SSA a0_r.p.Classes a0_r.p.Globals a0_r.p.Externs (a0_r.p.Funcs.set z2.toNat (Lt.Func.mk (z8.Name) (z8.Result) (z8.Params) ((z8.Vars)++([v2]:List Lt.Var)) (z8.Blocks)))) a0_r.at_ a0_r.where_ a0_r.first a0_r.long)); z1/\z1) (fun v9=>KK ((),(Lt.Reader.mk v9.p v9.at_ 3 v9.first v9.long))))))))))
def F_yStart (a0_r:Lt.Reader) (a1_l:List (List UInt8)) (KK:((Unit)×Lt.Reader)->Prop) (KP:Value->Lt.Reader->Prop):Prop:=
 have z2:=(IntKind.i64.wrap ((a0_r.p.Funcs.length:Int) - 1)); have z4:=a0_r.p.Funcs.getD z2.toNat default; joinP (α:=Unit) (fun J1=>if (decide (a0_r.where_=2))=true then (if (!true)=true then (KP (Lt.flt 3) a0_r) else (J1 ())) else (if (decide (a0_r.where_=3))=true then (if (!true)=true then (KP (Lt.flt 3) a0_r) else (J1 ())) else (if (decide (a0_r.where_=0))=true then (if (decide (0<=a0_r.long))=true then (if (!(decide (0 < (a0_r.p.Funcs.length:Int))))=true then (KP (Lt.flt 3) a0_r) else (J1 ())) else (if (!false)=true then (KP (Lt.flt 3) a0_r) else (J1 ()))) else (if (!false)=true then (KP (Lt.flt 3) a0_r) else (J1 ()))))) (fun v2=>(a1_l.length<=4611686018427387904->if (!(decide ((a1_l.length:Int)=2)))=true then (KP (Lt.flt 3) a0_r) else (((0:Int)<=1/\1<a1_l.length)/\True/\exQ (Lt.yName (a1_l.getD 1 default)) (fun z3=>have z5:=([(Lt.Block.mk z3 [] [] (Lt.Term.mk 0 (Lt.Arg.mk 0 ([]:List UInt8) 0) [] 0))]:List Lt.Block); (a0_r.p.Funcs.length<=4611686018427387904->((0:Int)<=z2/\z2 < ((a0_r.p.Funcs.length:Nat):Int))/\((z4.Blocks).length<=4611686018427387904->if (decide (256<=((z4.Blocks).length:Int)))=true then (KP (Lt.flt 2) a0_r) else (joinP (α:=Lt.Reader) (fun J4=>have z1:=(((z4.Blocks).length+z5.length<=4611686018427387904/\((z4.Blocks).length+z5.length)*136<=140737488355328)/\z2.toNat<a0_r.p.Funcs.length/\z2.toNat=z2.toNat/\J4 (Lt.Reader.mk (Lt.Program.mk a0_r.p.SSA a0_r.p.Classes a0_r.p.Globals a0_r.p.Externs (a0_r.p.Funcs.set z2.toNat (Lt.Func.mk (z4.Name) (z4.Result) (z4.Params) (z4.Vars) ((z4.Blocks)++z5)))) a0_r.at_ a0_r.where_ a0_r.first a0_r.long)); z1/\z1) (fun v5=>KK ((),(Lt.Reader.mk v5.p v5.at_ 4 v5.first v5.long))))))) (fun v=>KP v a0_r))))
def F_yPhi (a0_r:Lt.Reader) (a1_l:List (List UInt8)) (KK:((Unit)×Lt.Reader)->Prop) (KP:Value->Lt.Reader->Prop):Prop:=
 have z5:=(IntKind.i64.wrap ((a0_r.p.Funcs.length:Int) - 1)); have z1:=(a0_r.p.Funcs.getD z5.toNat default); have z4:=(IntKind.i64.wrap (((z1.Blocks).length:Int) - 1)); have z6:=(z1.Blocks).getD z4.toNat default; if (!(Lt.yHas [4] a0_r.where_))=true then (KP (Lt.flt 3) a0_r) else (joinP (α:=Unit) (fun J1=>(a1_l.length<=4611686018427387904->if (decide (4<=(a1_l.length:Int)))=true then ((2:Int)≠0/\if (!(decide ((Int.tmod (a1_l.length:Int) 2)=0)))=true then (KP (Lt.flt 3) a0_r) else (J1 ())) else (if (!false)=true then (KP (Lt.flt 3) a0_r) else (J1 ())))) (fun v2=>((0:Int)<=1/\1<a1_l.length)/\True/\exQ (Lt.yName (a1_l.getD 1 default)) (fun z3=>loopP (α:=Int×Lt.Phi) (fun R4 v5=>have z13:=Lt.yArg (a1_l.getD (IntKind.i64.wrap (v5.1+1)).toNat default) false; have z2:=(((z6.Phis).length+([v5.2]:List Lt.Phi).length<=4611686018427387904/\((z6.Phis).length+([v5.2]:List Lt.Phi).length)*40<=140737488355328)/\z5.toNat<a0_r.p.Funcs.length/\z4.toNat < (z1.Blocks).length/\z5.toNat=z5.toNat/\z4.toNat=z4.toNat/\KK ((),(Lt.Reader.mk (Lt.Program.mk a0_r.p.SSA a0_r.p.Classes a0_r.p.Globals a0_r.p.Externs (a0_r.p.Funcs.set z5.toNat (Lt.Func.mk (z1.Name) (z1.Result) (z1.Params) (z1.Vars) ((z1.Blocks).set z4.toNat (Lt.Block.mk (z6.Name) ((z6.Phis)++([v5.2]:List Lt.Phi)) (z6.Code) (Lt.Term.mk ((z6.End).Kind) ((z6.End).A) ((z6.End).To) ((z6.End).N))))))) a0_r.at_ a0_r.where_ a0_r.first (IntKind.i64.wrap (a0_r.long+1))))); (a1_l.length<=4611686018427387904->if (decide (v5.1 < (a1_l.length:Int)))=true then (joinP (α:=Lt.Phi) (fun J6=>((0:Int)<=v5.1/\v5.1.toNat<a1_l.length)/\((0:Int)<=(IntKind.i64.wrap (v5.1+1))/\(IntKind.i64.wrap (v5.1+1)).toNat<a1_l.length)/\(True/\exQ (Lt.yName (a1_l.getD v5.1.toNat default)) (fun z11=>True/\exQ z13 (fun z12=>have z14:=([(Lt.In.mk z11 z12)]:List Lt.In); (v5.2.Ins.length+z14.length<=4611686018427387904/\(v5.2.Ins.length+z14.length)*48<=140737488355328)/\J6 (Lt.Phi.mk v5.2.Dst (v5.2.Ins++z14))) (fun v=>KP v a0_r)) (fun v=>KP v a0_r))/\(True/\exQ (Lt.yName (a1_l.getD v5.1.toNat default)) (fun z8=>(True/\exQ z13 (fun z10=>have z15:=([(Lt.In.mk z8 z10)]:List Lt.In); (v5.2.Ins.length+z15.length<=4611686018427387904/\(v5.2.Ins.length+z15.length)*48<=140737488355328)/\J6 (Lt.Phi.mk v5.2.Dst (v5.2.Ins++z15))) (fun v=>KP v a0_r))/\(True/\exQ z13 (fun z9=>have z16:=([(Lt.In.mk z8 z9)]:List Lt.In); have z7:=((v5.2.Ins.length+z16.length<=4611686018427387904/\(v5.2.Ins.length+z16.length)*48<=140737488355328)/\J6 (Lt.Phi.mk v5.2.Dst (v5.2.Ins++z16))); z7/\z7) (fun v=>KP v a0_r))) (fun v=>KP v a0_r))) (fun v7=>R4 ((IntKind.i64.wrap (v5.1+2)),v7))) else ((v5.2.Ins.length<=4611686018427387904->if (decide (256<=(IntKind.i64.wrap ((v5.2.Ins.length:Int) - 1))))=true then (KP (Lt.flt 2) a0_r) else (if (decide (1024<=a0_r.long))=true then (KP (Lt.flt 2) a0_r) else ((a0_r.p.Funcs.length<=4611686018427387904->((0:Int)<=z5/\z5 < ((a0_r.p.Funcs.length:Nat):Int))/\((z1.Blocks).length<=4611686018427387904->((0:Int)<=z4/\z4 < (((z1.Blocks).length:Nat):Int))/\z2/\z2)))))))) (2,(Lt.Phi.mk z3 []))) (fun v=>KP v a0_r)))
def F_yCode (a0_r:Lt.Reader) (a1_l:List (List UInt8)) (KK:((Unit)×Lt.Reader)->Prop) (KP:Value->Lt.Reader->Prop):Prop:=
 have z6:=(IntKind.i64.wrap ((a0_r.p.Funcs.length:Int) - 1)); have z1:=(a0_r.p.Funcs.getD z6.toNat default); have z4:=(IntKind.i64.wrap (((z1.Blocks).length:Int) - 1)); have z8:=(z1.Blocks).getD z4.toNat default; if (!(Lt.yHas [4,5,6,7] a0_r.where_))=true then (KP (Lt.flt 3) a0_r) else (joinP (α:=List (List UInt8)×Lt.Instr) (fun J1=>joinP (α:=Bool) (fun J3=>(a1_l.length<=4611686018427387904->if (decide (2 < (a1_l.length:Int)))=true then (((0:Int)<=1/\1<a1_l.length)/\J3 (decide ((a1_l.getD 1 default)=[61]))) else (J3 false))) (fun v4=>if v4=true then (((0:Int)<=0/\0<a1_l.length)/\True/\exQ (Lt.yName (a1_l.getD 0 default)) (fun z5=>(0:Int)<=2/\(2<=a1_l.length/\a1_l.length<=a1_l.length)/\J1 (((a1_l.drop 2).take (a1_l.length - 2)),(Lt.Instr.mk 0 z5 ([]:List UInt8) [] [] []))) (fun v=>KP v a0_r)) else (J1 (a1_l,(Lt.Instr.mk 0 ([]:List UInt8) ([]:List UInt8) [] [] []))))) (fun v2=>have z7:=Lt.yOp (v2.1.getD 0 default); have z3:=(v2.1.drop 1).take (v2.1.length - 1); have z11:=(z3.drop 0).take (1 - 0); ((0:Int)<=0/\0<v2.1.length)/\if (!(z7.2))=true then (KP (Lt.flt 3) a0_r) else (if (!(((Lt.Of (z7.1)).1).Dst==(!decide (v2.2.Dst=([]:List UInt8)))))=true then (KP (Lt.flt 3) a0_r) else ((0:Int)<=1/\(1<=v2.1.length/\v2.1.length<=v2.1.length)/\joinP (α:=Lt.Instr) (fun J6=>joinP (α:=Bool) (fun J8=>if (decide (z7.1=26))=true then (J8 true) else (J8 (decide (z7.1=27)))) (fun v9=>if v9=true then ((z3.length<=4611686018427387904->if (!(decide (2<=(z3.length:Int))))=true then (KP (Lt.flt 3) a0_r) else (((0:Int)<=1/\1<z3.length)/\True/\exQ (Lt.yName (z3.getD 1 default)) (fun z10=>(0:Int)<=1/\(0<=1/\1<=z3.length)/\(0:Int)<=2/\(2<=z3.length/\z3.length<=z3.length)/\(z11.length<=4611686018427387904->loopP (α:=List Lt.Arg×Int) (fun R11 v12=>if (decide (v12.2 < (z11.length:Int)))=true then (((0:Int)<=v12.2/\v12.2.toNat<z11.length)/\True/\exQ (Lt.yArg (z11.getD v12.2.toNat default) false) (fun z13=>(v12.1.length+([z13]:List Lt.Arg).length<=4611686018427387904/\(v12.1.length+([z13]:List Lt.Arg).length)*32<=140737488355328)/\R11 ((v12.1++([z13]:List Lt.Arg)),(IntKind.i64.wrap (v12.2+1)))) (fun v=>KP v a0_r)) else ((Lt.preWords ((z3.drop 2).take (z3.length - 2)) false)/\exQ (Lt.yArgs ((z3.drop 2).take (z3.length - 2)) false) (fun z14=>(v12.1.length+z14.length<=4611686018427387904/\(v12.1.length+z14.length)*32<=140737488355328)/\J6 (Lt.Instr.mk (z7.1) v2.2.Dst z10 (v12.1++z14) [] [])) (fun v=>KP v a0_r))) ([],0))) (fun v=>KP v a0_r)))) else (if (((Lt.Of (z7.1)).1).Named)=true then ((z3.length<=4611686018427387904->if (!(decide (1<=(z3.length:Int))))=true then (KP (Lt.flt 3) a0_r) else (((0:Int)<=0/\0<z3.length)/\True/\exQ (Lt.yName (z3.getD 0 default)) (fun z15=>(0:Int)<=1/\(1<=z3.length/\z3.length<=z3.length)/\(Lt.preWords ((z3.drop 1).take (z3.length - 1)) false)/\exQ (Lt.yArgs ((z3.drop 1).take (z3.length - 1)) false) (fun z16=>J6 (Lt.Instr.mk (z7.1) v2.2.Dst z15 z16 [] [])) (fun v=>KP v a0_r)) (fun v=>KP v a0_r)))) else ((Lt.preWords z3 false)/\exQ (Lt.yArgs z3 false) (fun z17=>J6 (Lt.Instr.mk (z7.1) v2.2.Dst v2.2.Name z17 [] [])) (fun v=>KP v a0_r))))) (fun v7=>have z9:=([(Lt.Instr.mk v7.Op v7.Dst v7.Name v7.Args [] [])]:List Lt.Instr); joinP (α:=Unit) (fun J18=>(v7.Args.length<=4611686018427387904->if (decide (((Lt.Of (z7.1)).1).Least<=(v7.Args.length:Int)))=true then (if (!(decide ((v7.Args.length:Int)<=((Lt.Of (z7.1)).1).Most)))=true then (KP (Lt.flt 3) a0_r) else (J18 ())) else (if (!false)=true then (KP (Lt.flt 3) a0_r) else (J18 ())))) (fun v19=>if (decide (1024<=a0_r.long))=true then (KP (Lt.flt 2) a0_r) else ((a0_r.p.Funcs.length<=4611686018427387904->((0:Int)<=z6/\z6 < ((a0_r.p.Funcs.length:Nat):Int))/\((z1.Blocks).length<=4611686018427387904->((0:Int)<=z4/\z4 < (((z1.Blocks).length:Nat):Int))/\joinP (α:=Lt.Reader) (fun J20=>have z2:=(((z8.Code).length+z9.length<=4611686018427387904/\((z8.Code).length+z9.length)*112<=140737488355328)/\z6.toNat<a0_r.p.Funcs.length/\z4.toNat < (z1.Blocks).length/\z6.toNat=z6.toNat/\z4.toNat=z4.toNat/\J20 (Lt.Reader.mk (Lt.Program.mk a0_r.p.SSA a0_r.p.Classes a0_r.p.Globals a0_r.p.Externs (a0_r.p.Funcs.set z6.toNat (Lt.Func.mk (z1.Name) (z1.Result) (z1.Params) (z1.Vars) ((z1.Blocks).set z4.toNat (Lt.Block.mk (z8.Name) (z8.Phis) ((z8.Code)++z9) (Lt.Term.mk ((z8.End).Kind) ((z8.End).A) ((z8.End).To) ((z8.End).N))))))) a0_r.at_ a0_r.where_ a0_r.first (IntKind.i64.wrap (a0_r.long+1)))); z2/\z2) (fun v21=>joinP (α:=Bool) (fun J22=>if (decide (z7.1=31))=true then (J22 true) else (J22 (decide (z7.1=34)))) (fun v23=>if v23=true then (KK ((),(Lt.Reader.mk v21.p v21.at_ 6 v21.first v21.long))) else (KK ((),(Lt.Reader.mk v21.p v21.at_ 5 v21.first v21.long))))))))))))))
def F_yFrame (a0_r:Lt.Reader) (a1_l:List (List UInt8)) (KK:((Unit)×Lt.Reader)->Prop) (KP:Value->Lt.Reader->Prop):Prop:=
 have z24:=Lt.yNumber (a1_l.getD 3 default) 0 1024; have z15:=(IntKind.i64.wrap ((a0_r.p.Funcs.length:Int) - 1)); have z3:=(a0_r.p.Funcs.getD z15.toNat default); have z16:=(IntKind.i64.wrap (((z3.Blocks).length:Int) - 1)); have z1:=((z3.Blocks).getD z16.toNat default); have z17:=(IntKind.i64.wrap (((z1.Code).length:Int) - 1)); have z4:=((z1.Code).getD z17.toNat default); if (!(Lt.yHas [6] a0_r.where_))=true then (KP (Lt.flt 3) a0_r) else (joinP (α:=Unit) (fun J1=>(a1_l.length<=4611686018427387904->if (decide (4<=(a1_l.length:Int)))=true then ((2:Int)≠0/\if (!(decide ((Int.tmod (a1_l.length:Int) 2)=0)))=true then (KP (Lt.flt 3) a0_r) else (J1 ())) else (if (!false)=true then (KP (Lt.flt 3) a0_r) else (J1 ())))) (fun v2=>joinP (α:=Lt.Frame) (fun J3=>((0:Int)<=1/\1<a1_l.length)/\((0:Int)<=2/\2<a1_l.length)/\((0:Int)<=3/\3<a1_l.length)/\(True/\exQ (Lt.yName (a1_l.getD 1 default)) (fun z8=>(True/\exQ (Lt.yName (a1_l.getD 2 default)) (fun z11=>(True/\exQ z24 (fun z13=>J3 (Lt.Frame.mk z8 z11 z13 [])) (fun v=>KP v a0_r))/\(True/\exQ z24 (fun z12=>J3 (Lt.Frame.mk z8 z11 z12 [])) (fun v=>KP v a0_r))) (fun v=>KP v a0_r))/\(True/\exQ (Lt.yName (a1_l.getD 2 default)) (fun z9=>True/\exQ z24 (fun z10=>J3 (Lt.Frame.mk z8 z9 z10 [])) (fun v=>KP v a0_r)) (fun v=>KP v a0_r))) (fun v=>KP v a0_r))/\(True/\exQ (Lt.yName (a1_l.getD 1 default)) (fun z5=>True/\exQ (Lt.yName (a1_l.getD 2 default)) (fun z6=>True/\exQ z24 (fun z7=>J3 (Lt.Frame.mk z5 z6 z7 [])) (fun v=>KP v a0_r)) (fun v=>KP v a0_r)) (fun v=>KP v a0_r))) (fun v4=>loopP (α:=Int×Lt.Frame) (fun R14 v15=>have z23:=Lt.yArg (a1_l.getD (IntKind.i64.wrap (v15.1+1)).toNat default) true; have z2:=(((z4.Frames).length+([v15.2]:List Lt.Frame).length<=4611686018427387904/\((z4.Frames).length+([v15.2]:List Lt.Frame).length)*64<=140737488355328)/\z15.toNat<a0_r.p.Funcs.length/\z16.toNat < (z3.Blocks).length/\z17.toNat < (z1.Code).length/\z15.toNat=z15.toNat/\z16.toNat=z16.toNat/\z17.toNat=z17.toNat/\KK ((),(Lt.Reader.mk (Lt.Program.mk a0_r.p.SSA a0_r.p.Classes a0_r.p.Globals a0_r.p.Externs (a0_r.p.Funcs.set z15.toNat (Lt.Func.mk (z3.Name) (z3.Result) (z3.Params) (z3.Vars) ((z3.Blocks).set z16.toNat (Lt.Block.mk (z1.Name) (z1.Phis) ((z1.Code).set z17.toNat (Lt.Instr.mk (z4.Op) (z4.Dst) (z4.Name) (z4.Args) ((z4.Frames)++([v15.2]:List Lt.Frame)) (z4.Objs))) (Lt.Term.mk ((z1.End).Kind) ((z1.End).A) ((z1.End).To) ((z1.End).N))))))) a0_r.at_ a0_r.where_ a0_r.first a0_r.long))); (a1_l.length<=4611686018427387904->if (decide (v15.1 < (a1_l.length:Int)))=true then (joinP (α:=Lt.Frame) (fun J16=>((0:Int)<=v15.1/\v15.1.toNat<a1_l.length)/\((0:Int)<=(IntKind.i64.wrap (v15.1+1))/\(IntKind.i64.wrap (v15.1+1)).toNat<a1_l.length)/\(True/\exQ (Lt.yName (a1_l.getD v15.1.toNat default)) (fun z21=>True/\exQ z23 (fun z22=>have z25:=([(Lt.Bind.mk z21 z22)]:List Lt.Bind); (v15.2.Vars.length+z25.length<=4611686018427387904/\(v15.2.Vars.length+z25.length)*48<=140737488355328)/\J16 (Lt.Frame.mk v15.2.Func v15.2.Block v15.2.At (v15.2.Vars++z25))) (fun v=>KP v a0_r)) (fun v=>KP v a0_r))/\(True/\exQ (Lt.yName (a1_l.getD v15.1.toNat default)) (fun z18=>(True/\exQ z23 (fun z20=>have z26:=([(Lt.Bind.mk z18 z20)]:List Lt.Bind); (v15.2.Vars.length+z26.length<=4611686018427387904/\(v15.2.Vars.length+z26.length)*48<=140737488355328)/\J16 (Lt.Frame.mk v15.2.Func v15.2.Block v15.2.At (v15.2.Vars++z26))) (fun v=>KP v a0_r))/\(True/\exQ z23 (fun z19=>have z27:=([(Lt.Bind.mk z18 z19)]:List Lt.Bind); have z14:=((v15.2.Vars.length+z27.length<=4611686018427387904/\(v15.2.Vars.length+z27.length)*48<=140737488355328)/\J16 (Lt.Frame.mk v15.2.Func v15.2.Block v15.2.At (v15.2.Vars++z27))); z14/\z14) (fun v=>KP v a0_r))) (fun v=>KP v a0_r))) (fun v17=>R14 ((IntKind.i64.wrap (v15.1+2)),v17))) else ((v15.2.Vars.length<=4611686018427387904->if (decide (16<=(IntKind.i64.wrap ((v15.2.Vars.length:Int) - 1))))=true then (KP (Lt.flt 2) a0_r) else ((a0_r.p.Funcs.length<=4611686018427387904->((0:Int)<=z15/\z15 < ((a0_r.p.Funcs.length:Nat):Int))/\((z3.Blocks).length<=4611686018427387904->((0:Int)<=z16/\z16 < (((z3.Blocks).length:Nat):Int))/\((z1.Code).length<=4611686018427387904->((0:Int)<=z17/\z17 < (((z1.Code).length:Nat):Int))/\((z4.Frames).length<=4611686018427387904->if (decide (16<=((z4.Frames).length:Int)))=true then (KP (Lt.flt 2) a0_r) else (z2/\z2)))))))))) (4,(Lt.Frame.mk v4.Func v4.Block v4.At [])))))
def F_yObject (a0_r:Lt.Reader) (a1_l:List (List UInt8)) (KK:((Unit)×Lt.Reader)->Prop) (KP:Value->Lt.Reader->Prop):Prop:=
 have z13:=(a1_l.drop 2).take (a1_l.length - 2); have z10:=(IntKind.i64.wrap ((a0_r.p.Funcs.length:Int) - 1)); have z3:=(a0_r.p.Funcs.getD z10.toNat default); have z11:=(IntKind.i64.wrap (((z3.Blocks).length:Int) - 1)); have z1:=((z3.Blocks).getD z11.toNat default); have z12:=(IntKind.i64.wrap (((z1.Code).length:Int) - 1)); have z4:=((z1.Code).getD z12.toNat default); if (!(Lt.yHas [6,7] a0_r.where_))=true then (KP (Lt.flt 3) a0_r) else (joinP (α:=Unit) (fun J1=>(a1_l.length<=4611686018427387904->if (decide (2<=(a1_l.length:Int)))=true then (if (!(decide ((a1_l.length:Int)<=10)))=true then (KP (Lt.flt 3) a0_r) else (J1 ())) else (if (!false)=true then (KP (Lt.flt 3) a0_r) else (J1 ())))) (fun v2=>joinP (α:=Lt.Virt) (fun J3=>((0:Int)<=1/\1<a1_l.length)/\(0:Int)<=2/\(2<=a1_l.length/\a1_l.length<=a1_l.length)/\(True/\exQ (Lt.yName (a1_l.getD 1 default)) (fun z7=>((Lt.preWords z13 true)/\exQ (Lt.yArgs z13 true) (fun z9=>J3 (Lt.Virt.mk z7 z9)) (fun v=>KP v a0_r))/\((Lt.preWords z13 true)/\exQ (Lt.yArgs z13 true) (fun z8=>J3 (Lt.Virt.mk z7 z8)) (fun v=>KP v a0_r))) (fun v=>KP v a0_r))/\(True/\exQ (Lt.yName (a1_l.getD 1 default)) (fun z5=>(Lt.preWords z13 true)/\exQ (Lt.yArgs z13 true) (fun z6=>J3 (Lt.Virt.mk z5 z6)) (fun v=>KP v a0_r)) (fun v=>KP v a0_r))) (fun v4=>(a0_r.p.Funcs.length<=4611686018427387904->((0:Int)<=z10/\z10 < ((a0_r.p.Funcs.length:Nat):Int))/\((z3.Blocks).length<=4611686018427387904->((0:Int)<=z11/\z11 < (((z3.Blocks).length:Nat):Int))/\((z1.Code).length<=4611686018427387904->((0:Int)<=z12/\z12 < (((z1.Code).length:Nat):Int))/\((z4.Objs).length<=4611686018427387904->if (decide (99<=((z4.Objs).length:Int)))=true then (KP (Lt.flt 2) a0_r) else (joinP (α:=Lt.Reader) (fun J10=>have z2:=(((z4.Objs).length+([v4]:List Lt.Virt).length<=4611686018427387904/\((z4.Objs).length+([v4]:List Lt.Virt).length)*40<=140737488355328)/\z10.toNat<a0_r.p.Funcs.length/\z11.toNat < (z3.Blocks).length/\z12.toNat < (z1.Code).length/\z10.toNat=z10.toNat/\z11.toNat=z11.toNat/\z12.toNat=z12.toNat/\J10 (Lt.Reader.mk (Lt.Program.mk a0_r.p.SSA a0_r.p.Classes a0_r.p.Globals a0_r.p.Externs (a0_r.p.Funcs.set z10.toNat (Lt.Func.mk (z3.Name) (z3.Result) (z3.Params) (z3.Vars) ((z3.Blocks).set z11.toNat (Lt.Block.mk (z1.Name) (z1.Phis) ((z1.Code).set z12.toNat (Lt.Instr.mk (z4.Op) (z4.Dst) (z4.Name) (z4.Args) (z4.Frames) ((z4.Objs)++([v4]:List Lt.Virt)))) (Lt.Term.mk ((z1.End).Kind) ((z1.End).A) ((z1.End).To) ((z1.End).N))))))) a0_r.at_ a0_r.where_ a0_r.first a0_r.long)); z2/\z2) (fun v11=>KK ((),(Lt.Reader.mk v11.p v11.at_ 7 v11.first v11.long)))))))))))
def F_yEnd (a0_r:Lt.Reader) (a1_l:List (List UInt8)) (KK:((Unit)×Lt.Reader)->Prop) (KP:Value->Lt.Reader->Prop):Prop:=
 have z11:=(!(decide ((a1_l.length:Int)=2))); have z10:=((0:Int)<=1/\1<a1_l.length); have z9:=(IntKind.i64.wrap ((a0_r.p.Funcs.length:Int) - 1)); have z1:=(a0_r.p.Funcs.getD z9.toNat default); have z8:=(IntKind.i64.wrap (((z1.Blocks).length:Int) - 1)); have z12:=(z1.Blocks).getD z8.toNat default; if (!(Lt.yHas [4,5,6,7] a0_r.where_))=true then (KP (Lt.flt 3) a0_r) else (joinP (α:=Lt.Term) (fun J1=>((0:Int)<=0/\0<a1_l.length)/\if (decide ((a1_l.getD 0 default)=[106,117,109,112]))=true then ((a1_l.length<=4611686018427387904->if z11=true then (KP (Lt.flt 3) a0_r) else (z10/\True/\exQ (Lt.yName (a1_l.getD 1 default)) (fun z3=>J1 (Lt.Term.mk 1 (Lt.Arg.mk 0 ([]:List UInt8) 0) [z3] 0)) (fun v=>KP v a0_r)))) else (if (decide ((a1_l.getD 0 default)=[98,114,97,110,99,104]))=true then ((a1_l.length<=4611686018427387904->if (!(decide ((a1_l.length:Int)=4)))=true then (KP (Lt.flt 3) a0_r) else (z10/\((0:Int)<=2/\2<a1_l.length)/\((0:Int)<=3/\3<a1_l.length)/\True/\exQ (Lt.yArg (a1_l.getD 1 default) false) (fun z4=>True/\exQ (Lt.yName (a1_l.getD 2 default)) (fun z5=>True/\exQ (Lt.yName (a1_l.getD 3 default)) (fun z6=>J1 (Lt.Term.mk 2 z4 [z5,z6] 0)) (fun v=>KP v a0_r)) (fun v=>KP v a0_r)) (fun v=>KP v a0_r)))) else (if (decide ((a1_l.getD 0 default)=[114,101,116]))=true then ((a1_l.length<=4611686018427387904->if z11=true then (KP (Lt.flt 3) a0_r) else (z10/\True/\exQ (Lt.yArg (a1_l.getD 1 default) false) (fun z7=>J1 (Lt.Term.mk 3 z7 [] 0)) (fun v=>KP v a0_r)))) else ((a1_l.length<=4611686018427387904->if z11=true then (KP (Lt.flt 3) a0_r) else (z10/\if (!((Lt.numGet (a1_l.getD 1 default)).2))=true then (KP (Lt.flt 3) a0_r) else (J1 (Lt.Term.mk 4 (Lt.Arg.mk 0 ([]:List UInt8) 0) [] ((Lt.numGet (a1_l.getD 1 default)).1))))))))) (fun v2=>joinP (α:=Lt.Reader) (fun J8=>have z2:=((a0_r.p.Funcs.length<=4611686018427387904->((0:Int)<=z9/\z9 < ((a0_r.p.Funcs.length:Nat):Int))/\((z1.Blocks).length<=4611686018427387904->((0:Int)<=z8/\z8 < (((z1.Blocks).length:Nat):Int))/\z9.toNat<a0_r.p.Funcs.length/\z8.toNat < (z1.Blocks).length/\J8 (Lt.Reader.mk (Lt.Program.mk a0_r.p.SSA a0_r.p.Classes a0_r.p.Globals a0_r.p.Externs (a0_r.p.Funcs.set z9.toNat (Lt.Func.mk (z1.Name) (z1.Result) (z1.Params) (z1.Vars) ((z1.Blocks).set z8.toNat (Lt.Block.mk (z12.Name) (z12.Phis) (z12.Code) v2))))) a0_r.at_ a0_r.where_ a0_r.first a0_r.long)))); z2/\z2) (fun v9=>KK ((),(Lt.Reader.mk v9.p v9.at_ 0 v9.first v9.long)))))
def yGo (r:Lt.Reader) (l:List (List UInt8)) (KK:((Unit)×Lt.Reader)->Prop) (KP:Value->Lt.Reader->Prop) (X:Except Value Unit×Lt.Reader):Prop:=
 (r.p.Classes.length<=4611686018427387904->(r.p.Globals.length<=4611686018427387904->(r.p.Externs.length<=4611686018427387904->Lt.preReader r l/\exP X (fun _ x=>joinP (α:=Lt.Reader) (fun J5=>(x.p.Classes.length<=4611686018427387904->(x.p.Globals.length<=4611686018427387904->(x.p.Externs.length<=4611686018427387904->if (decide ((IntKind.i64.wrap ((IntKind.i64.wrap ((r.p.Classes.length:Int)+(r.p.Globals.length:Int)))+(r.p.Externs.length:Int))) < (IntKind.i64.wrap ((IntKind.i64.wrap ((x.p.Classes.length:Int)+(x.p.Globals.length:Int)))+(x.p.Externs.length:Int)))))=true then (J5 (Lt.Reader.mk x.p x.at_ x.where_ x.first (-1))) else (J5 x))))) (fun v=>KK ((),(Lt.Reader.mk v.p v.at_ v.where_ false v.long)))) (fun v x=>KP v x))))
def yWay (r:Lt.Reader) (l:List (List UInt8)) (KK:((Unit)×Lt.Reader)->Prop) (KP:Value->Lt.Reader->Prop) (X:Except Value Unit×Lt.Reader):Prop:=
 joinP (α:=Bool) (fun J1=>(l.length<=4611686018427387904->if (decide (2 < (l.length:Int)))=true then (((0:Int)<=1/\1<l.length)/\J1 (decide ((l.getD 1 default)=[61]))) else (J1 false))) (fun v2=>if v2=true then yGo r l KK KP (Lt.yCode r l) else yGo r l KK KP X)
def F_yLine (r:Lt.Reader) (l:List (List UInt8)) (KK:((Unit)×Lt.Reader)->Prop) (KP:Value->Lt.Reader->Prop):Prop:=
 ((0:Int)<=0/\0<l.length)/\if decide ((l.getD 0 default)=[115,115,97])=true then yWay r l KK KP (Lt.ySsa r l) else if decide ((l.getD 0 default)=[99,108,97,115,115])=true then yWay r l KK KP (Lt.yClass r l) else if decide ((l.getD 0 default)=[102,105,101,108,100])=true then yWay r l KK KP (Lt.yField r l) else if decide ((l.getD 0 default)=[103,108,111,98,97,108])=true then yWay r l KK KP (Lt.yGlobal r l) else if decide ((l.getD 0 default)=[101,120,116,101,114,110])=true then yWay r l KK KP (Lt.yExtern r l) else if decide ((l.getD 0 default)=[102,117,110,99])=true then yWay r l KK KP (Lt.yFunction r l) else if decide ((l.getD 0 default)=[112,97,114,97,109])=true then yWay r l KK KP (Lt.yParam r l) else if decide ((l.getD 0 default)=[118,97,114])=true then yWay r l KK KP (Lt.yVariable r l) else if decide ((l.getD 0 default)=[98,108,111,99,107])=true then yWay r l KK KP (Lt.yStart r l) else if decide ((l.getD 0 default)=[112,104,105])=true then yWay r l KK KP (Lt.yPhi r l) else if decide ((l.getD 0 default)=[97,116])=true then yWay r l KK KP (Lt.yFrame r l) else if decide ((l.getD 0 default)=[111,98,106])=true then yWay r l KK KP (Lt.yObject r l) else if decide ((l.getD 0 default)=[106,117,109,112])=true then yWay r l KK KP (Lt.yEnd r l) else if decide ((l.getD 0 default)=[98,114,97,110,99,104])=true then yWay r l KK KP (Lt.yEnd r l) else if decide ((l.getD 0 default)=[114,101,116])=true then yWay r l KK KP (Lt.yEnd r l) else if decide ((l.getD 0 default)=[116,114,97,112])=true then yWay r l KK KP (Lt.yEnd r l) else yWay r l KK KP (Lt.yCode r l)
def F_yParse (a0_s:List UInt8) (KK:(Lt.Program×Int×Int)->Prop):Prop:=
 have z1:=Lt.Program.mk false [] [] [] []; if (!decide ((Lt.lSplit a0_s).2.2=0))=true then (joinP (α:=Lt.Program×Int×Int) (fun J1=>have z2:=(J1 (z1,(Lt.lSplit a0_s).2.1,(Lt.lSplit a0_s).2.2))/\(J1 (z1,(Lt.lSplit a0_s).2.1,(Lt.lSplit a0_s).2.2)); ((J1 (z1,(Lt.lSplit a0_s).2.1,(Lt.lSplit a0_s).2.2))/\z2)/\z2/\z2) (fun v2=>KK ((Lt.Program.mk v2.1.SSA [] [] [] []),v2.2.1,v2.2.2))) else ((((Lt.lSplit a0_s).1).length<=4611686018427387904->loopP (α:=Int×Lt.Reader) (fun R3 v4=>have z3:=((Lt.lSplit a0_s).1).getD v4.1.toNat default; if (decide (v4.1 < (((Lt.lSplit a0_s).1).length:Int)))=true then (((0:Int)<=v4.1/\v4.1.toNat < ((Lt.lSplit a0_s).1).length)/\(Lt.preReader (Lt.Reader.mk v4.2.p (z3.N) v4.2.where_ v4.2.first v4.2.long) (z3.Words))/\exP (Lt.yLine (Lt.Reader.mk v4.2.p (z3.N) v4.2.where_ v4.2.first v4.2.long) (z3.Words)) (fun z5 r6=>R3 ((IntKind.i64.wrap (v4.1+1)),r6)) (fun v r6=>∃ n7:Int,v=Lt.flt n7/\(Lit.int .i64 n7).wf=true/\((KK (z1,r6.at_,n7))/\((KK (z1,r6.at_,n7))/\(KK (z1,r6.at_,n7)))))) else (if (!(Lt.yHas [0,1] v4.2.where_))=true then (∃ n8:Int,(Lt.flt 3)=Lt.flt n8/\(Lit.int .i64 n8).wf=true/\((KK (z1,0,n8))/\((KK (z1,0,n8))/\(KK (z1,0,n8))))) else (KK (v4.2.p,0,0)))) (0,(Lt.Reader.mk z1 0 0 true (-1)))))
end Go.Am
end

section
namespace Go.Am
open Go
set_option linter.unusedVariables false
def F_sOp (a0_word:List UInt8) (KK:(Int×Bool)->Prop):Prop:=
 loopP (α:=Int) (fun R1 v2=>if (decide (v2<=34))=true then (((0:Int)<=v2/\v2 < ((35:Nat):Int))/\v2.toNat<gw.length/\if (decide ((gw.getD v2.toNat default)=a0_word))=true then (KK (v2,true)) else (R1 (IntKind.i64.wrap (v2+1)))) else (KK (0,false))) 1
end Go.Am
end

section
namespace Go.Am
open Go
set_option linter.unusedVariables false
def F_Of (a0_op:Int) (KK:(Lt.Form×Bool)->Prop):Prop:=
 joinP (α:=Bool) (fun J1=>if (decide (1<=a0_op))=true then (J1 (decide (a0_op<=21))) else (J1 false)) (fun v2=>if v2=true then (KK ((Lt.Form.mk (Lt.nth (32::97::100::100::32::115::117::98::32::109::117::108::32::100::105::118::32::114::101::109::32::97::110::100::32::111::114::32::120::111::114::32::115::104::108::32::115::104::114::32::101::113::32::110::101::32::108::116::32::108::101::32::102::97::100::100::32::102::115::117::98::32::102::109::117::108::32::102::100::105::118::32::102::101::113::32::102::108::116::32::102::108::101::32::([]:List UInt8)) a0_op) true false 2 2),true)) else (joinP (α:=Bool) (fun J3=>if (decide (22<=a0_op))=true then (J3 (decide (a0_op<=24))) else (J3 false)) (fun v4=>if v4=true then (KK ((Lt.Form.mk (Lt.nth [32,105,116,111,102,32,102,116,111,105,32,109,111,118,32] (IntKind.i64.wrap (a0_op - 21))) true false 1 1),true)) else (if (decide (a0_op=25))=true then (KK ((Lt.Form.mk [110,101,119] true true 0 8),true)) else (if (decide (a0_op=26))=true then (KK ((Lt.Form.mk [108,111,97,100] true true 1 1),true)) else (if (decide (a0_op=27))=true then (KK ((Lt.Form.mk [115,116,111,114,101] false true 2 2),true)) else (if (decide (a0_op=28))=true then (KK ((Lt.Form.mk [115,97,109,101] true false 2 2),true)) else (if (decide (a0_op=29))=true then (KK ((Lt.Form.mk [103,108,111,97,100] true true 0 0),true)) else (if (decide (a0_op=30))=true then (KK ((Lt.Form.mk [103,115,116,111,114,101] false true 1 1),true)) else (if (decide (a0_op=31))=true then (KK ((Lt.Form.mk [99,97,108,108] true true 0 8),true)) else (if (decide (a0_op=32))=true then (KK ((Lt.Form.mk [101,120,116] true true 0 8),true)) else (if (decide (a0_op=33))=true then (KK ((Lt.Form.mk [111,117,116] false false 1 1),true)) else (if (decide (a0_op=34))=true then (KK ((Lt.Form.mk [103,117,97,114,100] false false 0 0),true)) else (KK ((Lt.Form.mk ([]:List UInt8) false false 0 0),false)))))))))))))))
def F_rOf (a0_op:Int) (KK:(Lt.RForm×Bool)->Prop):Prop:=
 have z1:=gw.getD a0_op.toNat default; have z4:=Lt.RForm.mk z1 false (decide (a0_op<=32)) 0 0; have z3:=Lt.RForm.mk z1 (!decide (a0_op=34)) true 0 0; have z2:=Lt.RForm.mk z1 false true 0 0; joinP (α:=Bool) (fun J1=>if (decide (a0_op < 1))=true then (J1 true) else (J1 (decide (34<a0_op)))) (fun v2=>if v2=true then (KK ((Lt.RForm.mk ([]:List UInt8) false false 0 0),false)) else (joinP (α:=Lt.RForm) (fun J3=>((0:Int)<=a0_op/\a0_op < ((35:Nat):Int))/\a0_op.toNat<gw.length/\if (!decide (a0_op=27))=true then (if (!decide (a0_op=30))=true then (if (!decide (a0_op=33))=true then (if (decide (a0_op=25))=true then (J3 z3) else (if (decide (a0_op=26))=true then (J3 z3) else (if (decide (a0_op=27))=true then (J3 z3) else (if (decide (29<=a0_op))=true then (J3 (Lt.RForm.mk z1 (!decide (a0_op=34)) (decide (a0_op<=32)) 0 0)) else (J3 (Lt.RForm.mk z1 (!decide (a0_op=34)) false 0 0)))))) else (if (decide (a0_op=25))=true then (J3 z2) else (if (decide (a0_op=26))=true then (J3 z2) else (if (decide (a0_op=27))=true then (J3 z2) else (if (decide (29<=a0_op))=true then (J3 z4) else (J3 (Lt.RForm.mk z1 false false 0 0))))))) else (if (decide (a0_op=25))=true then (J3 z2) else (if (decide (a0_op=26))=true then (J3 z2) else (if (decide (a0_op=27))=true then (J3 z2) else (if (decide (29<=a0_op))=true then (J3 z4) else (J3 (Lt.RForm.mk z1 false false 0 0))))))) else (if (decide (a0_op=25))=true then (J3 z2) else (if (decide (a0_op=26))=true then (J3 z2) else (if (decide (a0_op=27))=true then (J3 z2) else (if (decide (29<=a0_op))=true then (J3 z4) else (J3 (Lt.RForm.mk z1 false false 0 0))))))) (fun v4=>joinP (α:=Lt.RForm) (fun J5=>joinP (α:=Bool) (fun J7=>if (decide (a0_op=22))=true then (J7 (decide (a0_op=22))) else (if (decide (a0_op=23))=true then (J7 (decide (a0_op=23))) else (if (decide (a0_op=24))=true then (J7 (decide (a0_op=24))) else (if (decide (a0_op=26))=true then (J7 (decide (a0_op=26))) else (if (decide (a0_op=30))=true then (J7 (decide (a0_op=30))) else (J7 (decide (a0_op=33)))))))) (fun v8=>if v8=true then (J5 (Lt.RForm.mk v4.Word v4.Dst v4.Named 1 1)) else (joinP (α:=Bool) (fun J9=>if (decide (a0_op=25))=true then (J9 (decide (a0_op=25))) else (if (decide (a0_op=31))=true then (J9 (decide (a0_op=31))) else (J9 (decide (a0_op=32))))) (fun v10=>if v10=true then (J5 (Lt.RForm.mk v4.Word v4.Dst v4.Named v4.Least 8)) else (joinP (α:=Bool) (fun J11=>if (decide (a0_op=29))=true then (J11 (decide (a0_op=29))) else (J11 (decide (a0_op=34)))) (fun v12=>if v12=true then (J5 (Lt.RForm.mk v4.Word v4.Dst v4.Named v4.Least 0)) else (J5 (Lt.RForm.mk v4.Word v4.Dst v4.Named 2 2)))))))) (fun v6=>KK (v6,true)))))
def F_Name (a0_s:List UInt8) (KK:Bool->Prop):Prop:=
 joinP (α:=Bool) (fun J1=>if (decide (a0_s=([]:List UInt8)))=true then (J1 true) else (if (decide (16 < (a0_s.length:Int)))=true then (J1 true) else (((0:Int)<=0/\0<a0_s.length)/\if (!(Lt.letter (a0_s.getD 0 0)))=true then (J1 true) else (J1 (Lt.kept a0_s))))) (fun v2=>if v2=true then (KK false) else ((a0_s.length<=4611686018427387904->loopP (α:=Int) (fun R3 v4=>if (decide (v4 < (a0_s.length:Int)))=true then (joinP (α:=Bool) (fun J5=>((0:Int)<=v4/\v4.toNat<a0_s.length)/\if (!(Lt.letter (a0_s.getD v4.toNat 0)))=true then (((0:Int)<=v4/\v4.toNat<a0_s.length)/\J5 (!(Lt.wordDigit (a0_s.getD v4.toNat 0)))) else (J5 false)) (fun v6=>if v6=true then (KK false) else (R3 (IntKind.i64.wrap (v4+1))))) else (KK true)) 0)))
def F_nth (a0_list:List UInt8) (a1_n:Int) (KK:(List UInt8)->Prop):Prop:=
 loopP (α:=Int×Int×Int) (fun R1 v2=>(a0_list.length<=4611686018427387904->if (decide (v2.2.2 < (a0_list.length:Int)))=true then (joinP (α:=Int×Int) (fun J3=>((0:Int)<=v2.2.2/\v2.2.2.toNat<a0_list.length)/\if (!decide ((((a0_list.getD v2.2.2.toNat 0).toNat:Nat):Int)=(((32:UInt8).toNat:Nat):Int)))=true then (J3 (v2.1,v2.2.1)) else (if (decide ((IntKind.i64.wrap (v2.1 - 1))=0))=true then ((0:Int)<=(IntKind.i64.wrap (v2.2.1+1))/\(0:Int)<=v2.2.2/\((IntKind.i64.wrap (v2.2.1+1)).toNat<=v2.2.2.toNat/\v2.2.2.toNat<=a0_list.length)/\KK ((a0_list.drop (IntKind.i64.wrap (v2.2.1+1)).toNat).take (v2.2.2.toNat - (IntKind.i64.wrap (v2.2.1+1)).toNat))) else (J3 ((IntKind.i64.wrap (v2.1 - 1)),v2.2.2)))) (fun v4=>R1 (v4.1,v4.2,(IntKind.i64.wrap (v2.2.2+1))))) else (KK ([]:List UInt8)))) (a1_n,0,1)
def F_letter (a0_c:UInt8) (KK:Bool->Prop):Prop:=
 joinP (α:=Bool) (fun J1=>if (decide ((((97:UInt8).toNat:Nat):Int)<=((a0_c.toNat:Nat):Int)))=true then (if (decide (((a0_c.toNat:Nat):Int)<=(((122:UInt8).toNat:Nat):Int)))=true then (J1 true) else (if (decide ((((65:UInt8).toNat:Nat):Int)<=((a0_c.toNat:Nat):Int)))=true then (if (decide (((a0_c.toNat:Nat):Int)<=(((90:UInt8).toNat:Nat):Int)))=true then (J1 true) else (J1 (decide (((a0_c.toNat:Nat):Int)=(((95:UInt8).toNat:Nat):Int))))) else (J1 (decide (((a0_c.toNat:Nat):Int)=(((95:UInt8).toNat:Nat):Int)))))) else (if (decide ((((65:UInt8).toNat:Nat):Int)<=((a0_c.toNat:Nat):Int)))=true then (if (decide (((a0_c.toNat:Nat):Int)<=(((90:UInt8).toNat:Nat):Int)))=true then (J1 true) else (J1 (decide (((a0_c.toNat:Nat):Int)=(((95:UInt8).toNat:Nat):Int))))) else (J1 (decide (((a0_c.toNat:Nat):Int)=(((95:UInt8).toNat:Nat):Int)))))) (fun v2=>KK v2)
def F_kept (a0_s:List UInt8) (KK:Bool->Prop):Prop:=
 joinP (α:=Bool) (fun J1=>if (decide (a0_s=[110,117,108,108]))=true then (J1 true) else (if (decide (a0_s=[105,110,116]))=true then (J1 true) else (J1 (decide (a0_s=[102,108,111,97,116]))))) (fun v2=>KK v2)
def F_wordDigit (a0_c:UInt8) (KK:Bool->Prop):Prop:=
 if (decide ((((48:UInt8).toNat:Nat):Int)<=((a0_c.toNat:Nat):Int)))=true then (KK (decide (((a0_c.toNat:Nat):Int)<=(((57:UInt8).toNat:Nat):Int)))) else (KK false)
def F_Plain (a0_n:Int) (KK:Int->Prop):Prop:=
 joinP (α:=Bool) (fun J1=>if (decide ((IntKind.i64.wrap ((BitVec.ofInt IntKind.i64.bits a0_n &&& BitVec.ofInt IntKind.i64.bits 9218868437227405312).toNat:Nat))=9218868437227405312))=true then (J1 (!decide ((IntKind.i64.wrap ((BitVec.ofInt IntKind.i64.bits a0_n &&& BitVec.ofInt IntKind.i64.bits 4503599627370495).toNat:Nat))=0))) else (J1 false)) (fun v2=>if v2=true then (KK 9221120237041090560) else (KK a0_n))
end Go.Am
end

section
namespace Go.Am
open Go
set_option linter.unusedVariables false
set_option linter.unusedSimpArgs false
theorem ifk {c:Prop} [Decidable c] {A B:Prop} (h1:c->A) (h2:¬ c->B):if c then A else B:=by
 by_cases hc:c
 ·rw [if_pos hc]; exact h1 hc
 ·rw [if_neg hc]; exact h2 hc
theorem kk {α:Type} {KK:α->Prop} {a b:α} (h:KK a) (e:a=b):KK b:=e ▸ h
theorem law_kept (s:List UInt8) (KK:Bool->Prop) (h:KK (Lt.kept s)):F_kept s KK:=by
 unfold F_kept; (try simp only [jn_app,jn_and,jn_imp,jval,bor,band,bnand,bimp,and_self]); unfold Lt.kept at h; simpa only [Bool.or_assoc] using h
theorem law_letter (c:UInt8) (KK:Bool->Prop) (h:KK (Lt.letter c)):F_letter c KK:=by
 unfold F_letter; (try simp only [jn_app,jn_and,jn_imp,jval,bor,band,bnand,bimp,and_self])
 refine kk h ?_
 unfold Lt.letter Lt.letterI
 grind
theorem law_wordDigit (c:UInt8) (KK:Bool->Prop) (h:KK (Lt.wordDigit c)):F_wordDigit c KK:=by
 unfold F_wordDigit; (try simp only [jn_app,jn_and,jn_imp,jval,bor,band,bnand,bimp,and_self]); exact h
theorem law_Plain (n:Int) (KK:Int->Prop) (h:KK (Lt.Plain n)):F_Plain n KK:=by
 unfold F_Plain; (try simp only [jn_app,jn_and,jn_imp,jval,bor,band,bnand,bimp,and_self]); unfold Lt.Plain at h; exact h
theorem law_Name (s:List UInt8) (KK:Bool->Prop) (h:KK (Lt.Name s)):F_Name s KK:=by
 unfold F_Name; (try simp only [jn_app,jn_and,jn_imp,jval,bor,band,bnand,bimp,and_self,up_lr,up_l,up_r])
 have hn:¬ s=[]->0<s.length:=by cases s <;> simp
 refine ⟨fun h1 h2=>⟨Int.le_refl _,by grind⟩,?_⟩
 split
 ·refine kk h ?_
  unfold Lt.Name; grind
 ·intro hl
  refine all_loop (α:=UInt8) s hl Lt.nameByte true KK _ (fun R i hi ih hF=>?_) (fun R h=>?_) (kk h ?_)
  ·have hd:s.getD i 0=s.getD i default:=rfl
   simp only [lt_t hi,if_true,Int.toNat_natCast,hd]
   unfold Lt.nameByte at ih hF
   refine ⟨fun _=>⟨Int.natCast_nonneg i,hi⟩,fun _ _=>⟨Int.natCast_nonneg i,hi⟩,?_⟩
   grind
  ·simp only [lt_f,Bool.false_eq_true,if_false]; exact ⟨False.elim,False.elim,h⟩
  ·unfold Lt.Name; grind
theorem law_nth (l:List UInt8) (n:Int) (KK:List UInt8->Prop) (h:KK (Lt.nth l n)):F_nth l n KK:=by
 unfold F_nth; (try simp only [jn_app,jn_and,jn_imp,jn_const,jn_ite,jval,bor,band,bnand,bimp,and_self])
 unfold Lt.nth at h
 by_cases hl:l.length<=LEN
 ·refine nat_loop _ (l.length+1) (fun k x=>∃ (n:Int) (f i:Nat),x=(n,(f:Int),(i:Int))/\i=k+1/\f<i/\f<=l.length/\KK (Lt.nthG l (l.length+1-k) n f i)) (fun R k x hk hP hR=>?_) (fun R x hP=>?_) _ ⟨n,0,1,rfl,by omega,by omega,by omega,h⟩
  ·obtain ⟨n,f,i,rfl,hi1,hf,hf2,h⟩:=hP
   intro _
   by_cases hi:i<l.length
   ·simp only [lt_t hi,if_true,Int.toNat_natCast]
    refine ⟨⟨Int.natCast_nonneg i,hi⟩,?_⟩
    rw [show l.length+1-k=(l.length+1 - (k+1))+1 by omega] at h
    simp only [Lt.nthG,hi,if_true] at h
    have w1:IntKind.i64.wrap ((i:Int)+1)=((i+1:Nat):Int):=wrap_succ (by unfold LEN at hl; omega)
    have w2:IntKind.i64.wrap ((f:Int)+1)=((f+1:Nat):Int):=wrap_succ (by unfold LEN at hl; omega)
    rw [w1,w2]
    dsimp +instances only [Int.toNat_natCast]
    split
    ·rename_i hc
     have hc':¬ (((l.getD i 0).toNat:Nat):Int)=32:=by simpa using hc
     rw [if_neg hc'] at h
     exact hR _ ⟨n,f,i+1,rfl,by omega,by omega,by omega,h⟩
    ·rename_i hc
     have hc':(((l.getD i 0).toNat:Nat):Int)=32:=by simpa using hc
     rw [if_pos hc'] at h
     split
     ·rename_i hz
      have hz':IntKind.i64.wrap (n - 1)=0:=by simpa using hz
      rw [if_pos hz'] at h
      exact ⟨Int.natCast_nonneg _,Int.natCast_nonneg _,⟨by omega,by omega⟩,h⟩
     ·rename_i hz
      have hz':¬ IntKind.i64.wrap (n - 1)=0:=by simpa using hz
      rw [if_neg hz'] at h
      exact hR _ ⟨_,i,i+1,rfl,by omega,by omega,by omega,h⟩
   ·have hf:decide ((i:Int) < (l.length:Int))=false:=by simp; omega
    simp only [hf,Bool.false_eq_true,if_false]
    rw [show l.length+1-k=(l.length+1 - (k+1))+1 by omega] at h
    simp only [Lt.nthG,hi,if_false] at h
    exact h
  ·obtain ⟨n,f,i,rfl,hi1,hf,hf2,h⟩:=hP
   intro _
   have hf:decide ((i:Int) < (l.length:Int))=false:=by simp; omega
   simp only [hf,Bool.false_eq_true,if_false]
   rw [show l.length+1 - (l.length+1)=0 by omega] at h
   exact h
 ·exact ⟨1,fun h=>absurd h hl⟩
theorem law_Of (op:Int) (KK:Lt.Form×Bool->Prop) (h:KK (Lt.Of op)):F_Of op KK:=by
 unfold F_Of; (try simp only [jn_app,jn_and,jn_imp,jval,bor,band,bnand,bimp,and_self])
 refine kk h ?_
 unfold Lt.Of Lt.two
 simp only [Bool.and_eq_true,decide_eq_true_eq]
end Go.Am
end

section
namespace Go.Am
open Go
set_option linter.unusedVariables false
set_option linter.unusedSimpArgs false
theorem wrap_small {n:Int} (h1:-9223372036854775808<=n) (h2:n < 9223372036854775808):IntKind.i64.wrap n=n:=by
 simp only [IntKind.wrap,IntKind.signed,IntKind.bits]
 simp
 omega
theorem digs_small {n:Nat} (h:n < 10):Lt.digs n=[UInt8.ofNat (48+n)]:=by
 rw [Lt.digs,if_pos h]
theorem digs_big {n:Nat} (h:¬ n < 10):Lt.digs n=Lt.digs (n / 10)++[UInt8.ofNat (48+n % 10)]:=by
 rw [Lt.digs,if_neg h]
theorem digs_len:∀ (k n:Nat),n < 10 ^ (k+1)->(Lt.digs n).length<=k+1
 | 0,n,h=>by rw [digs_small (by omega)]; simp
 | k+1,n,h=>by
  by_cases h10:n < 10
  ·rw [digs_small h10]; simp
  ·rw [digs_big h10]
   have:=digs_len k (n / 10) (by rw [Nat.pow_succ] at h; omega)
   simp only [List.length_append,List.length_cons,List.length_nil]
   omega
theorem numPut_len {n:Int} (h:Lt.inR n):(Lt.numPut n).length<=20:=by
 unfold Lt.inR at h
 have:=digs_len 18 n.natAbs (by omega)
 unfold Lt.numPut
 simp only [List.length_append]
 split <;> simp <;> omega
theorem wrapu_small {n:Nat} (h:n < 18446744073709551616):IntKind.u64.wrap (n:Int)=(n:Int):=by
 simp only [IntKind.wrap,IntKind.signed,IntKind.bits]
 simp
 omega
theorem floPut_len (n:Int):(Lt.floPut n).length=18:=by simp [Lt.floPut]
end Go.Am
end

section
namespace Go.Am
open Go
set_option linter.unusedVariables false
set_option linter.unusedSimpArgs false
end Go.Am
end

section
namespace Go.Am
open Go
set_option linter.unusedVariables false
set_option linter.unusedSimpArgs false
theorem Of_most (op:Int):(Lt.Of op).1.Most<=8:=by
 unfold Lt.Of
 simp only [apply_ite Prod.fst,apply_ite Lt.Form.Most]
 repeat' split
 all_goals omega
theorem Of_least {op:Int} (h:op=26\/op=27):1<=(Lt.Of op).1.Least:=by
 rcases h with rfl | rfl <;> decide
structure InstrOk (i:Lt.Instr):Prop where
 args:i.Args.length<=8
 frames:i.Frames.length<=16
 objs:i.Objs.length<=99
 fr:∀ f∈i.Frames,Lt.frame f=true
 ob:∀ o∈i.Objs,Lt.virt o=true
 least:i.Op=26\/i.Op=27->1<=i.Args.length
 aok:Lt.showArgs i.Args false=true
 of:(Lt.Of i.Op).2=true
 dst:(Lt.Of i.Op).1.Dst=!decide (i.Dst=[])
 nm:(Lt.Of i.Op).1.Named=!decide (i.Name=[])
 dstN:(Lt.Of i.Op).1.Dst=true->Lt.Name i.Dst=true
 nmN:(Lt.Of i.Op).1.Named=true->Lt.Name i.Name=true
 lo:(Lt.Of i.Op).1.Least<=(i.Args.length:Int)
 hi:(i.Args.length:Int)<=(Lt.Of i.Op).1.Most
 none:i.Op≠31/\i.Op≠34->i.Frames=[]/\i.Objs=[]
theorem instr_ok {i:Lt.Instr} (h:Lt.instr i=true):InstrOk i:=by
 unfold Lt.instr at h
 simp only [Bool.and_eq_true,decide_eq_true_eq,beq_iff_eq,Bool.not_eq_true',Bool.and_eq_false_iff] at h
 obtain ⟨⟨⟨⟨⟨⟨h1,h2⟩,h3⟩,h4⟩,h5⟩,⟨⟨⟨h6,h7⟩,h8⟩,h9⟩,h10⟩,h11⟩:=h
 have hm:=Of_most i.Op
 have hfo:(∀ f∈i.Frames,Lt.frame f=true)/\(∀ o∈i.Objs,Lt.virt o=true):=by
  split at h11
  ·simp only [Bool.and_eq_true,decide_eq_true_eq] at h11
   rw [h11.1,h11.2]; simp
  ·simpa [List.all_eq_true] using h11
 refine ⟨by omega,h9,h10,hfo.1,hfo.2,fun ho=>?_,h8,h1,h2,h3,fun hd=>?_,fun hd=>?_,h6,h7,fun ho=>?_⟩
 ·have:=Of_least ho
  omega
 ·rcases h4 with h4 | h4
  ·rw [h4] at hd; cases hd
  ·simpa using h4
 ·rcases h5 with h5 | h5
  ·rw [h5] at hd; cases hd
  ·simpa using h5
 ·rw [if_pos ho] at h11
  simpa using h11
def longs (l:List Lt.Block):Nat:=(l.map fun b=>b.Phis.length+b.Code.length).sum
theorem blocks_ok:∀ (l:List Lt.Block) (n:Nat),n<=1024->Lt.blocks l n=true->n+longs l<=1024/\∀ b∈l,Lt.block b=true
 | [],n,hn,_=>⟨by simp [longs]; exact hn,by simp⟩
 | b::r,n,hn,h=>by
  simp only [Lt.blocks,Bool.and_eq_true,decide_eq_true_eq] at h
  obtain ⟨⟨h1,h2⟩,h3⟩:=h
  obtain ⟨k1,k2⟩:=blocks_ok r _ h1 h3
  refine ⟨?_,?_⟩
  ·simp only [longs,List.map_cons,List.sum_cons] at k1 ⊢; omega
  ·intro x hx
   rcases List.mem_cons.1 hx with rfl | hx
   ·exact h2
   ·exact k2 x hx
structure FuncOk (f:Lt.Func):Prop where
 name:Lt.Name f.Name=true
 res:Lt.kind f.Result=true
 params:Lt.typed f.Params 6=true
 vars:Lt.typed f.Vars 1024=true
 ne:f.Blocks≠[]
 len:f.Blocks.length<=256
 long:longs f.Blocks<=1024
 bl:∀ b∈f.Blocks,Lt.block b=true
theorem func_ok {f:Lt.Func} (h:Lt.showFunction f=true):FuncOk f:=by
 unfold Lt.showFunction at h
 simp only [Bool.and_eq_true,decide_eq_true_eq,Bool.not_eq_true',decide_eq_false_iff_not] at h
 obtain ⟨⟨⟨⟨⟨⟨h1,h2⟩,h3⟩,h4⟩,h5⟩,h6⟩,h7⟩:=h
 obtain ⟨k1,k2⟩:=blocks_ok _ 0 (by omega) h7
 exact ⟨h1,h2,h3,h4,h5,h6,by omega,k2⟩
end Go.Am
end

section
namespace Go.Am
open Go
set_option linter.unusedVariables false
set_option linter.unusedSimpArgs false
theorem wordRight_cases {a:Lt.Arg} (h:Lt.wordRight a=true):(a.Kind=1/\Lt.Name a.S=true/\a.N=0)\/(a.Kind=2/\a.S=[])\/(a.Kind=3/\a.S=[]/\Lt.Plain a.N=a.N)\/(a.Kind=4/\a.S=[]/\a.N=0)\/(a.Kind=5/\a.S=[]/\0<=a.N/\a.N<=999):=by
 unfold Lt.wordRight at h
 split at h
 ·rename_i h1; simp only [Bool.and_eq_true,decide_eq_true_eq] at h; exact .inl ⟨h1,h⟩
 ·split at h
  ·rename_i h1; simp only [Bool.and_eq_true,decide_eq_true_eq] at h; exact .inr (.inl ⟨h1,h⟩)
  ·split at h
   ·rename_i h1; simp only [Bool.and_eq_true,decide_eq_true_eq] at h; exact .inr (.inr (.inl ⟨h1,h⟩))
   ·split at h
    ·rename_i h1; simp only [Bool.and_eq_true,decide_eq_true_eq] at h; exact .inr (.inr (.inr (.inl ⟨h1,h⟩)))
    ·split at h
     ·rename_i h1; simp only [Bool.and_eq_true,decide_eq_true_eq] at h; exact .inr (.inr (.inr (.inr ⟨h1,h.1.1,h.1.2,h.2⟩)))
     ·cases h
end Go.Am
end

section
namespace Go.Am
open Go
set_option linter.unusedVariables false
set_option linter.unusedSimpArgs false
end Go.Am
end

section
namespace Go.Am
open Go
set_option linter.unusedVariables false
set_option linter.unusedSimpArgs false
end Go.Am
end

section
namespace Go.Am
open Go
set_option linter.unusedVariables false
set_option linter.unusedSimpArgs false
theorem law_rOf (n:Int) (KK:Lt.RForm×Bool->Prop) (h:KK (Lt.rOf n)):F_rOf n KK:=by
 by_cases hr:n < 1\/34<n
 ·unfold F_rOf Lt.rOf at *
  rw [if_pos hr] at h
  simp only [jn_app,jval,bor]
  rw [if_pos (by simpa using hr)]
  exact h
 ·have:n=1\/n=2\/n=3\/n=4\/n=5\/n=6\/n=7\/n=8\/n=9\/n=10\/n=11\/n=12\/n=13\/n=14\/n=15\/n=16\/n=17\/n=18\/n=19\/n=20\/n=21\/n=22\/n=23\/n=24\/n=25\/n=26\/n=27\/n=28\/n=29\/n=30\/n=31\/n=32\/n=33\/n=34:=by omega
  rcases this with rfl | rfl | rfl | rfl | rfl | rfl | rfl | rfl | rfl | rfl | rfl | rfl | rfl | rfl | rfl | rfl | rfl | rfl | rfl | rfl | rfl | rfl | rfl | rfl | rfl | rfl | rfl | rfl | rfl | rfl | rfl | rfl | rfl | rfl
  all_goals
   simp [Lt.rOf] at h
   simp [F_rOf,jn_app,gw]
   exact h
end Go.Am
end

section
namespace Go.Am
open Go
set_option linter.unusedVariables false
set_option linter.unusedSimpArgs false
end Go.Am
end

section
namespace Go.Am
open Go
set_option linter.unusedVariables false
set_option linter.unusedSimpArgs false
theorem law_sOp (w:List UInt8) (KK:Int×Bool->Prop) (h:KK (Lt.sOp w)):F_sOp w KK:=by
 unfold F_sOp
 have hg:gw.length=35:=rfl
 have key:∀ k i,i+k=35->KK (Lt.sOpG w (gw.drop i) (i:Int))->loopN (fun (R1:Int->Prop) v2=>if (decide (v2<=34))=true then (((0:Int)<=v2/\v2 < ((35:Nat):Int))/\v2.toNat<gw.length/\if (decide ((gw.getD v2.toNat default)=w))=true then (KK (v2,true)) else (R1 (IntKind.i64.wrap (v2+1)))) else (KK (0,false))) (k+1) (i:Int):=by
  intro k
  induction k with
  | zero=>
   intro i hi h
   have e:i=35:=by omega
   subst e
   exact h
  | succ k ih=>
   intro i hi h
   have hlt:i<gw.length:=by omega
   rw [List.drop_eq_getElem_cons hlt] at h
   have e:gw.getD i default=gw[i]:=by rw [List.getD,List.getElem?_eq_getElem hlt]; rfl
   rw [<- e] at h
   show (if (decide ((i:Int)<=34))=true then _ else _)
   rw [if_pos (by simp; omega)]
   simp only [Int.toNat_natCast]
   refine ⟨⟨by omega,by omega⟩,hlt,?_⟩
   simp only [Lt.sOpG] at h
   refine ifk (fun hc=>?_) (fun hc=>?_)
   ·rw [if_pos (by simpa using hc)] at h; exact h
   ·rw [if_neg (by simpa using hc)] at h
    rw [wrap_succ (by omega)]
    exact ih (i+1) (by omega) (by simpa using h)
 exact ⟨35,key 34 1 rfl h⟩
theorem foldl_snoc {α β:Type} (f:β->α->β) (b:β) (l:List α) (x:α):(l++[x]).foldl f b=f (l.foldl f b) x:=by simp
theorem half_inR (n:Int):Lt.inR (Lt.sHalf n):=by
 have:=wf_wrap (k:=.i64) n
 simp only [Lit.wf,Bool.and_eq_true,decide_eq_true_eq] at this
 have h1:IntKind.i64.min=-9223372036854775808:=by decide
 have h2:IntKind.i64.max=9223372036854775807:=by decide
 rw [h1,h2] at this
 unfold Lt.inR Lt.sHalf
 omega
end Go.Am
end

section
namespace Go.Am
open Go
set_option linter.unusedVariables false
set_option linter.unusedSimpArgs false
end Go.Am
end

section
namespace Go.Am
open Go
set_option linter.unusedVariables false
set_option linter.unusedSimpArgs false
end Go.Am
end

section
namespace Go.Am
open Go
set_option linter.unusedVariables false
set_option linter.unusedSimpArgs false
theorem typed_le {l:List Lt.Var} {k:Nat} (h:Lt.typed l k=true):l.length<=k:=by
 unfold Lt.typed at h
 simp only [Bool.and_eq_true,decide_eq_true_eq] at h
 omega
theorem app_ok {n c:Nat} (h:n<=5000) (hc:c<=200):(n+1<=4611686018427387904/\(n+1)*c<=140737488355328)=True:=by
 have:(n+1)*c<=5001*200:=Nat.mul_le_mul (by omega) hc
 simp; omega
theorem wrap_last {α:Type} {l:List α} (h:l≠[]) (h8:l.length<=5000):IntKind.i64.wrap ((l.length:Int) - 1)=((l.length - 1:Nat):Int):=by
 have:0<l.length:=List.length_pos_iff.2 h
 rw [wrap_i64 (by omega) (by omega)]; omega
theorem last_lt {α:Type} {l:List α} (h:l≠[]):(l.length - 1<l.length)=True:=by
 have:0<l.length:=List.length_pos_iff.2 h
 simp; omega
theorem last_ob {α:Type} {l:List α} (h:l≠[]):((0:Int)<=((l.length - 1:Nat):Int)/\((l.length - 1:Nat):Int) < (l.length:Int))=True:=by
 have:0<l.length:=List.length_pos_iff.2 h
 simp; omega
end Go.Am
end

section
namespace Go.Am
open Go
set_option linter.unusedVariables false
set_option linter.unusedSimpArgs false
theorem getD_snoc {α:Type} [Inhabited α] (l:List α) (x:α):(l++[x]).getD ((l++[x]).length - 1) default=x:=by
 have:(l++[x]).length - 1=l.length:=by simp
 rw [this,List.getD,List.getElem?_append_right (Nat.le_refl _)]; simp
theorem set_snoc {α:Type} (l:List α) (x y:α):(l++[x]).set ((l++[x]).length - 1) y=l++[y]:=by
 have:(l++[x]).length - 1=l.length:=by simp
 rw [this,List.set_append_right _ _ (Nat.le_refl _)]; simp
theorem snoc_ne {α:Type} (l:List α) (x:α):l++[x]≠[]:=by simp
theorem le_sum:∀ (l:List Lt.Block) (b:Lt.Block),b∈l->b.Phis.length+b.Code.length<=(l.map fun b=>b.Phis.length+b.Code.length).sum
 | [],_,h=>by simp at h
 | a::r,b,h=>by
  rcases List.mem_cons.1 h with rfl | h
  ·simp
  ·have:=le_sum r b h
   simp only [List.map_cons,List.sum_cons]; omega
theorem Inv_fun {r:Lt.Read} (h:Lt.Inv r) (hw:3<=r.Where):r.P.Funcs≠[]/\Lt.fnPart r.curF r.Where r.Long/\r.curF.Params.length<=6/\r.curF.Vars.length<=1024/\r.curF.Blocks.length<=256:=by
 obtain ⟨_,_,_,_,_,h3⟩:=h
 obtain ⟨fs,f,hf,_,hp⟩:=h3 hw
 have e:r.curF=f:=by unfold Lt.Read.curF; rw [hf]; exact getD_snoc fs f
 rw [e]
 exact ⟨by rw [hf]; exact snoc_ne _ _,hp,typed_le (k:=6) hp.1.2.2.1,typed_le (k:=1024) hp.1.2.2.2,hp.2.1.1⟩
theorem Inv_block {r:Lt.Read} (h:Lt.Inv r) (hw:5<=r.Where):r.curF.Blocks≠[]/\r.curB.Phis.length<=1024/\r.curB.Code.length<=1024/\r.curB.Code.all Lt.instr=true:=by
 obtain ⟨_,hp,_⟩:=Inv_fun h (by omega)
 obtain ⟨_,⟨_,h0,hn⟩,_,hb⟩:=hp
 obtain ⟨bs,b,hb,_,hs,hb2,_⟩:=hb hw
 have e:r.curB=b:=by unfold Lt.Read.curB; rw [hb]; exact getD_snoc bs b
 have:=le_sum r.curF.Blocks b (by rw [hb]; simp)
 rw [e]
 exact ⟨by rw [hb]; exact snoc_ne _ _,by omega,by omega,hb2.2.2⟩
theorem Inv_instr {r:Lt.Read} (h:Lt.Inv r) (hw:6<=r.Where) (hw8:r.Where<=8):r.curB.Code≠[]/\r.curI.Frames.length<=16/\r.curI.Objs.length<=99:=by
 obtain ⟨_,hp,_⟩:=Inv_fun h (by omega)
 obtain ⟨_,⟨_,h0,hn⟩,_,hb⟩:=hp
 obtain ⟨bs,b,hb,_,hs,hb2,_,hc⟩:=hb (by omega)
 obtain ⟨cs,c,hc,_⟩:=hc hw hw8
 have e:r.curB=b:=by unfold Lt.Read.curB; rw [hb]; exact getD_snoc bs b
 have e2:r.curI=c:=by unfold Lt.Read.curI; rw [e,hc]; exact getD_snoc cs c
 have hi:Lt.instr c=true:=List.all_eq_true.1 hb2.2.2 c (by rw [hc]; simp)
 unfold Lt.instr at hi
 simp only [Bool.and_eq_true,decide_eq_true_eq] at hi
 rw [e,e2]
 exact ⟨by rw [hc]; exact snoc_ne _ _,hi.1.2.1.2,hi.1.2.2⟩
theorem sPairsG_len (objs:Bool):∀ (l:List (List UInt8)) (x:List Lt.Bind),Lt.sPairsG objs l=some x->l.length=2*x.length
 | [],x,h=>by simp [Lt.sPairsG] at h; subst h; rfl
 | [_],x,h=>by simp [Lt.sPairsG] at h
 | a::b::r,x,h=>by
  rw [Lt.sPairsG] at h
  split at h
  ·cases hr:Lt.sPairsG objs r with
   | none=>simp [hr] at h
   | some y=>
    have:=sPairsG_len objs r y hr
    simp [hr] at h
    subst h
    simp only [List.length_cons]; omega
  ·simp at h
theorem sPairs_len {l:List (List UInt8)} {f:Int} {objs:Bool} (h:(Lt.sPairs l f objs).2=true) (h0:0<=f):(l.length:Int)=f+2*((Lt.sPairs l f objs).1.length:Int):=by
 unfold Lt.sPairs at h ⊢
 split at h
 ·simp at h
 ·rename_i hlt
  rw [if_neg hlt]
  split at h
  ·rename_i x hx
   have:=sPairsG_len _ _ _ hx
   rw [List.length_drop] at this
   simp only; omega
  ·simp at h
end Go.Am
end

section
namespace Go.Am
open Go
set_option linter.unusedVariables false
set_option linter.unusedSimpArgs false
end Go.Am
end

section
namespace Go.Am
open Go
set_option linter.unusedVariables false
set_option linter.unusedSimpArgs false
def codeR (r:Lt.Read) (dst:List UInt8) (l:List (List UInt8)):Int×Lt.Read:=
 if r.ins=false then (3,r)
 else match Lt.sInstr dst l with
 | none=>(3,r)
 | some x=>if 1024<=r.Long then (2,r) else (0,{ r.block (fun b=>{ b with Code:=b.Code++[x] }) with Where:=if x.Op=31\/x.Op=34 then 7 else 6,Long:=r.Long+1 })
end Go.Am
end

section
namespace Go.Am
open Go
set_option linter.unusedVariables false
set_option linter.unusedSimpArgs false
end Go.Am
end

section
namespace Go.Am
open Go
set_option linter.unusedVariables false
set_option linter.unusedSimpArgs false
end Go.Am
end

section
namespace Go.Am
open Go
set_option linter.unusedVariables false
set_option linter.unusedSimpArgs false
theorem range_all {α:Type} (p:α->Bool) (d:α):∀ l:List α,((List.range l.length).all fun i=>p (l.getD i d))=l.all p
 | []=>rfl
 | a::r=>by
  rw [List.length_cons,List.range_succ_eq_map,List.all_cons,List.all_map]
  have:=range_all p d r
  simp only [List.all_cons,Function.comp_def,List.getD_cons_zero,List.getD_cons_succ]
  rw [this]
theorem rNameB_eq (i:Nat) (c:UInt8):Lt.rNameB i c=(Lt.letter c||(Lt.wordDigit c&&decide (0<i))):=by
 unfold Lt.rNameB Lt.letter Lt.letterI Lt.wordDigit
 rw [Bool.eq_iff_iff]
 simp
 omega
theorem rName_eq (s:List UInt8):Lt.rName s=Lt.Name s:=by
 unfold Lt.rName Lt.Name Lt.kept
 cases s with
 | nil=>rfl
 | cons a r=>
  rw [List.length_cons,List.range_succ_eq_map,List.all_cons,List.all_map]
  have e:((List.range r.length).all ((fun i=>Lt.rNameB i ((a::r).getD i 0)) ∘ Nat.succ))=r.all Lt.nameByte:=by
   rw [<- range_all Lt.nameByte 0 r]
   congr 1; funext i
   simp [rNameB_eq,Lt.nameByte]
  have e16:decide (((r.length+1:Nat):Int)<=16)=decide (r.length+1<=16):=decide_eq_decide.2 (by omega)
  have e1:decide (1<=((r.length+1:Nat):Int))=true:=by simp; omega
  rw [e,rNameB_eq,e16,e1]
  simp only [List.all_cons,List.getD_cons_zero,Lt.nameByte,Nat.lt_irrefl,decide_false,Bool.and_false,Bool.or_false,reduceCtorEq,Bool.not_false,Bool.true_and]
  cases Lt.letter a <;> cases Lt.wordDigit a <;> cases r.all (fun c=>Lt.letter c||Lt.wordDigit c) <;> simp
  all_goals grind
theorem nan_bits (x:Nat):(9218868437227405312<x % 9223372036854775808) ↔ ((x &&& 9218868437227405312)=9218868437227405312/\(x &&& 4503599627370495)≠0):=by
 have e1:x &&& 4503599627370495=x % 2 ^ 52:=Nat.and_two_pow_sub_one_eq_mod x 52
 have e2:x &&& 9223372036854775807=x % 2 ^ 63:=Nat.and_two_pow_sub_one_eq_mod x 63
 have e3:(x &&& 9218868437227405312) % 2 ^ 52=0:=by
  rw [<- Nat.and_two_pow_sub_one_eq_mod,Nat.and_assoc]
  have:(9218868437227405312 &&& (2 ^ 52 - 1):Nat)=0:=by decide
  rw [this,Nat.and_zero]
 have e4:x &&& 9223372036854775807=(x &&& 9218868437227405312) ||| (x &&& 4503599627370495):=by
  rw [<- Nat.and_or_distrib_left]
  have:(9218868437227405312 ||| 4503599627370495:Nat)=9223372036854775807:=by decide
  rw [this]
 obtain ⟨q,hq⟩:∃ q,x &&& 9218868437227405312=2 ^ 52*q:=⟨_,(Nat.mul_div_cancel' (Nat.dvd_of_mod_eq_zero e3)).symm⟩
 have h:=Nat.and_le_right (n:=x) (m:=9218868437227405312)
 rw [hq,e1,<- Nat.two_pow_add_eq_or_of_lt (Nat.mod_lt _ (by decide))] at e4
 rw [hq] at h
 rw [hq,e1]
 omega
theorem wrapu_eq (n:Int):IntKind.u64.wrap n=(((BitVec.ofInt 64 n).toNat:Nat):Int):=by
 rw [BitVec.toNat_ofInt]
 simp only [IntKind.wrap,IntKind.signed,IntKind.bits]
 simp
 omega
theorem plain_eq (n:Int):Lt.rPlain n=Lt.Plain n:=by
 unfold Lt.rPlain Lt.rIsNan Lt.Plain
 have b64:IntKind.i64.bits=64:=rfl
 rw [wrapu_eq,b64,BitVec.toNat_and,BitVec.toNat_and]
 generalize (BitVec.ofInt 64 n).toNat=x
 have c1:(BitVec.ofInt 64 9218868437227405312).toNat=9218868437227405312:=by decide
 have c2:(BitVec.ofInt 64 4503599627370495).toNat=4503599627370495:=by decide
 rw [c1,c2]
 have h1:=Nat.and_le_right (n:=x) (m:=9218868437227405312)
 have h2:=Nat.and_le_right (n:=x) (m:=4503599627370495)
 have:=nan_bits x
 rw [wrap_small (by omega) (by omega),wrap_small (by omega) (by omega)]
 have et:Int.tmod (x:Int) 9223372036854775808=((x % 9223372036854775808:Nat):Int):=rfl
 rw [et]
 by_cases hc:9218868437227405312<x % 9223372036854775808
 ·have h:=this.1 hc
  have k1:((x &&& 9218868437227405312:Nat):Int)=9218868437227405312:=by omega
  have k2:¬ ((x &&& 4503599627370495:Nat):Int)=0:=by omega
  rw [if_pos (by simp; omega),if_pos (by rw [decide_eq_true k1,decide_eq_false k2]; rfl)]
 ·have h:¬ (((x &&& 9218868437227405312:Nat):Int)=9218868437227405312/\¬ ((x &&& 4503599627370495:Nat):Int)=0):=fun h=>hc (this.2 ⟨by omega,by omega⟩)
  rw [if_neg (by simp; omega),if_neg (by simpa using h)]
def hexT:List UInt8:=[48,49,50,51,52,53,54,55,56,57,97,98,99,100,101,102]
def hexN (k:Nat):UInt8:=hexT.getD (k % 16) 0
theorem hexB_eq (k:Nat):Lt.hexB (k:Int)=hexN k:=by
 unfold Lt.hexB hexN
 have e:Int.tmod (k:Int) 16=((k % 16:Nat):Int):=rfl
 rw [e]
 have h:k % 16 < 16:=Nat.mod_lt _ (by decide)
 generalize k % 16=j at h
 have:∀ j:Fin 16,UInt8.ofNat (IntKind.u8.wrap ((IntKind.u8.wrap ((j.1:Nat):Int))+(if IntKind.u8.wrap ((j.1:Nat):Int) < 10 then 48 else 87))).toNat=hexT.getD j.1 0:=by decide
 exact this ⟨j,h⟩
theorem hexR_eq:∀ (k m:Nat) (l:List UInt8),m < 18446744073709551616->Lt.hexR k (m:Int) l=((List.range k).map fun i=>hexN (m / 16 ^ (k - 1-i)))++l
 | 0,m,l,_=>rfl
 | k+1,m,l,h=>by
  rw [Lt.hexR,show Int.tdiv (m:Int) 16=((m / 16:Nat):Int) from rfl,wrapu_small (by omega),hexR_eq k (m / 16) _ (by omega),hexB_eq,List.range_succ,List.map_append]
  have e:(List.range k).map (fun i=>hexN (m / 16 / 16 ^ (k - 1-i)))=(List.range k).map (fun i=>hexN (m / 16 ^ (k+1 - 1-i))):=by
   refine List.map_congr_left (fun i hi=>?_)
   have hi:i<k:=List.mem_range.1 hi
   rw [Nat.div_div_eq_div_mul,show k+1 - 1-i=(k - 1-i)+1 by omega,Nat.pow_succ,Nat.mul_comm 16]
  rw [e]
  simp
theorem hexAt_eq (u:Int) (s:Nat) (hs:s<=60):Lt.hexAt u (s:Int)=hexN ((BitVec.ofInt 64 u).toNat / 2 ^ s):=by
 unfold Lt.hexAt
 have b64:IntKind.u64.bits=64:=rfl
 rw [wrapu_eq u,wrapu_small (n:=s) (by omega),b64,Int.toNat_natCast,Nat.min_eq_left (by omega)]
 have hx:=(BitVec.ofInt 64 u).isLt
 generalize (BitVec.ofInt 64 u).toNat=x at hx ⊢
 have e:Int.fdiv (x:Int) (2 ^ s)=((x / 2 ^ s:Nat):Int):=by
  rw [show ((2:Int) ^ s)=((2 ^ s:Nat):Int) by simp,Int.fdiv_eq_ediv_of_nonneg _ (Int.natCast_nonneg _)]; rfl
 have hlt:x / 2 ^ s < 18446744073709551616:=Nat.lt_of_le_of_lt (Nat.div_le_self _ _) hx
 have c15:(BitVec.ofInt 64 15).toNat=15:=by decide
 have e2:(BitVec.ofInt 64 ((x / 2 ^ s:Nat):Int)).toNat=x / 2 ^ s:=by
  generalize x / 2 ^ s=y at hlt
  rw [BitVec.toNat_ofInt]; omega
 rw [e,BitVec.toNat_and,c15,e2]
 have e3:(x / 2 ^ s &&& 15:Nat)=x / 2 ^ s % 16:=Nat.and_two_pow_sub_one_eq_mod _ 4
 rw [e3,wrapu_small (by omega),Int.toNat_natCast]
 rfl
theorem flo_eq (n:Int):Lt.rFlo n=Lt.floPut n:=by
 unfold Lt.rFlo Lt.floPut
 rw [plain_eq,wrapu_eq,hexR_eq 16 _ _ (BitVec.isLt _),List.append_nil]
 congr 1
 refine List.map_congr_left (fun i hi=>?_)
 have hi:i < 16:=List.mem_range.1 hi
 have e:(60:Int) - 4*(i:Int)=((60 - 4*i:Nat):Int):=by omega
 rw [e,hexAt_eq _ _ (by omega)]
 rw [show 60 - 4*i=4*(16 - 1-i) by omega,Nat.pow_mul]
theorem right_eq (a:Lt.Arg):Lt.rRight a=Lt.wordRight a:=by
 unfold Lt.rRight Lt.wordRight
 rw [rName_eq,plain_eq]
 by_cases h1:a.Kind=1
 ·rw [if_pos h1,if_pos h1]
 rw [if_neg h1,if_neg h1]
 by_cases h2:a.Kind=2
 ·simp [h2]
 by_cases h3:a.Kind=3
 ·simp [h3]
 by_cases h4:a.Kind=4
 ·simp [h4]
 by_cases h5:a.Kind=5
 ·simp [h5,Bool.and_assoc]
 have:(((decide (a.Kind < 1))||(decide (5<a.Kind)))||(!decide (a.S=[])))=true:=by simp; omega
 rw [if_pos this,if_neg h2,if_neg h3,if_neg h4,if_neg h5]
theorem word_eq (a:Lt.Arg):Lt.rWord a=Lt.wordPut a:=by
 unfold Lt.rWord Lt.wordPut Lt.rNum
 rw [right_eq,flo_eq]
 by_cases h:Lt.wordRight a=true
 ·rw [if_pos h,if_pos h]
  rcases wordRight_cases h with h | h | h | h | h
  ·simp [h.1]
  ·simp [h.1]
  ·simp [h.1]
  ·simp [h.1]
  ·simp [h.1]
 ·rw [if_neg h,if_neg h]
theorem rOf_eq (op:Int):(Lt.rOf op).2=(Lt.Of op).2/\(Lt.rOf op).1.Word=(Lt.Of op).1.Word/\(Lt.rOf op).1.Dst=(Lt.Of op).1.Dst/\(Lt.rOf op).1.Named=(Lt.Of op).1.Named/\(Lt.rOf op).1.Least=(Lt.Of op).1.Least/\(Lt.rOf op).1.Most=(Lt.Of op).1.Most:=by
 by_cases h:1<=op/\op<=34
 ·obtain ⟨k,rfl⟩:=Int.eq_ofNat_of_zero_le (show 0<=op by omega)
  have hk:k < 35:=by omega
  have:∀ k:Fin 35,1<=k.1->(Lt.rOf (k.1:Int)).2=(Lt.Of (k.1:Int)).2/\(Lt.rOf (k.1:Int)).1.Word=(Lt.Of (k.1:Int)).1.Word/\(Lt.rOf (k.1:Int)).1.Dst=(Lt.Of (k.1:Int)).1.Dst/\(Lt.rOf (k.1:Int)).1.Named=(Lt.Of (k.1:Int)).1.Named/\(Lt.rOf (k.1:Int)).1.Least=(Lt.Of (k.1:Int)).1.Least/\(Lt.rOf (k.1:Int)).1.Most=(Lt.Of (k.1:Int)).1.Most:=by decide +kernel
  exact this ⟨k,hk⟩ (by show 1<=k; omega)
 ·unfold Lt.rOf Lt.Of
  rw [if_pos (by omega)]
  repeat rw [if_neg (by omega)]
  exact ⟨rfl,rfl,rfl,rfl,rfl,rfl⟩
end Go.Am
end

section
namespace Go.Am
open Go
set_option linter.unusedVariables false
set_option linter.unusedSimpArgs false
def short (s:List UInt8):Prop:=s.length<=140737488355328
def sVar (v:Lt.Var):Prop:=short v.Name/\short v.Type_
def sArg (a:Lt.Arg):Prop:=short a.S
def sBind (b:Lt.Bind):Prop:=short b.Name/\sArg b.A
def sFrame (f:Lt.Frame):Prop:=short f.Func/\short f.Block/\∀ b∈f.Vars,sBind b
def sObj (o:Lt.Virt):Prop:=short o.Class/\∀ a∈o.Vals,sArg a
def sInstr (x:Lt.Instr):Prop:=short x.Dst/\short x.Name/\(∀ a∈x.Args,sArg a)/\(∀ f∈x.Frames,sFrame f)/\∀ o∈x.Objs,sObj o
def sIn (b:Lt.In):Prop:=short b.Block/\sArg b.A
def sPhi (x:Lt.Phi):Prop:=short x.Dst/\∀ i∈x.Ins,sIn i
def sBlock (b:Lt.Block):Prop:=short b.Name/\sArg b.End.A/\(∀ t∈b.End.To,short t)/\(∀ x∈b.Phis,sPhi x)/\∀ i∈b.Code,sInstr i
def sFunc (f:Lt.Func):Prop:=short f.Name/\short f.Result/\(∀ v∈f.Params,sVar v)/\(∀ v∈f.Vars,sVar v)/\∀ b∈f.Blocks,sBlock b
def sClass (c:Lt.Class):Prop:=short c.Name/\∀ v∈c.Fields,sVar v
end Go.Am
end

section
namespace Go.Am
open Go
set_option linter.unusedVariables false
set_option linter.unusedSimpArgs false
theorem hexR_len:∀ (k:Nat) (x:Int) (l:List UInt8),(Lt.hexR k x l).length=k+l.length
 | 0,_,_=>by simp [Lt.hexR]
 | k+1,x,l=>by rw [Lt.hexR,hexR_len k]; simp; omega
theorem gw_len (n:Nat):(gw.getD n default).length<=10:=by
 have h:∀ w∈gw,w.length<=10:=by decide
 rw [List.getD]
 cases hn:gw[n]? with
 | none=>simp; exact Nat.zero_le _
 | some w=>
  simp only [Option.getD_some]
  exact h w (List.mem_of_getElem? hn)
end Go.Am
end

section
namespace Go.Am
open Go
set_option linter.unusedVariables false
set_option linter.unusedSimpArgs false
theorem digs_digit:∀ (n:Nat),∀ c∈Lt.digs n,48<=c.toNat/\c.toNat<=57:=by
 intro n
 induction n using Nat.strongRecOn with
 | _ n ih=>
  have hd:∀ k:Nat,k < 10->(UInt8.ofNat (48+k)).toNat=48+k:=fun k hk=>by simp; omega
  by_cases h:n < 10
  ·rw [digs_small h]
   intro c hc
   rw [List.mem_singleton.1 hc,hd n h]; omega
  ·rw [digs_big h]
   intro c hc
   rcases List.mem_append.1 hc with hc | hc
   ·exact ih (n / 10) (by omega) c hc
   ·rw [List.mem_singleton.1 hc,hd _ (Nat.mod_lt _ (by decide))]
    have:=Nat.mod_lt n (show 10 > 0 by decide); omega
theorem digs_ne (n:Nat):Lt.digs n≠[]:=by
 by_cases h:n < 10
 ·rw [digs_small h]; simp
 ·rw [digs_big h]; simp
theorem numB_eq {m:Nat} {c:UInt8} (h1:48<=c.toNat) (h2:c.toNat<=57) (h3:10*m+(c.toNat - 48) < 18446744073709551616):Lt.sNumB (m:Int) c=((10*m+(c.toNat - 48):Nat):Int):=by
 unfold Lt.sNumB
 simp only [IntKind.wrap,IntKind.signed,IntKind.bits]
 simp
 omega
theorem digs_fold:∀ (n:Nat),n < 18446744073709551616->(Lt.digs n).foldl Lt.sNumB 0=(n:Int):=by
 intro n
 induction n using Nat.strongRecOn with
 | _ n ih=>
  intro hn
  have hd:∀ k:Nat,k < 10->(UInt8.ofNat (48+k)).toNat=48+k:=fun k hk=>by simp; omega
  by_cases h:n < 10
  ·rw [digs_small h]
   show Lt.sNumB ((0:Nat):Int) _=_
   rw [numB_eq (by rw [hd n h]; omega) (by rw [hd n h]; omega) (by rw [hd n h]; omega),hd n h]; omega
  ·rw [digs_big h,foldl_snoc,ih (n / 10) (by omega) (by omega)]
   have:=Nat.mod_lt n (show 10 > 0 by decide)
   rw [numB_eq (by rw [hd _ this]; omega) (by rw [hd _ this]; omega) (by rw [hd _ this]; omega),hd _ this]; omega
theorem numV_put {n:Int} (h:Lt.inR n):Lt.sNumV (Lt.numPut n)=n:=by
 have hl:=numPut_len h
 unfold Lt.inR at h
 have hne:=digs_ne n.natAbs
 have hdd:=digs_digit n.natAbs
 have hf:=digs_fold n.natAbs (by omega)
 unfold Lt.sNumV Lt.sNumD Lt.sHalf
 rw [List.take_of_length_le (show (Lt.numPut n).length<=30 by omega)]
 by_cases hn:n < 0
 ·have e:Lt.numPut n=45::Lt.digs n.natAbs:=by unfold Lt.numPut; rw [if_pos hn]; rfl
  rw [e]
  simp only [List.getD_cons_zero,if_true,List.drop_succ_cons,List.drop_zero]
  rw [hf]
  simp only [IntKind.wrap,IntKind.signed,IntKind.bits]
  simp
  omega
 ·have e:Lt.numPut n=Lt.digs n.natAbs:=by unfold Lt.numPut; rw [if_neg hn]; rfl
  rw [e]
  have h45:¬ (Lt.digs n.natAbs).getD 0 0=45:=by
   intro e
   cases hh:Lt.digs n.natAbs with
   | nil=>exact hne hh
   | cons a r=>
    rw [hh] at e hdd
    have:=hdd a (by simp)
    have e:a=45:=e
    subst e
    simp at this
  rw [if_neg h45,if_neg h45,hf]
  simp only [IntKind.wrap,IntKind.signed,IntKind.bits]
  simp
  omega
theorem sNum_put {n:Int} (h:Lt.inR n):Lt.sNum (Lt.numPut n)=(n,true):=by
 unfold Lt.sNum
 rw [numV_put h,if_pos (show Lt.rNum n=Lt.numPut n from rfl)]
theorem sNum_back {s:List UInt8} (h:(Lt.sNum s).2=true):Lt.numPut (Lt.sNum s).1=s:=by
 unfold Lt.sNum at h ⊢
 split at h
 ·rename_i hc; rw [if_pos hc]; exact hc
 ·cases h
theorem numPut_byte (n:Int):∀ c∈Lt.numPut n,c=45\/(48<=c.toNat/\c.toNat<=57):=by
 intro c hc
 unfold Lt.numPut at hc
 rcases List.mem_append.1 hc with hc | hc
 ·split at hc
  ·exact .inl (List.mem_singleton.1 hc)
  ·cases hc
 ·exact .inr (digs_digit _ c hc)
theorem numPut_ne (n:Int):Lt.numPut n≠[]:=by
 unfold Lt.numPut
 have:=digs_ne n.natAbs
 simp [this]
theorem hexN_val (k:Nat):(if 97<=(IntKind.u64.wrap (((hexN k).toNat:Nat):Int)) then IntKind.u64.wrap ((IntKind.u64.wrap (((hexN k).toNat:Nat):Int)) - 87) else IntKind.u64.wrap ((IntKind.u64.wrap (((hexN k).toNat:Nat):Int)) - 48))=((k % 16:Nat):Int):=by
 unfold hexN
 have h:k % 16 < 16:=Nat.mod_lt _ (by decide)
 generalize k % 16=j at h
 have:∀ j:Fin 16,(if 97<=(IntKind.u64.wrap (((hexT.getD j.1 0).toNat:Nat):Int)) then IntKind.u64.wrap ((IntKind.u64.wrap (((hexT.getD j.1 0).toNat:Nat):Int)) - 87) else IntKind.u64.wrap ((IntKind.u64.wrap (((hexT.getD j.1 0).toNat:Nat):Int)) - 48))=((j.1:Nat):Int):=by decide
 exact this ⟨j,h⟩
theorem floB_eq {u k:Nat} (h:16*u+15 < 18446744073709551616):Lt.sFloB (u:Int) (hexN k)=((16*u+k % 16:Nat):Int):=by
 unfold Lt.sFloB
 rw [hexN_val]
 have e:Int.tmod ((k % 16:Nat):Int) 16=((k % 16:Nat):Int):=by
  rw [show Int.tmod ((k % 16:Nat):Int) 16=((k % 16 % 16:Nat):Int) from rfl,Nat.mod_mod]
 rw [e]
 have h16:=Nat.mod_lt k (show 16 > 0 by decide)
 rw [show ((u:Nat):Int)*16=((16*u:Nat):Int) by omega,wrapu_small (by omega),show ((16*u:Nat):Int)+((k % 16:Nat):Int)=((16*u+k % 16:Nat):Int) by omega,wrapu_small (by omega)]
theorem hexR_fold:∀ (k m:Nat) (l:List UInt8),m < 18446744073709551616->k<=16->(Lt.hexR k (m:Int) l).foldl Lt.sFloB 0=l.foldl Lt.sFloB ((m % 16 ^ k:Nat):Int)
 | 0,m,l,_,_=>by simp [Lt.hexR,Nat.mod_one]
 | k+1,m,l,h,hk=>by
  rw [Lt.hexR,show Int.tdiv (m:Int) 16=((m / 16:Nat):Int) from rfl,wrapu_small (by omega),hexR_fold k (m / 16) _ (by omega) (by omega),hexB_eq,List.foldl_cons]
  have hp:16 ^ k<=16 ^ 15:=Nat.pow_le_pow_right (by decide) (by omega)
  have hm:=Nat.mod_lt (m / 16) (show 16 ^ k > 0 from Nat.pow_pos (by decide))
  have h15:(16:Nat) ^ 15=1152921504606846976:=by decide
  rw [floB_eq (by omega)]
  congr 2
  rw [Nat.pow_succ,Nat.mul_comm (16 ^ k) 16,Nat.mod_mul]
  omega
theorem plain_inR {n:Int} (h:Lt.inR n):Lt.inR (Lt.rPlain n):=by
 unfold Lt.rPlain Lt.inR at *
 split <;> omega
theorem floV_put {n:Int} (h:Lt.inR n):Lt.sFloV (Lt.rFlo n)=Lt.rPlain n:=by
 have hp:=plain_inR h
 unfold Lt.inR at hp
 unfold Lt.sFloV Lt.rFlo
 have hx:IntKind.u64.wrap (Lt.rPlain n)=(((IntKind.u64.wrap (Lt.rPlain n)).toNat:Nat):Int):=by
  rw [wrapu_eq]; rfl
 have hlt:(IntKind.u64.wrap (Lt.rPlain n)).toNat < 18446744073709551616:=by
  rw [wrapu_eq]; exact BitVec.isLt _
 have hl:=hexR_len 16 (IntKind.u64.wrap (Lt.rPlain n)) []
 have ed:([48,102]++Lt.hexR 16 (IntKind.u64.wrap (Lt.rPlain n)) []).drop 2=Lt.hexR 16 (IntKind.u64.wrap (Lt.rPlain n)) []:=rfl
 rw [ed,List.take_of_length_le (by rw [hl]; simp),hx,hexR_fold 16 _ _ hlt (by omega)]
 simp only [List.foldl_nil]
 have h16:(16:Nat) ^ 16=18446744073709551616:=by decide
 rw [h16,Nat.mod_eq_of_lt hlt,<- hx]
 simp only [IntKind.wrap,IntKind.signed,IntKind.bits]
 simp
 omega
theorem rFlo_len (n:Int):(Lt.rFlo n).length=18:=by rw [flo_eq]; exact floPut_len n
theorem rFlo_plain (n:Int):Lt.rFlo (Lt.rPlain n)=Lt.rFlo n:=by
 unfold Lt.rFlo
 have:Lt.rPlain (Lt.rPlain n)=Lt.rPlain n:=by
  unfold Lt.rPlain
  by_cases h:Lt.rIsNan n=true
  ·rw [if_pos h]; simp
  ·rw [if_neg h,if_neg h]
 rw [this]
theorem sFlo_put {n:Int} (h:Lt.inR n):Lt.sFlo (Lt.rFlo n)=(Lt.rPlain n,true):=by
 unfold Lt.sFlo
 rw [floV_put h,if_pos ⟨rFlo_len n,rFlo_plain n⟩]
theorem sTry_iff (s:List UInt8) (a:Lt.Arg):Lt.sTry s a=true ↔ Lt.wordRight a=true/\Lt.wordPut a=s:=by
 unfold Lt.sTry
 rw [right_eq,word_eq]; simp
theorem word2 {n:Int}:Lt.wordPut ⟨2,[],n⟩=Lt.numPut n:=by simp [Lt.wordPut,Lt.wordRight]
theorem word3 {n:Int} (h:Lt.Plain n=n):Lt.wordPut ⟨3,[],n⟩=Lt.floPut n:=by simp [Lt.wordPut,Lt.wordRight,h]
theorem word4:Lt.wordPut ⟨4,[],0⟩=[110,117,108,108]:=by decide
theorem word5 {n:Int} (h0:0<=n) (h1:n<=999):Lt.wordPut ⟨5,[],n⟩=35::Lt.numPut n:=by simp [Lt.wordPut,Lt.wordRight,h0,h1]
theorem word1 {s:List UInt8} (h:Lt.Name s=true):Lt.wordPut ⟨1,s,0⟩=s:=by simp [Lt.wordPut,Lt.wordRight,h]
theorem try1 (s:List UInt8):Lt.sTry s ⟨1,s,0⟩=Lt.Name s:=by
 unfold Lt.sTry
 rw [right_eq,word_eq]
 by_cases h:Lt.Name s=true
 ·rw [word1 h]; simp [Lt.wordRight,h]
 ·simp [Lt.wordRight,h]
theorem sArg_back {s:List UInt8} (h:(Lt.sArg s).2=true):Lt.wordRight (Lt.sArg s).1=true/\Lt.wordPut (Lt.sArg s).1=s:=by
 unfold Lt.sArg at h ⊢
 split at h
 ·rename_i hc; rw [if_pos hc]; exact (sTry_iff _ _).1 hc
 rename_i n1; rw [if_neg n1]
 split at h
 ·rename_i hc; rw [if_pos hc]; exact (sTry_iff _ _).1 hc
 rename_i n2; rw [if_neg n2]
 split at h
 ·rename_i hc; rw [if_pos hc]; exact (sTry_iff _ _).1 hc
 rename_i n3; rw [if_neg n3]
 split at h
 ·rename_i hc; rw [if_pos hc]; exact (sTry_iff _ _).1 hc
 rename_i n4; rw [if_neg n4]
 split at h
 ·rename_i hc; rw [if_pos hc]; exact (sTry_iff _ _).1 hc
 ·cases h
theorem argOk_back {objs:Bool} {s:List UInt8} (h:Lt.argOk objs s=true):Lt.argRight objs (Lt.sArg s).1=true:=by
 unfold Lt.argOk at h
 simp only [Bool.and_eq_true] at h
 unfold Lt.argRight
 rw [(sArg_back h.1).1]
 simpa using h.2
theorem sArgs_back {objs:Bool} {l:List (List UInt8)} (h:(Lt.sArgs l objs).2=true):Lt.showArgs (Lt.sArgs l objs).1 objs=true/\(Lt.sArgs l objs).1.length=l.length/\Lt.puts (Lt.sArgs l objs).1=l:=by
 unfold Lt.sArgs at h ⊢
 split at h
 ·rename_i hc
  rw [if_pos hc]
  rw [List.all_eq_true] at hc
  refine ⟨?_,by simp,?_⟩
  ·unfold Lt.showArgs
   rw [List.all_eq_true]
   intro a ha
   obtain ⟨w,hw,rfl⟩:=List.mem_map.1 ha
   exact argOk_back (hc w hw)
  ·unfold Lt.puts
   rw [List.map_map]
   have:∀ w∈l,(Lt.wordPut ∘ (fun w=>(Lt.sArg w).1)) w=id w:=fun w hw=>by
    have:=hc w hw
    unfold Lt.argOk at this
    simp only [Bool.and_eq_true] at this
    exact (sArg_back this.1).2
   rw [List.map_congr_left this,List.map_id]
 ·cases h
theorem pairsG_back {objs:Bool}:∀ {l:List (List UInt8)} {x:List Lt.Bind},Lt.sPairsG objs l=some x->(∀ b∈x,Lt.Name b.Name=true/\Lt.argRight objs b.A=true)/\(x.flatMap fun b=>[b.Name,Lt.wordPut b.A])=l
 | [],x,h=>by
  have:x=[]:=by simpa [Lt.sPairsG] using h.symm
  subst this; simp
 | [_],x,h=>by simp [Lt.sPairsG] at h
 | a::b::r,x,h=>by
  rw [Lt.sPairsG] at h
  split at h
  ·rename_i hc
   rw [Bool.and_eq_true,rName_eq] at hc
   cases hr:Lt.sPairsG objs r with
   | none=>simp [hr] at h
   | some y=>
    obtain ⟨k1,k2⟩:=pairsG_back hr
    simp [hr] at h
    subst h
    refine ⟨?_,?_⟩
    ·intro z hz
     rcases List.mem_cons.1 hz with rfl | hz
     ·exact ⟨hc.1,argOk_back hc.2⟩
     ·exact k1 z hz
    ·rw [List.flatMap_cons,k2]
     have:=hc.2
     unfold Lt.argOk at this
     simp only [Bool.and_eq_true] at this
     rw [(sArg_back this.1).2]; rfl
  ·simp at h
theorem opG_back (w:List UInt8):∀ (l:List (List UInt8)) (n m:Int),Lt.sOpG w l n=(m,true)->∃ i:Nat,i<l.length/\m=n+(i:Int)/\l.getD i []=w
 | [],n,m,h=>by simp [Lt.sOpG] at h
 | x::r,n,m,h=>by
  rw [Lt.sOpG] at h
  split at h
  ·rename_i hx
   exact ⟨0,by simp,by simp at h; omega,by simpa using hx⟩
  ·obtain ⟨i,h1,h2,h3⟩:=opG_back w r _ _ h
   exact ⟨i+1,by simp; omega,by omega,by simpa using h3⟩
theorem sOp_back {w:List UInt8} (h:(Lt.sOp w).2=true):(1<=(Lt.sOp w).1/\(Lt.sOp w).1<=34)/\(Lt.Of (Lt.sOp w).1).1.Word=w/\(Lt.Of (Lt.sOp w).1).2=true:=by
 have e:Lt.sOp w=((Lt.sOp w).1,true):=by rw [<- h]
 obtain ⟨i,h1,h2,h3⟩:=opG_back w (gw.drop 1) 1 (Lt.sOp w).1 e
 have hi:i < 34:=h1
 have ho:=rOf_eq (Lt.sOp w).1
 have hr1:(Lt.rOf (Lt.sOp w).1).1.Word=gw.getD (Lt.sOp w).1.toNat default:=by
  unfold Lt.rOf; rw [if_neg (by omega)]
 have hr2:(Lt.rOf (Lt.sOp w).1).2=true:=by
  unfold Lt.rOf; rw [if_neg (by omega)]
 refine ⟨by omega,?_,?_⟩
 ·rw [<- ho.2.1,hr1,h2,<- h3,show (1+(i:Int)).toNat=1+i by omega,List.getD,List.getD,List.getElem?_drop]; rfl
 ·rw [<- ho.1,hr2]
end Go.Am
end

section
namespace Go.Am
open Go
set_option linter.unusedVariables false
set_option linter.unusedSimpArgs false
end Go.Am
end

section
namespace Go.Am
open Go
set_option linter.unusedVariables false
set_option linter.unusedSimpArgs false
theorem exQ_if {β:Type} (c:Bool) (x:β) (n:Int) (K:β->Prop) (KP:Value->Prop):exQ (if c=true then .ok x else .error (Lt.flt n)) K KP=if c=true then K x else KP (Lt.flt n):=by
 cases c <;> rfl
theorem law_yName (w:List UInt8) (KK:List UInt8->Prop) (KP:Value->Prop) (h:exQ (Lt.yName w) KK KP):F_yName w KK KP:=by
 unfold F_yName
 unfold Lt.yName at h
 rw [exQ_if] at h
 cases hn:Lt.Name w <;> simpa [hn] using h
theorem law_yKind (w:List UInt8) (KK:List UInt8->Prop) (KP:Value->Prop) (h:exQ (Lt.yKind w) KK KP):F_yKind w KK KP:=by
 unfold F_yKind
 unfold Lt.yKind at h
 rw [exQ_if] at h
 simp only [jn_app,jn_ite,jn_const,Bool.not_true,Bool.false_eq_true,if_false]
 unfold Lt.sKind at h
 rw [rName_eq] at h
 cases hn:Lt.Name w <;> by_cases h1:w=[105,110,116] <;> by_cases h2:w=[102,108,111,97,116] <;> simpa [hn,h1,h2] using h
theorem law_yHas (l:List Int) (n:Int) (KK:Bool->Prop) (h:KK (Lt.yHas l n)):F_yHas l n KK:=by
 unfold F_yHas
 refine fun hl=>drop_loopS l hl (fun (_:Unit) i=>i) (fun t _=>t.contains n) KK _ (fun R _ i hi ih h=>?_) (fun R _ h=>?_) () h
 ·simp only [lt_t hi,if_true,Int.toNat_natCast]
  refine ⟨⟨Int.natCast_nonneg i,hi⟩,?_⟩
  by_cases hc:l.getD i default=n
  ·rw [if_pos (by simpa using hc)]
   rw [List.contains_cons,hc] at h
   simpa using h
  ·rw [if_neg (by simpa using hc)]
   refine ih () ?_
   rw [List.contains_cons,show (n==l.getD i default)=false from beq_eq_false_iff_ne.2 (fun e=>hc e.symm),Bool.false_or] at h
   exact h
 ·simp only [lt_f,Bool.false_eq_true,if_false]; exact h
theorem law_yNumber (w:List UInt8) (a b:Int) (KK:Int->Prop) (KP:Value->Prop) (h:exQ (Lt.yNumber w a b) KK KP):F_yNumber w a b KK KP:=by
 unfold F_yNumber
 unfold Lt.yNumber at h
 rw [exQ_if] at h
 dsimp +instances only [Lt.numGet]
 cases h1:(Lt.sNum w).2 <;> by_cases h2:a<=(Lt.sNum w).1 <;> by_cases h3:(Lt.sNum w).1<=b <;> simpa [h1,h2,h3,jn_app,jn_const] using h
theorem law_yArg (w:List UInt8) (o:Bool) (KK:Lt.Arg->Prop) (KP:Value->Prop) (h:exQ (Lt.yArg w o) KK KP):F_yArg w o KK KP:=by
 unfold F_yArg
 unfold Lt.yArg at h
 rw [exQ_if] at h
 unfold Lt.argOk at h
 dsimp +instances only [Lt.wordGet]
 cases h1:(Lt.sArg w).2 <;> cases o <;> by_cases h2:(Lt.sArg w).1.Kind=5 <;> simpa [h1,h2,jn_app,jn_const] using h
theorem law_wordNumber (s:List UInt8) (KK:Lt.Arg×Bool->Prop) (h:KK (Lt.wordNumber s)):F_wordNumber s KK:=by
 unfold F_wordNumber
 unfold Lt.wordNumber at h
 simp only [Lt.floGet,Lt.numGet]
 grind
end Go.Am
end

section
namespace Go.Am
open Go
set_option linter.unusedVariables false
set_option linter.unusedSimpArgs false
section
variable {r:Lt.Reader} {w:Int} (K:Unit->Lt.Reader->Prop) (KP:Value->Lt.Reader->Prop)
theorem res_ite (c:Prop) [Decidable c] (x y:Int×Lt.Read):exP (Lt.yRes r (if c then x else y) w) K KP=if c then exP (Lt.yRes r x w) K KP else exP (Lt.yRes r y w) K KP:=by split <;> rfl
theorem res_3 (x:Lt.Read):exP (Lt.yRes r (3,x) w) K KP=KP (Lt.flt 3) r:=rfl
theorem res_2 (x:Lt.Read):exP (Lt.yRes r (2,x) w) K KP=KP (Lt.flt 2) r:=rfl
theorem res_0 (x:Lt.Read):exP (Lt.yRes r (0,x) w) K KP=K () ⟨x.P,r.at_,w,r.first,x.Long⟩:=rfl
theorem res_20 (c:Prop) [Decidable c] (x:Lt.Read):exP (Lt.yRes r (if c then 2 else 0,x) w) K KP=if c then KP (Lt.flt 2) r else K () ⟨x.P,r.at_,w,r.first,x.Long⟩:=by split <;> rfl
end
theorem has_01 {r:Lt.Reader} (hw:0<=r.where_/\r.where_<=7):Lt.yHas [0,1] r.where_=r.abs.out:=by
 unfold Lt.yHas Lt.Read.out Lt.Reader.abs
 dsimp only
 by_cases h0:r.where_=0
 ·rw [if_pos h0]; by_cases hl:0<=r.long <;> simp [h0,hl]
 ·rw [if_neg h0]
  by_cases h1:r.where_=1
  ·simp [h1]
  ·rw [if_neg h1]
   have a:¬ r.where_+1<=2:=by omega
   have b:¬ r.where_+1=9:=by omega
   simp [a,b,h0,h1]
theorem exQ_name (w:List UInt8) (K:List UInt8->Prop) (KP:Value->Prop):exQ (Lt.yName w) K KP=if Lt.rName w=true then K w else KP (Lt.flt 3):=by
 unfold Lt.yName; rw [exQ_if,rName_eq]
theorem abs_P (r:Lt.Reader):r.abs.P=r.p:=rfl
theorem abs_L (r:Lt.Reader):r.abs.Long=r.long:=rfl
theorem law_yClass (r:Lt.Reader) (l:List (List UInt8)) (hp:Lt.preReader r l) (KK:Unit×Lt.Reader->Prop) (KP:Value->Lt.Reader->Prop) (h:exP (Lt.yClass r l) (fun z x=>KK (z,x)) KP):F_yClass r l KK KP:=by
 obtain ⟨⟨hi,hw,_,_⟩,hne,hr⟩:=hp
 unfold F_yClass
 unfold Lt.yClass at h
 unfold Lt.sClass at h
 simp only [res_ite,res_3,res_2,res_0] at h
 simp only [has_01 hw,exQ_name,show l.getD 1 default=Lt.w1 l from rfl]
 generalize Lt.rName (Lt.w1 l)=nm at h ⊢
 generalize r.abs.out=o at h ⊢
 cases o with
 | false=>simpa using h
 | true=>
  refine ifk (fun hc=>by simp at hc) (fun _=>fun _=>?_)
  by_cases h2:l.length=2
  ·refine ifk (fun hc=>by simp [h2] at hc) (fun _=>⟨⟨by decide,by omega⟩,trivial,?_⟩)
   cases nm with
   | false=>simpa using h
   | true=>
    rw [if_neg (by simp [h2])] at h
    simp only [if_true,jn_app,jn_and,and_self]
    refine fun _=>ifk (fun hc=>?_) (fun hc=>?_)
    ·rw [if_pos (show 8<=r.abs.P.Classes.length by rw [abs_P]; simp only [decide_eq_true_eq] at hc; omega)] at h; exact h
    ·rw [if_neg (show ¬ 8<=r.abs.P.Classes.length by rw [abs_P]; simp only [decide_eq_true_eq] at hc; omega)] at h
     have h8:r.p.Classes.length < 8:=by simp only [decide_eq_true_eq] at hc; omega
     rw [List.length_singleton]
     exact ⟨⟨by omega,by omega⟩,h⟩
  ·rw [if_pos (by simp [h2])] at h
   exact ifk (fun _=>h) (fun hc=>by simp at hc; omega)
theorem exQ_kind (w:List UInt8) (K:List UInt8->Prop) (KP:Value->Prop):exQ (Lt.yKind w) K KP=if Lt.sKind w=true then K w else KP (Lt.flt 3):=by
 unfold Lt.yKind; rw [exQ_if]
theorem law_yGlobal (r:Lt.Reader) (l:List (List UInt8)) (hp:Lt.preReader r l) (KK:Unit×Lt.Reader->Prop) (KP:Value->Lt.Reader->Prop) (h:exP (Lt.yGlobal r l) (fun z x=>KK (z,x)) KP):F_yGlobal r l KK KP:=by
 obtain ⟨⟨hi,hw,_,_⟩,hne,hr⟩:=hp
 have h8:=hi.1
 unfold F_yGlobal
 unfold Lt.yGlobal Lt.sGlobal Lt.sTyped at h
 simp only [res_ite,res_3,res_20] at h
 dsimp only
 simp only [has_01 hw,exQ_name,exQ_kind,show l.getD 1 default=Lt.w1 l from rfl,show l.getD 2 default=Lt.w2 l from rfl,show l.getD 1 []=Lt.w1 l from rfl,show l.getD 2 []=Lt.w2 l from rfl,jn_app,jn_and,jn_imp,jn_ite,jn_const,and_self,true_and] at h ⊢
 generalize Lt.rName (Lt.w1 l)=nm at h ⊢
 generalize Lt.sKind (Lt.w2 l)=kd at h ⊢
 generalize r.abs.out=o at h ⊢
 cases o with
 | false=>simpa using h
 | true=>
  refine ifk (fun hc=>by simp at hc) (fun _=>fun _=>?_)
  by_cases h3:l.length=3
  ·refine ifk (fun hc=>by simp [h3] at hc) (fun _=>⟨⟨by decide,by omega⟩,⟨by decide,by omega⟩,?_⟩)
   cases nm with
   | false=>simpa using h
   | true=>
    cases kd with
    | false=>simpa [h3] using h
    | true=>
     rw [if_neg (by simp [h3])] at h
     simp only [if_true]
     refine fun _=>ifk (fun hc=>?_) (fun hc=>?_)
     ·rw [if_pos (show 8<=r.abs.P.Globals.length by rw [abs_P]; simp only [decide_eq_true_eq] at hc; omega)] at h; exact h
     ·rw [if_neg (show ¬ 8<=r.abs.P.Globals.length by rw [abs_P]; simp only [decide_eq_true_eq] at hc; omega)] at h
      have h9:r.p.Globals.length < 8:=by simp only [decide_eq_true_eq] at hc; omega
      rw [List.length_singleton]
      exact ⟨⟨by omega,by omega⟩,h⟩
  ·rw [if_pos (by simp [h3])] at h
   exact ifk (fun _=>h) (fun hc=>by simp at hc; omega)
theorem law_yFunction (r:Lt.Reader) (l:List (List UInt8)) (hp:Lt.preReader r l) (KK:Unit×Lt.Reader->Prop) (KP:Value->Lt.Reader->Prop) (h:exP (Lt.yFunction r l) (fun z x=>KK (z,x)) KP):F_yFunction r l KK KP:=by
 obtain ⟨⟨hi,hw,_,_⟩,hne,hr⟩:=hp
 have h8:=hi.1
 unfold F_yFunction
 unfold Lt.yFunction Lt.sFunc Lt.sTyped at h
 simp only [res_ite,res_3,res_20] at h
 dsimp only
 simp only [has_01 hw,exQ_name,exQ_kind,show l.getD 1 default=Lt.w1 l from rfl,show l.getD 2 default=Lt.w2 l from rfl,show l.getD 1 []=Lt.w1 l from rfl,show l.getD 2 []=Lt.w2 l from rfl,jn_app,jn_and,jn_imp,jn_ite,jn_const,and_self,true_and] at h ⊢
 generalize Lt.rName (Lt.w1 l)=nm at h ⊢
 generalize Lt.sKind (Lt.w2 l)=kd at h ⊢
 generalize r.abs.out=o at h ⊢
 cases o with
 | false=>simpa using h
 | true=>
  refine ifk (fun hc=>by simp at hc) (fun _=>fun _=>?_)
  by_cases h3:l.length=3
  ·refine ifk (fun hc=>by simp [h3] at hc) (fun _=>⟨⟨by decide,by omega⟩,⟨by decide,by omega⟩,?_⟩)
   cases nm with
   | false=>simpa using h
   | true=>
    cases kd with
    | false=>simpa [h3] using h
    | true=>
     rw [if_neg (by simp [h3])] at h
     simp only [if_true]
     refine fun _=>ifk (fun hc=>?_) (fun hc=>?_)
     ·rw [if_pos (show 8<=r.abs.P.Funcs.length by rw [abs_P]; simp only [decide_eq_true_eq] at hc; omega)] at h; exact h
     ·rw [if_neg (show ¬ 8<=r.abs.P.Funcs.length by rw [abs_P]; simp only [decide_eq_true_eq] at hc; omega)] at h
      have h9:r.p.Funcs.length < 8:=by simp only [decide_eq_true_eq] at hc; omega
      rw [List.length_singleton]
      exact ⟨⟨by omega,by omega⟩,h⟩
  ·rw [if_pos (by simp [h3])] at h
   exact ifk (fun _=>h) (fun hc=>by simp at hc; omega)
theorem exQ_number (w:List UInt8) (a b:Int) (K:Int->Prop) (KP:Value->Prop):exQ (Lt.yNumber w a b) K KP=if ((Lt.sNum w).2&&decide (a<=(Lt.sNum w).1)&&decide ((Lt.sNum w).1<=b))=true then K (Lt.sNum w).1 else KP (Lt.flt 3):=by
 unfold Lt.yNumber; rw [exQ_if,Bool.and_assoc]
theorem law_yExtern (r:Lt.Reader) (l:List (List UInt8)) (hp:Lt.preReader r l) (KK:Unit×Lt.Reader->Prop) (KP:Value->Lt.Reader->Prop) (h:exP (Lt.yExtern r l) (fun z x=>KK (z,x)) KP):F_yExtern r l KK KP:=by
 obtain ⟨⟨hi,hw,_,_⟩,hne,hr⟩:=hp
 unfold F_yExtern
 unfold Lt.yExtern Lt.sExtern at h
 simp only [res_ite,res_3,res_20] at h
 dsimp only
 simp only [has_01 hw,exQ_name,exQ_number,show l.getD 1 default=Lt.w1 l from rfl,show l.getD 2 default=Lt.w2 l from rfl,jn_app,jn_and,jn_imp,jn_ite,jn_const,and_self,true_and] at h ⊢
 generalize Lt.rName (Lt.w1 l)=nm at h ⊢
 generalize ((Lt.sNum (Lt.w2 l)).2&&decide (0<=(Lt.sNum (Lt.w2 l)).1)&&decide ((Lt.sNum (Lt.w2 l)).1<=8))=kd at h ⊢
 generalize r.abs.out=o at h ⊢
 cases o with
 | false=>simpa using h
 | true=>
  refine ifk (fun hc=>by simp at hc) (fun _=>fun _=>?_)
  by_cases h3:l.length=3
  ·refine ifk (fun hc=>by simp [h3] at hc) (fun _=>⟨⟨by decide,by omega⟩,⟨by decide,by omega⟩,?_⟩)
   cases nm with
   | false=>simpa using h
   | true=>
    cases kd with
    | false=>simpa [h3] using h
    | true=>
     rw [if_neg (by simp [h3])] at h
     simp only [if_true]
     refine fun _=>ifk (fun hc=>?_) (fun hc=>?_)
     ·rw [if_pos (show 8<=r.abs.P.Externs.length by rw [abs_P]; simp only [decide_eq_true_eq] at hc; omega)] at h; exact h
     ·rw [if_neg (show ¬ 8<=r.abs.P.Externs.length by rw [abs_P]; simp only [decide_eq_true_eq] at hc; omega)] at h
      have h9:r.p.Externs.length < 8:=by simp only [decide_eq_true_eq] at hc; omega
      rw [List.length_singleton]
      exact ⟨⟨by omega,by omega⟩,h⟩
  ·rw [if_pos (by simp [h3])] at h
   exact ifk (fun _=>h) (fun hc=>by simp at hc; omega)
theorem law_ySsa (r:Lt.Reader) (l:List (List UInt8)) (hp:Lt.preReader r l) (KK:Unit×Lt.Reader->Prop) (KP:Value->Lt.Reader->Prop) (h:exP (Lt.ySsa r l) (fun z x=>KK (z,x)) KP):F_ySsa r l KK KP:=by
 unfold F_ySsa
 unfold Lt.ySsa at h
 simp only [res_ite,res_3,res_0] at h
 simp only [jn_app,jn_and,jn_imp,jn_ite,jn_const]
 generalize r.first=f at h ⊢
 cases f with
 | false=>simpa using h
 | true=>
  by_cases h1:l.length=1
  ·simpa [h1,abs_L] using h
  ·rw [if_pos (by simp [h1])] at h
   rw [if_pos rfl]
   exact ifk (fun _=>h) (fun hc=>by simp at hc; omega)
end Go.Am
end

section
namespace Go.Am
open Go
set_option linter.unusedVariables false
set_option linter.unusedSimpArgs false
theorem has_n {r:Lt.Reader} (hw:0<=r.where_/\r.where_<=7) {n:Int} (h2:2<=n) (h7:n<=7):Lt.yHas [n] r.where_=decide (r.abs.Where=n+1):=by
 unfold Lt.yHas Lt.Reader.abs
 dsimp only
 rw [Bool.eq_iff_iff]
 simp only [List.contains_cons,List.contains_nil,Bool.or_false,beq_iff_eq,decide_eq_true_eq]
 by_cases h0:r.where_=0
 ·rw [if_pos h0]; split <;> omega
 ·rw [if_neg h0]; split <;> omega
theorem law_yParam (r:Lt.Reader) (l:List (List UInt8)) (hp:Lt.preReader r l) (KK:Unit×Lt.Reader->Prop) (KP:Value->Lt.Reader->Prop) (h:exP (Lt.yParam r l) (fun z x=>KK (z,x)) KP):F_yParam r l KK KP:=by
 obtain ⟨⟨hi,hw,_,_⟩,hne,hr⟩:=hp
 unfold F_yParam
 unfold Lt.yParam Lt.sParam Lt.sTyped at h
 simp only [res_ite,res_3,res_20] at h
 dsimp only
 simp only [has_n hw (n:=2) (by decide) (by decide),exQ_name,exQ_kind,show l.getD 1 default=Lt.w1 l from rfl,show l.getD 2 default=Lt.w2 l from rfl,show l.getD 1 []=Lt.w1 l from rfl,show l.getD 2 []=Lt.w2 l from rfl,jn_app,jn_and,jn_imp,jn_ite,jn_const,and_self,true_and] at h ⊢
 generalize Lt.rName (Lt.w1 l)=nm at h ⊢
 generalize Lt.sKind (Lt.w2 l)=kd at h ⊢
 by_cases hwh:r.abs.Where=3
 ·obtain ⟨hf,_,hp6,_⟩:=Inv_fun hi (by omega)
  have hf:r.p.Funcs≠[]:=hf
  have hf8:r.p.Funcs.length<=5000:=by have:r.p.Funcs.length<=8:=hi.2.1.2.2; omega
  have hp6:(r.p.Funcs.getD (r.p.Funcs.length - 1) default).Params.length<=6:=hp6
  simp only [wrap_last hf hf8,last_ob hf,last_lt hf,Int.toNat_natCast,true_and,and_self]
  refine ifk (fun hc=>by simp [hwh] at hc) (fun _=>fun _=>?_)
  by_cases h3:l.length=3
  ·refine ifk (fun hc=>by simp [h3] at hc) (fun _=>⟨⟨by decide,by omega⟩,⟨by decide,by omega⟩,?_⟩)
   cases nm with
   | false=>simpa [hwh] using h
   | true=>
    cases kd with
    | false=>simpa [h3,hwh] using h
    | true=>
     rw [if_neg (by simp [h3,hwh])] at h
     simp only [if_true]
     refine fun _=>fun _=>ifk (fun hc=>?_) (fun hc=>?_)
     ·rw [if_pos (show 6<=r.abs.curF.Params.length from (show 6<=(r.p.Funcs.getD (r.p.Funcs.length - 1) default).Params.length by simp only [decide_eq_true_eq] at hc; omega))] at h; exact h
     ·rw [if_neg (show ¬ 6<=r.abs.curF.Params.length from (show ¬ 6<=(r.p.Funcs.getD (r.p.Funcs.length - 1) default).Params.length by simp only [decide_eq_true_eq] at hc; omega))] at h
      rw [List.length_singleton]
      exact ⟨⟨by omega,by omega⟩,h⟩
  ·rw [if_pos (by simp [h3])] at h
   exact ifk (fun _=>h) (fun hc=>by simp at hc; omega)
 ·rw [if_pos (by simp [hwh])] at h
  exact ifk (fun _=>h) (fun hc=>by simp [hwh] at hc)
theorem has_23 {r:Lt.Reader} (hw:0<=r.where_/\r.where_<=7):Lt.yHas [2,3] r.where_=(decide (r.abs.Where=3)||decide (r.abs.Where=4)):=by
 have a:=has_n hw (n:=2) (by decide) (by decide)
 have b:=has_n hw (n:=3) (by decide) (by decide)
 unfold Lt.yHas at a b ⊢
 rw [show decide (r.abs.Where=3)=decide (r.abs.Where=2+1) from rfl,show decide (r.abs.Where=4)=decide (r.abs.Where=3+1) from rfl,<- a,<- b]
 simp only [List.contains_cons,List.contains_nil,Bool.or_false]
theorem has_1 {r:Lt.Reader} (hw:0<=r.where_/\r.where_<=7):Lt.yHas [1] r.where_=decide (r.abs.Where=1):=by
 unfold Lt.yHas Lt.Reader.abs
 dsimp only
 rw [Bool.eq_iff_iff]
 simp only [List.contains_cons,List.contains_nil,Bool.or_false,beq_iff_eq,decide_eq_true_eq]
 by_cases h0:r.where_=0
 ·rw [if_pos h0]; split <;> omega
 ·rw [if_neg h0]; split <;> omega
theorem law_yField (r:Lt.Reader) (l:List (List UInt8)) (hp:Lt.preReader r l) (KK:Unit×Lt.Reader->Prop) (KP:Value->Lt.Reader->Prop) (h:exP (Lt.yField r l) (fun z x=>KK (z,x)) KP):F_yField r l KK KP:=by
 obtain ⟨⟨hi,hw,_,_⟩,hne,hr⟩:=hp
 unfold F_yField
 unfold Lt.yField Lt.sField Lt.sTyped at h
 simp only [res_ite,res_3,res_2,res_0] at h
 dsimp only
 simp only [has_1 hw,exQ_name,exQ_kind,show l.getD 1 default=Lt.w1 l from rfl,show l.getD 2 default=Lt.w2 l from rfl,show l.getD 1 []=Lt.w1 l from rfl,show l.getD 2 []=Lt.w2 l from rfl,jn_app,jn_and,jn_imp,jn_ite,jn_const,and_self,true_and] at h ⊢
 generalize Lt.rName (Lt.w1 l)=nm at h ⊢
 generalize Lt.sKind (Lt.w2 l)=kd at h ⊢
 by_cases hwh:r.abs.Where=1
 ·have hf:r.abs.P.Classes≠[]:=hi.2.2.2.1 hwh
  have hf:r.p.Classes≠[]:=hf
  have hf8:r.p.Classes.length<=5000:=by have:r.p.Classes.length<=8:=hi.2.1.1; omega
  simp only [wrap_last hf hf8,last_ob hf,last_lt hf,Int.toNat_natCast,true_and,and_self]
  refine ifk (fun hc=>by simp [hwh] at hc) (fun _=>fun _=>?_)
  by_cases h3:l.length=3
  ·refine ifk (fun hc=>by simp [h3] at hc) (fun _=>⟨⟨by decide,by omega⟩,⟨by decide,by omega⟩,?_⟩)
   cases nm with
   | false=>simpa [hwh] using h
   | true=>
    cases kd with
    | false=>simpa [h3,hwh] using h
    | true=>
     rw [if_neg (by simp [h3,hwh])] at h
     simp only [if_true]
     refine fun _=>fun _=>ifk (fun hc=>?_) (fun hc=>?_)
     ·rw [if_pos (show 8<=(r.abs.P.Classes.getD (r.abs.P.Classes.length - 1) default).Fields.length from (show 8<=(r.p.Classes.getD (r.p.Classes.length - 1) default).Fields.length by simp only [decide_eq_true_eq] at hc; omega))] at h; exact h
     ·rw [if_neg (show ¬ 8<=(r.abs.P.Classes.getD (r.abs.P.Classes.length - 1) default).Fields.length from (show ¬ 8<=(r.p.Classes.getD (r.p.Classes.length - 1) default).Fields.length by simp only [decide_eq_true_eq] at hc; omega))] at h
      have h9:(r.p.Classes.getD (r.p.Classes.length - 1) default).Fields.length < 8:=by simp only [decide_eq_true_eq] at hc; omega
      rw [List.length_singleton]
      exact ⟨⟨by omega,by omega⟩,h⟩
  ·rw [if_pos (by simp [h3])] at h
   exact ifk (fun _=>h) (fun hc=>by simp at hc; omega)
 ·rw [if_pos (by simp [hwh])] at h
  exact ifk (fun _=>h) (fun hc=>by simp [hwh] at hc)
theorem law_yVariable (r:Lt.Reader) (l:List (List UInt8)) (hp:Lt.preReader r l) (KK:Unit×Lt.Reader->Prop) (KP:Value->Lt.Reader->Prop) (h:exP (Lt.yVariable r l) (fun z x=>KK (z,x)) KP):F_yVariable r l KK KP:=by
 obtain ⟨⟨hi,hw,_,_⟩,hne,hr⟩:=hp
 unfold F_yVariable
 unfold Lt.yVariable Lt.sVar Lt.sTyped at h
 simp only [res_ite,res_3,res_20] at h
 dsimp only
 simp only [has_23 hw,exQ_name,exQ_kind,show l.getD 1 default=Lt.w1 l from rfl,show l.getD 2 default=Lt.w2 l from rfl,show l.getD 1 []=Lt.w1 l from rfl,show l.getD 2 []=Lt.w2 l from rfl,jn_app,jn_and,jn_imp,jn_ite,jn_const,and_self,true_and] at h ⊢
 generalize Lt.rName (Lt.w1 l)=nm at h ⊢
 generalize Lt.sKind (Lt.w2 l)=kd at h ⊢
 by_cases hwh:(r.abs.Where=3\/r.abs.Where=4)
 ·have hb:(decide (r.abs.Where=3)||decide (r.abs.Where=4))=true:=by simpa using hwh
  obtain ⟨hf,_,_,hp6,_⟩:=Inv_fun hi (by omega)
  have hf:r.p.Funcs≠[]:=hf
  have hf8:r.p.Funcs.length<=5000:=by have:r.p.Funcs.length<=8:=hi.2.1.2.2; omega
  have hp6:(r.p.Funcs.getD (r.p.Funcs.length - 1) default).Vars.length<=1024:=hp6
  simp only [wrap_last hf hf8,last_ob hf,last_lt hf,Int.toNat_natCast,true_and,and_self]
  refine ifk (fun hc=>by rw [hb] at hc; simp at hc) (fun _=>fun _=>?_)
  by_cases h3:l.length=3
  ·refine ifk (fun hc=>by simp [h3] at hc) (fun _=>⟨⟨by decide,by omega⟩,⟨by decide,by omega⟩,?_⟩)
   cases nm with
   | false=>simpa [hb] using h
   | true=>
    cases kd with
    | false=>simpa [h3,hb] using h
    | true=>
     rw [if_neg (by simp [h3,hb])] at h
     simp only [if_true]
     refine fun _=>fun _=>ifk (fun hc=>?_) (fun hc=>?_)
     ·rw [if_pos (show 1024<=r.abs.curF.Vars.length from (show 1024<=(r.p.Funcs.getD (r.p.Funcs.length - 1) default).Vars.length by simp only [decide_eq_true_eq] at hc; omega))] at h; exact h
     ·rw [if_neg (show ¬ 1024<=r.abs.curF.Vars.length from (show ¬ 1024<=(r.p.Funcs.getD (r.p.Funcs.length - 1) default).Vars.length by simp only [decide_eq_true_eq] at hc; omega))] at h
      rw [List.length_singleton]
      exact ⟨⟨by omega,by omega⟩,h⟩
  ·rw [if_pos (by simp [h3])] at h
   exact ifk (fun _=>h) (fun hc=>by simp at hc; omega)
 ·have hb:(decide (r.abs.Where=3)||decide (r.abs.Where=4))=false:=by simpa using hwh
  rw [if_pos (by simp [hb])] at h
  exact ifk (fun _=>h) (fun hc=>by rw [hb] at hc; simp at hc)
end Go.Am
end

section
namespace Go.Am
open Go
set_option linter.unusedVariables false
set_option linter.unusedSimpArgs false
theorem start_join {P2 P3 P0 PL n:Bool} {KPv:Prop} {B:Unit->Prop} (hb:(P2||P3||(P0&&PL))=true) (hn:n=true) (h:B ()) :
  joinP (fun J1:Unit->Prop=>if P2=true then (if (!true)=true then KPv else J1 ()) else (if P3=true then (if (!true)=true then KPv else J1 ()) else (if P0=true then (if PL=true then (if (!n)=true then KPv else J1 ()) else (if (!false)=true then KPv else J1 ())) else (if (!false)=true then KPv else J1 ())))) B:=by
 intro J hJ
 have:=hJ () h
 cases P2 <;> cases P3 <;> cases P0 <;> cases PL <;> simp_all
theorem law_yStart (r:Lt.Reader) (l:List (List UInt8)) (hp:Lt.preReader r l) (KK:Unit×Lt.Reader->Prop) (KP:Value->Lt.Reader->Prop) (h:exP (Lt.yStart r l) (fun z x=>KK (z,x)) KP):F_yStart r l KK KP:=by
 obtain ⟨⟨hi,hw,_,_⟩,hne,hr⟩:=hp
 unfold F_yStart
 unfold Lt.yStart Lt.sBlock at h
 simp only [res_ite,res_3,res_20] at h
 dsimp only
 simp only [exQ_name,show l.getD 1 default=Lt.w1 l from rfl] at h ⊢
 generalize Lt.rName (Lt.w1 l)=nm at h ⊢
 have hcase:(decide (r.abs.Where=3)||decide (r.abs.Where=4)||decide (r.abs.Where=9))=(decide (r.where_=2)||decide (r.where_=3)||(decide (r.where_=0)&&decide (0<=r.long))):=by
  unfold Lt.Reader.abs
  dsimp only
  rw [Bool.eq_iff_iff]
  simp only [Bool.or_eq_true,Bool.and_eq_true,decide_eq_true_eq]
  by_cases h0:r.where_=0
  ·rw [if_pos h0]; split <;> omega
  ·rw [if_neg h0]; split <;> omega
 by_cases hB:(decide (r.abs.Where=3)||decide (r.abs.Where=4)||decide (r.abs.Where=9))=true
 ·have hwh:r.abs.Where=3\/r.abs.Where=4\/r.abs.Where=9:=by simpa [or_assoc] using hB
  obtain ⟨hf,_,_,_,hp6⟩:=Inv_fun hi (by omega)
  have hf:r.p.Funcs≠[]:=hf
  have hf8:r.p.Funcs.length<=5000:=by have:r.p.Funcs.length<=8:=hi.2.1.2.2; omega
  have hp6:(r.p.Funcs.getD (r.p.Funcs.length - 1) default).Blocks.length<=256:=hp6
  have hpos:0<r.p.Funcs.length:=List.length_pos_iff.2 hf
  simp only [hB,Bool.true_and] at h
  rw [hcase] at hB
  simp only [wrap_last hf hf8,last_ob hf,last_lt hf,Int.toNat_natCast,true_and,and_self]
  refine start_join hB (by simp; omega) (fun _=>?_)
  by_cases h2:l.length=2
  ·refine ifk (fun hc=>by simp [h2] at hc) (fun _=>⟨⟨by decide,by omega⟩,?_⟩)
   cases nm with
   | false=>simpa using h
   | true=>
    rw [if_neg (by simp [h2])] at h
    simp only [if_true,jn_app,jn_and,and_self]
    refine fun _=>fun _=>ifk (fun hc=>?_) (fun hc=>?_)
    ·rw [if_pos (show 256<=r.abs.curF.Blocks.length from (show 256<=(r.p.Funcs.getD (r.p.Funcs.length - 1) default).Blocks.length by simp only [decide_eq_true_eq] at hc; omega))] at h; exact h
    ·rw [if_neg (show ¬ 256<=r.abs.curF.Blocks.length from (show ¬ 256<=(r.p.Funcs.getD (r.p.Funcs.length - 1) default).Blocks.length by simp only [decide_eq_true_eq] at hc; omega))] at h
     rw [List.length_singleton]
     exact ⟨⟨by omega,by omega⟩,h⟩
  ·rw [if_pos (by simp [h2])] at h
   exact ifk (fun _=>h) (fun hc=>by simp at hc; omega)
 ·have hB:(decide (r.abs.Where=3)||decide (r.abs.Where=4)||decide (r.abs.Where=9))=false:=by simpa using hB
  rw [hB] at h
  rw [hcase] at hB
  simp only [Bool.or_eq_false_iff,Bool.and_eq_false_iff,decide_eq_false_iff_not] at hB
  obtain ⟨⟨b2,b3⟩,b0⟩:=hB
  have h':KP (Lt.flt 3) r:=by simpa using h
  simp only [b2,b3,decide_false,Bool.false_eq_true,if_false]
  rcases b0 with b0 | b0
  ·simpa [b0,jn_const] using h'
  ·simp only [jn_ite,jn_const,b0,decide_false,Bool.false_eq_true,if_false,Bool.not_false,if_true]
   split <;> exact h'
end Go.Am
end

section
namespace Go.Am
open Go
set_option linter.unusedVariables false
set_option linter.unusedSimpArgs false
theorem Of_word:∀ k:Fin 35,1<=k.1->(Lt.Of (k.1:Int)).1.Word=gw.getD k.1 default:=by decide +kernel
theorem law_yOp (w:List UInt8) (KK:Int×Bool->Prop) (h:KK (Lt.yOp w)):F_yOp w KK:=by
 unfold F_yOp
 unfold Lt.yOp Lt.sOp at h
 have hg:gw.length=35:=rfl
 have key:∀ k i,1<=i->i+k=35->KK (Lt.sOpG w (gw.drop i) (i:Int))->loopN (fun (R1:Int->Prop) v2=>if (decide (v2<=34))=true then (if (decide (((Lt.Of v2).1).Word=w))=true then (KK (v2,true)) else (R1 (IntKind.i64.wrap (v2+1)))) else (KK (0,false))) (k+1) (i:Int):=by
  intro k
  induction k with
  | zero=>
   intro i h1 hi h
   have e:i=35:=by omega
   subst e
   exact h
  | succ k ih=>
   intro i h1 hi h
   have hlt:i<gw.length:=by omega
   rw [List.drop_eq_getElem_cons hlt] at h
   have e:gw.getD i default=gw[i]:=by rw [List.getD,List.getElem?_eq_getElem hlt]; rfl
   rw [<- e] at h
   show (if (decide ((i:Int)<=34))=true then _ else _)
   rw [if_pos (by simp; omega)]
   simp only [Lt.sOpG] at h
   have hw:=Of_word ⟨i,by omega⟩ h1
   refine ifk (fun hc=>?_) (fun hc=>?_)
   ·rw [if_pos (by rw [<- hw]; simpa using hc)] at h; exact h
   ·rw [if_neg (by rw [<- hw]; simpa using hc)] at h
    rw [wrap_succ (by omega)]
    exact ih (i+1) (by omega) (by omega) (by simpa using h)
 exact ⟨35,key 34 1 (Nat.le_refl 1) rfl h⟩
theorem law_yArgs (l:List (List UInt8)) (objs:Bool) (hp:Lt.preWords l objs) (KK:List Lt.Arg->Prop) (KP:Value->Prop) (h:exQ (Lt.yArgs l objs) KK KP):F_yArgs l objs KK KP:=by
 have hp:l.length<=1099511627776:=hp
 unfold F_yArgs
 unfold Lt.yArgs Lt.sArgs at h
 rw [exQ_if] at h
 refine fun hl=>nat_loop _ l.length (fun i x=>x=((l.take i).map (fun w=>(Lt.sArg w).1),(i:Int))/\(l.take i).all (Lt.argOk objs)=true) (fun R i x hi hx ih=>?_) (fun R x hx=>?_) _ ⟨rfl,rfl⟩
 ·obtain ⟨rfl,ha⟩:=hx
  dsimp only
  rw [if_pos (lt_t hi)]
  simp only [Int.toNat_natCast]
  refine ⟨⟨Int.natCast_nonneg i,hi⟩,trivial,?_⟩
  unfold Lt.yArg
  rw [exQ_if]
  refine ifk (fun hc=>?_) (fun hc=>?_)
  ·refine ⟨?_,ih _ ⟨?_,?_⟩⟩
   ·rw [List.length_map,List.length_take,List.length_singleton]; omega
   ·rw [take_snoc l hi,List.map_append,wrap_succ (by omega)]; rfl
   ·rw [take_snoc l hi,List.all_append,ha,List.all_cons,hc]; rfl
  ·have:l.all (Lt.argOk objs)=false:=by
    rw [Bool.eq_false_iff]
    intro hall
    exact hc (List.all_eq_true.1 hall _ (mem_getD l hi))
   simpa [this] using h
 ·obtain ⟨rfl,ha⟩:=hx
  rw [List.take_length] at ha
  dsimp only
  rw [if_neg (by simp),List.take_length]
  simpa [ha] using h
end Go.Am
end

section
namespace Go.Am
open Go
set_option linter.unusedVariables false
set_option linter.unusedSimpArgs false
theorem exQ_arg (w:List UInt8) (o:Bool) (K:Lt.Arg->Prop) (KP:Value->Prop):exQ (Lt.yArg w o) K KP=if Lt.argOk o w=true then K (Lt.sArg w).1 else KP (Lt.flt 3):=by
 unfold Lt.yArg; rw [exQ_if]
theorem exQ_args (l:List (List UInt8)) (o:Bool) (K:List Lt.Arg->Prop) (KP:Value->Prop):exQ (Lt.yArgs l o) K KP=if (Lt.sArgs l o).2=true then K (Lt.sArgs l o).1 else KP (Lt.flt 3):=by
 unfold Lt.yArgs; rw [exQ_if]
theorem has_in {r:Lt.Reader} (hw:0<=r.where_/\r.where_<=7):Lt.yHas [4,5,6,7] r.where_=r.abs.ins:=by
 unfold Lt.yHas Lt.Reader.abs Lt.Read.ins
 dsimp only
 rw [Bool.eq_iff_iff]
 simp only [List.contains_cons,List.contains_nil,Bool.or_false,Bool.or_eq_true,Bool.and_eq_true,beq_iff_eq,decide_eq_true_eq]
 by_cases h0:r.where_=0
 ·rw [if_pos h0]; split <;> omega
 ·rw [if_neg h0]; split <;> omega
theorem has_67 {r:Lt.Reader} (hw:0<=r.where_/\r.where_<=7):Lt.yHas [6,7] r.where_=(decide (7<=r.abs.Where)&&r.abs.ins):=by
 unfold Lt.yHas Lt.Reader.abs Lt.Read.ins
 dsimp only
 rw [Bool.eq_iff_iff]
 simp only [List.contains_cons,List.contains_nil,Bool.or_false,Bool.or_eq_true,Bool.and_eq_true,beq_iff_eq,decide_eq_true_eq]
 by_cases h0:r.where_=0
 ·rw [if_pos h0]; split <;> omega
 ·rw [if_neg h0]; split <;> omega
theorem even_2 (n:Nat):decide (Int.tmod (n:Int) 2=0)=decide (n % 2=0):=by
 rw [show Int.tmod (n:Int) 2=((n % 2:Nat):Int) by rw [Int.tmod_eq_emod_of_nonneg (by omega)]; rfl]
 exact decide_eq_decide.2 (by omega)
theorem pairs_loop {σ:Type} (l:List (List UInt8)) (objs:Bool) (st:List Lt.Bind->σ) (body:(Int×σ->Prop)->Int×σ->Prop) (E:Prop) (fin:List Lt.Bind->Prop)
  (hs:∀ R i acc,i+1<l.length->acc.length<=i->(if Lt.rName (l.getD i default)=true then (if Lt.argOk objs (l.getD (i+1) default)=true then R (((i+2:Nat):Int),st (acc++[⟨l.getD i default,(Lt.sArg (l.getD (i+1) default)).1⟩])) else E) else E)->body R ((i:Int),st acc))
  (he:∀ R acc,acc.length<=l.length->fin acc->body R ((l.length:Int),st acc)) :
  ∀ n i acc,l.length=i+2*n->acc.length<=i->(match Lt.sPairsG objs (l.drop i) with | some x=>fin (acc++x) | none=>E)->loopN body (n+1) ((i:Int),st acc):=by
 intro n
 induction n with
 | zero=>
  intro i acc hi ha h
  have e:i=l.length:=by omega
  subst e
  rw [List.drop_length] at h
  exact he _ acc ha (by simpa [Lt.sPairsG] using h)
 | succ n ih=>
  intro i acc hi ha h
  have h3:i+1<l.length:=by omega
  have h4:i<l.length:=by omega
  have hd:l.drop i=l.getD i default::l.getD (i+1) default::l.drop (i+2):=by
   rw [List.drop_eq_getElem_cons h4,List.drop_eq_getElem_cons h3]
   rw [List.getD,List.getD,List.getElem?_eq_getElem h4,List.getElem?_eq_getElem h3]; rfl
  rw [hd,Lt.sPairsG] at h
  refine hs _ i acc h3 ha ?_
  refine ifk (fun c1=>ifk (fun c2=>?_) (fun c2=>?_)) (fun c1=>?_)
  ·rw [if_pos (by rw [c1,c2]; rfl)] at h
   refine ih (i+2) _ (by omega) (by simp only [List.length_append,List.length_singleton]; omega) ?_
   cases hp:Lt.sPairsG objs (l.drop (i+2)) with
   | none=>rw [hp] at h; exact h
   | some x=>rw [hp] at h; simpa using h
  ·rw [if_neg (by rw [Bool.eq_false_iff.2 c2]; simp)] at h; exact h
  ·rw [if_neg (by rw [Bool.eq_false_iff.2 c1]; simp)] at h; exact h
theorem pairs_fin {l:List (List UInt8)} {f:Nat} {objs:Bool} (hf:f<=l.length) {E:Prop} {fin:List Lt.Bind->Prop}
  (h1:(Lt.sPairs l (f:Int) objs).2=false->E) (h2:(Lt.sPairs l (f:Int) objs).2=true->fin (Lt.sPairs l (f:Int) objs).1) :
  match Lt.sPairsG objs (l.drop f) with | some x=>fin ([]++x) | none=>E:=by
 unfold Lt.sPairs at h1 h2
 rw [if_neg (by omega),Int.toNat_natCast] at h1 h2
 cases hp:Lt.sPairsG objs (l.drop f) with
 | none=>rw [hp] at h1; exact h1 rfl
 | some x=>rw [hp] at h2; exact h2 rfl
theorem pairs_run {σ:Type} (l:List (List UInt8)) (f:Nat) (objs:Bool) (st:List Lt.Bind->σ) (body:(Int×σ->Prop)->Int×σ->Prop) (E:Prop) (fin:List Lt.Bind->Prop)
  (hs:∀ R i acc,i+1<l.length->acc.length<=i->(if Lt.rName (l.getD i default)=true then (if Lt.argOk objs (l.getD (i+1) default)=true then R (((i+2:Nat):Int),st (acc++[⟨l.getD i default,(Lt.sArg (l.getD (i+1) default)).1⟩])) else E) else E)->body R ((i:Int),st acc))
  (he:∀ R acc,acc.length<=l.length->fin acc->body R ((l.length:Int),st acc)) (n:Nat) (hn:l.length=f+2*n)
  (h1:(Lt.sPairs l (f:Int) objs).2=false->E) (h2:(Lt.sPairs l (f:Int) objs).2=true->fin (Lt.sPairs l (f:Int) objs).1):loopP body ((f:Int),st []):=
 ⟨_,pairs_loop l objs st body E fin hs he n f [] hn (Nat.zero_le _) (pairs_fin (by omega) h1 h2)⟩
theorem law_yPhi (r:Lt.Reader) (l:List (List UInt8)) (hp:Lt.preReader r l) (KK:Unit×Lt.Reader->Prop) (KP:Value->Lt.Reader->Prop) (h:exP (Lt.yPhi r l) (fun z x=>KK (z,x)) KP):F_yPhi r l KK KP:=by
 obtain ⟨⟨hi,hw,hlg,_⟩,hne,hr⟩:=hp
 have hr:l.length<=1099511627776:=hr
 unfold F_yPhi
 unfold Lt.yPhi Lt.sPhi at h
 simp only [res_ite,res_3,res_2,res_0] at h
 dsimp only
 simp only [has_n hw (n:=4) (by decide) (by decide),exQ_name,exQ_arg,even_2,jn_app,jn_and,jn_imp,jn_ite,jn_const,and_self,true_and]
 by_cases hwh:r.abs.Where=5
 ·obtain ⟨hf,_,_,_,hb6⟩:=Inv_fun hi (by omega)
  obtain ⟨hbn,hph,_⟩:=Inv_block hi (by omega)
  have hf:r.p.Funcs≠[]:=hf
  have hf8:r.p.Funcs.length<=5000:=by have:r.p.Funcs.length<=8:=hi.2.1.2.2; omega
  have hb5:r.abs.curF.Blocks.length<=5000:=by omega
  have ef:r.p.Funcs.getD (r.p.Funcs.length - 1) default=r.abs.curF:=rfl
  have eb:r.abs.curF.Blocks.getD (r.abs.curF.Blocks.length - 1) default=r.abs.curB:=rfl
  have wl:IntKind.i64.wrap (r.long+1)=r.long+1:=wrap_i64 (by omega) (by omega)
  simp only [wrap_last hf hf8,last_ob hf,last_lt hf,Int.toNat_natCast,ef,wrap_last hbn hb5,last_lt hbn,last_ob hbn,eb,true_and,and_self,List.length_singleton,app_ok (show r.abs.curB.Phis.length<=5000 by omega) (show 40<=200 by omega),wl,show l.getD 1 default=Lt.w1 l from rfl]
  refine ifk (fun hc=>by simp [hwh] at hc) (fun _=>fun _=>?_)
  by_cases h4:4<=l.length/\l.length % 2=0
  ·obtain ⟨n,hn⟩:∃ n,l.length=2+2*(n+1):=⟨l.length / 2 - 2,by omega⟩
   rw [if_pos (by simp; omega)]
   refine ⟨by decide,ifk (fun hc=>by simp at hc; omega) (fun _=>⟨⟨by decide,by omega⟩,?_⟩)⟩
   cases hnm:Lt.rName (Lt.w1 l) with
   | false=>rw [if_pos (by rw [hnm]; simp)] at h; simpa using h
   | true=>
    rw [if_pos rfl]
    refine pairs_run l 2 false (fun acc=>(⟨Lt.w1 l,acc.map fun x=>⟨x.Name,x.A⟩⟩:Lt.Phi)) _ (KP (Lt.flt 3) r) (fun x=>if 256<x.length\/1024<=r.long then KP (Lt.flt 2) r else KK ((),⟨(r.abs.block (fun b=>{ b with Phis:=b.Phis++[⟨Lt.w1 l,x.map fun x=>⟨x.Name,x.A⟩⟩] })).P,r.at_,4,r.first,r.long+1⟩)) (fun R i acc h1 ha hR=>?_) (fun R acc ha hR=>?_) (n+1) hn (fun hc=>?_) (fun hc=>?_)
    ·simp only [lt_t (show i<l.length by omega),if_true,Int.toNat_natCast,show IntKind.i64.wrap ((i:Int)+1)=((i+1:Nat):Int) from wrap_succ (by omega),show IntKind.i64.wrap ((i:Int)+2)=((i+2:Nat):Int) by rw [wrap_i64 (by omega) (by omega)]; rfl]
     refine fun _=>⟨⟨Int.natCast_nonneg i,by omega⟩,⟨Int.natCast_nonneg _,h1⟩,?_⟩
     refine ifk (fun c1=>?_) (fun c1=>?_)
     ·rw [if_pos c1] at hR
      refine ifk (fun c2=>?_) (fun c2=>?_)
      ·rw [if_pos c2] at hR
       refine ⟨⟨by rw [List.length_map]; omega,by rw [List.length_map]; omega⟩,kk hR ?_⟩
       rw [List.map_append]; rfl
      ·rw [if_neg c2] at hR; exact hR
     ·rw [if_neg c1] at hR; exact hR
    ·simp only [lt_f,Bool.false_eq_true,if_false]
     refine fun _ _=>?_
     rw [List.length_map,wrap_i64 (by omega) (by omega)]
     refine ifk (fun c1=>?_) (fun c1=>ifk (fun c2=>?_) (fun c2=>fun _ _=>?_))
     ·rw [if_pos (by simp at c1; omega)] at hR; exact hR
     ·rw [if_pos (by simp at c2; omega)] at hR; exact hR
     ·rw [if_neg (by simp at c1 c2; omega)] at hR
      have e4:r.where_=4:=by
       have:=has_n hw (n:=4) (by decide) (by decide)
       rw [hwh] at this
       simpa [Lt.yHas] using this
      rw [e4]
      exact hR
    ·rw [if_pos (by rw [show Lt.sPairs l 2 false=Lt.sPairs l ((2:Nat):Int) false from rfl,hc]; simp)] at h
     exact h
    ·have hlen:=sPairs_len (l:=l) (f:=2) (objs:=false) hc (by decide)
     rw [if_neg (by rw [show (Lt.sPairs l 2 false).2=true from hc,hnm,hwh,decide_eq_false (show ¬ (Lt.sPairs l 2 false).1.length=0 by omega)]; simp)] at h
     exact h
  ·have h3:KP (Lt.flt 3) r:=by
    rw [if_pos ?_] at h
    ·exact h
    ·by_cases hok:(Lt.sPairs l 2 false).2=true
     ·have hlen:=sPairs_len (l:=l) (f:=2) (objs:=false) hok (by decide)
      rw [decide_eq_true (show (Lt.sPairs l 2 false).1.length=0 by omega)]; simp
     ·rw [Bool.eq_false_iff.2 hok]; simp
   refine ifk (fun c1=>⟨by decide,ifk (fun _=>h3) (fun c2=>?_)⟩) (fun _=>ifk (fun _=>h3) (fun hc=>by simp at hc))
   simp at c1 c2
   omega
 ·rw [if_pos (by simp [hwh])] at h
  exact ifk (fun _=>h) (fun hc=>by simp [hwh] at hc)
theorem law_yFrame (r:Lt.Reader) (l:List (List UInt8)) (hp:Lt.preReader r l) (KK:Unit×Lt.Reader->Prop) (KP:Value->Lt.Reader->Prop) (h:exP (Lt.yFrame r l) (fun z x=>KK (z,x)) KP):F_yFrame r l KK KP:=by
 obtain ⟨⟨hi,hw,hlg,_⟩,hne,hr⟩:=hp
 have hr:l.length<=1099511627776:=hr
 unfold F_yFrame
 unfold Lt.yFrame Lt.sAt at h
 simp only [res_ite,res_3,res_2,res_0] at h
 dsimp only
 simp only [has_n hw (n:=6) (by decide) (by decide),exQ_name,exQ_arg,exQ_number,even_2,jn_app,jn_and,jn_imp,jn_ite,jn_const,and_self,true_and]
 by_cases hwh:r.abs.Where=7
 ·obtain ⟨hf,_,_,_,hb6⟩:=Inv_fun hi (by omega)
  obtain ⟨hbn,hph,hcd,_⟩:=Inv_block hi (by omega)
  obtain ⟨hcn,hfr,_⟩:=Inv_instr hi (by omega) (by omega)
  have hf:r.p.Funcs≠[]:=hf
  have hf8:r.p.Funcs.length<=5000:=by have:r.p.Funcs.length<=8:=hi.2.1.2.2; omega
  have hb5:r.abs.curF.Blocks.length<=5000:=by omega
  have hc5:r.abs.curB.Code.length<=5000:=by omega
  have ef:r.p.Funcs.getD (r.p.Funcs.length - 1) default=r.abs.curF:=rfl
  have eb:r.abs.curF.Blocks.getD (r.abs.curF.Blocks.length - 1) default=r.abs.curB:=rfl
  have ei:r.abs.curB.Code.getD (r.abs.curB.Code.length - 1) default=r.abs.curI:=rfl
  simp only [wrap_last hf hf8,last_ob hf,last_lt hf,Int.toNat_natCast,ef,wrap_last hbn hb5,last_lt hbn,last_ob hbn,eb,wrap_last hcn hc5,last_lt hcn,last_ob hcn,ei,true_and,and_self,List.length_singleton,app_ok (show r.abs.curI.Frames.length<=5000 by omega) (show 64<=200 by omega),show l.getD 1 default=Lt.w1 l from rfl,show l.getD 2 default=Lt.w2 l from rfl,show l.getD 3 default=Lt.w3 l from rfl]
  refine ifk (fun hc=>by simp [hwh] at hc) (fun _=>fun _=>?_)
  by_cases h4:4<=l.length/\l.length % 2=0
  ·obtain ⟨n,hn⟩:∃ n,l.length=4+2*n:=⟨l.length / 2 - 2,by omega⟩
   rw [if_pos (by simp; omega)]
   refine ⟨by decide,ifk (fun hc=>by simp at hc; omega) (fun _=>⟨⟨by decide,by omega⟩,⟨by decide,by omega⟩,⟨by decide,by omega⟩,?_⟩)⟩
   cases hn1:Lt.rName (Lt.w1 l) with
   | false=>rw [if_pos (by rw [hn1]; simp)] at h; simpa using h
   | true=>
   cases hn2:Lt.rName (Lt.w2 l) with
   | false=>rw [if_pos (by rw [hn2]; simp)] at h; simpa using h
   | true=>
   cases hn3:((Lt.sNum (Lt.w3 l)).2&&decide (0<=(Lt.sNum (Lt.w3 l)).1)&&decide ((Lt.sNum (Lt.w3 l)).1<=1024)) with
   | false=>rw [if_pos (by rw [hn3]; simp)] at h; simpa using h
   | true=>
    rw [if_pos rfl,if_pos rfl,if_pos rfl]
    refine pairs_run l 4 true (fun acc=>(⟨Lt.w1 l,Lt.w2 l,(Lt.sNum (Lt.w3 l)).1,acc⟩:Lt.Frame)) _ (KP (Lt.flt 3) r) (fun x=>if 16<x.length\/16<=r.abs.curI.Frames.length then KP (Lt.flt 2) r else KK ((),⟨(r.abs.instr (fun y=>{ y with Frames:=y.Frames++[⟨Lt.w1 l,Lt.w2 l,(Lt.sNum (Lt.w3 l)).1,x⟩] })).P,r.at_,6,r.first,r.long⟩)) (fun R i acc h1 ha hR=>?_) (fun R acc ha hR=>?_) n hn (fun hc=>?_) (fun hc=>?_)
    ·simp only [lt_t (show i<l.length by omega),if_true,Int.toNat_natCast,show IntKind.i64.wrap ((i:Int)+1)=((i+1:Nat):Int) from wrap_succ (by omega),show IntKind.i64.wrap ((i:Int)+2)=((i+2:Nat):Int) by rw [wrap_i64 (by omega) (by omega)]; rfl]
     refine fun _=>⟨⟨Int.natCast_nonneg i,by omega⟩,⟨Int.natCast_nonneg _,h1⟩,?_⟩
     refine ifk (fun c1=>?_) (fun c1=>?_)
     ·rw [if_pos c1] at hR
      refine ifk (fun c2=>?_) (fun c2=>?_)
      ·rw [if_pos c2] at hR
       exact ⟨⟨by omega,by omega⟩,hR⟩
      ·rw [if_neg c2] at hR; exact hR
     ·rw [if_neg c1] at hR; exact hR
    ·simp only [lt_f,Bool.false_eq_true,if_false]
     refine fun _ _=>?_
     rw [wrap_i64 (by omega) (by omega)]
     refine ifk (fun c1=>?_) (fun c1=>fun _ _ _ _=>ifk (fun c2=>?_) (fun c2=>?_))
     ·rw [if_pos (by simp at c1; omega)] at hR; exact hR
     ·rw [if_pos (by simp at c2; omega)] at hR; exact hR
     ·rw [if_neg (by simp at c1 c2; omega)] at hR
      have e4:r.where_=6:=by
       have:=has_n hw (n:=6) (by decide) (by decide)
       rw [hwh] at this
       simpa [Lt.yHas] using this
      rw [e4]
      exact hR
    ·rw [if_pos (by rw [show Lt.sPairs l 4 true=Lt.sPairs l ((4:Nat):Int) true from rfl,hc]; simp)] at h
     exact h
    ·rw [if_neg (by rw [show (Lt.sPairs l 4 true).2=true from hc,hn1,hn2,hn3,hwh]; simp)] at h
     exact h
  ·have h3:KP (Lt.flt 3) r:=by
    rw [if_pos ?_] at h
    ·exact h
    ·by_cases hok:(Lt.sPairs l 4 true).2=true
     ·have hlen:=sPairs_len (l:=l) (f:=4) (objs:=true) hok (by decide)
      omega
     ·rw [Bool.eq_false_iff.2 hok]; simp
   refine ifk (fun c1=>⟨by decide,ifk (fun _=>h3) (fun c2=>?_)⟩) (fun _=>ifk (fun _=>h3) (fun hc=>by simp at hc))
   simp at c1 c2
   omega
 ·rw [if_pos (by simp [hwh])] at h
  exact ifk (fun _=>h) (fun hc=>by simp [hwh] at hc)
theorem law_yObject (r:Lt.Reader) (l:List (List UInt8)) (hp:Lt.preReader r l) (KK:Unit×Lt.Reader->Prop) (KP:Value->Lt.Reader->Prop) (h:exP (Lt.yObject r l) (fun z x=>KK (z,x)) KP):F_yObject r l KK KP:=by
 obtain ⟨⟨hi,hw,hlg,_⟩,hne,hr⟩:=hp
 have hr:l.length<=1099511627776:=hr
 unfold F_yObject
 unfold Lt.yObject Lt.sObj at h
 simp only [res_ite,res_3,res_20] at h
 dsimp only
 simp only [has_67 hw,exQ_name,exQ_args,jn_app,jn_and,jn_imp,jn_ite,jn_const,and_self,true_and]
 by_cases hwh:7<=r.abs.Where/\r.abs.Where<=8
 ·obtain ⟨hf,_,_,_,hb6⟩:=Inv_fun hi (by omega)
  obtain ⟨hbn,hph,hcd,_⟩:=Inv_block hi (by omega)
  obtain ⟨hcn,_,hob⟩:=Inv_instr hi (by omega) (by omega)
  have hf:r.p.Funcs≠[]:=hf
  have hf8:r.p.Funcs.length<=5000:=by have:r.p.Funcs.length<=8:=hi.2.1.2.2; omega
  have hb5:r.abs.curF.Blocks.length<=5000:=by omega
  have hc5:r.abs.curB.Code.length<=5000:=by omega
  have ef:r.p.Funcs.getD (r.p.Funcs.length - 1) default=r.abs.curF:=rfl
  have eb:r.abs.curF.Blocks.getD (r.abs.curF.Blocks.length - 1) default=r.abs.curB:=rfl
  have ei:r.abs.curB.Code.getD (r.abs.curB.Code.length - 1) default=r.abs.curI:=rfl
  have hin:r.abs.ins=true:=by unfold Lt.Read.ins; simp; omega
  have ed:(l.drop 2).take (l.length - 2)=l.drop 2:=List.take_of_length_le (by rw [List.length_drop]; omega)
  simp only [wrap_last hf hf8,last_ob hf,last_lt hf,Int.toNat_natCast,ef,wrap_last hbn hb5,last_lt hbn,last_ob hbn,eb,wrap_last hcn hc5,last_lt hcn,last_ob hcn,ei,ed,true_and,and_self,List.length_singleton,app_ok (show r.abs.curI.Objs.length<=5000 by omega) (show 40<=200 by omega),show l.getD 1 default=Lt.w1 l from rfl]
  refine ifk (fun hc=>by rw [hin] at hc; simp at hc; omega) (fun _=>fun _=>?_)
  rw [if_neg (by rw [hin]; simp),decide_eq_true hwh.1] at h
  simp only [Bool.true_and] at h
  by_cases h2:2<=l.length
  ·rw [if_pos (by simp; omega)]
   by_cases h10:l.length<=10
   ·refine ifk (fun hc=>by simp at hc; omega) (fun _=>⟨⟨by decide,by omega⟩,by decide,⟨h2,Nat.le_refl _⟩,?_⟩)
    rw [decide_eq_true h2,decide_eq_true h10] at h
    simp only [Bool.true_and] at h
    cases hn1:Lt.rName (Lt.w1 l) with
    | false=>rw [if_pos (by rw [hn1]; simp)] at h; simpa using h
    | true=>
     rw [if_pos rfl]
     refine ⟨by show (l.drop 2).length<=1099511627776; rw [List.length_drop]; omega,?_⟩
     cases hn2:(Lt.sArgs (l.drop 2) true).2 with
     | false=>rw [if_pos (by rw [hn2]; simp)] at h; simpa using h
     | true=>
      rw [if_pos rfl]
      rw [if_neg (by rw [hn1,hn2]; simp)] at h
      refine fun _ _ _ _=>ifk (fun c=>?_) (fun c=>?_)
      ·rw [if_pos (by simp at c; omega)] at h; exact h
      ·rw [if_neg (by simp at c; omega)] at h; exact h
   ·refine ifk (fun _=>?_) (fun hc=>by simp at hc; omega)
    rw [if_pos (by rw [decide_eq_false h10]; simp)] at h; exact h
  ·rw [if_neg (by simp; omega),if_pos (by decide)]
   rw [if_pos (by rw [decide_eq_false h2]; simp)] at h; exact h
 ·have hc:(decide (7<=r.abs.Where)&&r.abs.ins)=false:=by unfold Lt.Read.ins; simp; omega
  have h3:KP (Lt.flt 3) r:=by
   by_cases hin:r.abs.ins=false
   ·rw [if_pos hin] at h; exact h
   ·rw [if_neg hin] at h
    rw [if_pos ?_] at h
    ·exact h
    ·have:decide (7<=r.abs.Where)=false:=by
      cases hh:r.abs.ins <;> simp_all
     rw [this]; rfl
  rw [hc]
  exact ifk (fun _=>h3) (fun hc=>by simp at hc)
end Go.Am
end

section
namespace Go.Am
open Go
set_option linter.unusedVariables false
set_option linter.unusedSimpArgs false
theorem res_some {α:Type} {r:Lt.Reader} {w:Int} (K:Unit->Lt.Reader->Prop) (KP:Value->Lt.Reader->Prop) (o:Option α) (X:α->Lt.Read) (Y:Lt.Read) :
  exP (Lt.yRes r (match o with | some t=>(0,X t) | none=>(3,Y)) w) K KP=match o with | some t=>K () ⟨(X t).P,r.at_,w,r.first,(X t).Long⟩ | none=>KP (Lt.flt 3) r:=by cases o <;> rfl
theorem law_yEnd (r:Lt.Reader) (l:List (List UInt8)) (hp:Lt.preReader r l) (KK:Unit×Lt.Reader->Prop) (KP:Value->Lt.Reader->Prop) (h:exP (Lt.yEnd r l) (fun z x=>KK (z,x)) KP):F_yEnd r l KK KP:=by
 obtain ⟨⟨hi,hw,hlg,_⟩,hne,hr⟩:=hp
 have hr:l.length<=1099511627776:=hr
 have h0:0<l.length:=List.length_pos_iff.2 hne
 unfold F_yEnd
 unfold Lt.yEnd at h
 simp only [res_ite,res_3,res_some] at h
 dsimp only
 dsimp +instances only [Lt.numGet]
 simp only [has_in hw,exQ_name,exQ_arg,jn_app,jn_and,jn_imp,jn_ite,jn_const,and_self,true_and]
 cases hin:r.abs.ins with
 | false=>rw [if_pos hin] at h; exact h
 | true=>
 rw [if_neg (by rw [hin]; simp)] at h
 have hwh:5<=r.abs.Where/\r.abs.Where<=8:=by unfold Lt.Read.ins at hin; simpa using hin
 obtain ⟨hf,_,_,_,hb6⟩:=Inv_fun hi (by omega)
 obtain ⟨hbn,hph,hcd,_⟩:=Inv_block hi (by omega)
 have hf:r.p.Funcs≠[]:=hf
 have hf8:r.p.Funcs.length<=5000:=by have:r.p.Funcs.length<=8:=hi.2.1.2.2; omega
 have hb5:r.abs.curF.Blocks.length<=5000:=by omega
 have ef:r.p.Funcs.getD (r.p.Funcs.length - 1) default=r.abs.curF:=rfl
 have eb:r.abs.curF.Blocks.getD (r.abs.curF.Blocks.length - 1) default=r.abs.curB:=rfl
 simp only [wrap_last hf hf8,last_ob hf,last_lt hf,Int.toNat_natCast,ef,wrap_last hbn hb5,last_lt hbn,last_ob hbn,eb,true_and,and_self,implies_true,forall_const,show l.getD 0 default=Lt.w0 l from rfl,show l.getD 1 default=Lt.w1 l from rfl,show l.getD 2 default=Lt.w2 l from rfl,show l.getD 3 default=Lt.w3 l from rfl]
 refine ifk (fun hc=>by simp at hc) (fun _=>⟨⟨by decide,h0⟩,?_⟩)
 refine ifk (fun e1=>?_) (fun e1=>ifk (fun e2=>?_) (fun e2=>ifk (fun e3=>?_) (fun e3=>?_)))
 ·have e1:Lt.w0 l=Lt.kJump:=by simpa using e1
  have hT:Lt.yTerm l=if (decide (l.length=2)&&Lt.rName (Lt.w1 l))=true then some ⟨1,⟨0,[],0⟩,[Lt.w1 l],0⟩ else none:=by
   unfold Lt.yTerm Lt.sTerm; rw [if_pos (Or.inl e1),if_pos e1]
  rw [hT] at h
  refine fun _=>ifk (fun c=>?_) (fun c=>?_)
  ·rw [if_neg (by simp at c; simp; omega)] at h; exact h
  ·have h2:l.length=2:=by simp at c; omega
   refine ⟨⟨by decide,by omega⟩,ifk (fun c1=>?_) (fun c1=>?_)⟩
   ·rw [if_pos (by rw [c1]; simpa using h2)] at h; exact fun _ _=>h
   ·rw [if_neg (by rw [Bool.eq_false_iff.2 c1]; simp)] at h; exact h
 ·have n1:¬ Lt.w0 l=Lt.kJump:=by simpa using e1
  have e2:Lt.w0 l=Lt.kBranch:=by simpa using e2
  have hT:Lt.yTerm l=if (decide (l.length=4)&&(Lt.rName (Lt.w2 l)&&Lt.rName (Lt.w3 l))&&Lt.argOk false (Lt.w1 l))=true then some ⟨2,(Lt.sArg (Lt.w1 l)).1,[Lt.w2 l,Lt.w3 l],0⟩ else none:=by
   unfold Lt.yTerm Lt.sTerm; rw [if_pos (Or.inr (Or.inl e2)),if_neg n1,if_pos e2]
  rw [hT] at h
  refine fun _=>ifk (fun c=>?_) (fun c=>?_)
  ·rw [if_neg (by simp at c; simp; omega)] at h; exact h
  ·have h2:l.length=4:=by simp at c; omega
   refine ⟨⟨by decide,by omega⟩,⟨by decide,by omega⟩,⟨by decide,by omega⟩,ifk (fun c1=>ifk (fun c2=>ifk (fun c3=>?_) (fun c3=>?_)) (fun c2=>?_)) (fun c1=>?_)⟩
   ·rw [if_pos (by rw [c1,c2,c3]; simpa using h2)] at h; exact fun _ _=>h
   ·rw [if_neg (by rw [Bool.eq_false_iff.2 c3]; simp)] at h; exact h
   ·rw [if_neg (by rw [Bool.eq_false_iff.2 c2]; simp)] at h; exact h
   ·rw [if_neg (by rw [Bool.eq_false_iff.2 c1]; simp)] at h; exact h
 ·have n1:¬ Lt.w0 l=Lt.kJump:=by simpa using e1
  have n2:¬ Lt.w0 l=Lt.kBranch:=by simpa using e2
  have e3:Lt.w0 l=Lt.kRet:=by simpa using e3
  have hT:Lt.yTerm l=if (decide (l.length=2)&&Lt.argOk false (Lt.w1 l))=true then some ⟨3,(Lt.sArg (Lt.w1 l)).1,[],0⟩ else none:=by
   unfold Lt.yTerm Lt.sTerm; rw [if_pos (Or.inr (Or.inr e3)),if_neg n1,if_neg n2,if_pos e3]
  rw [hT] at h
  refine fun _=>ifk (fun c=>?_) (fun c=>?_)
  ·rw [if_neg (by simp at c; simp; omega)] at h; exact h
  ·have h2:l.length=2:=by simp at c; omega
   refine ⟨⟨by decide,by omega⟩,ifk (fun c1=>?_) (fun c1=>?_)⟩
   ·rw [if_pos (by rw [c1]; simpa using h2)] at h; exact fun _ _=>h
   ·rw [if_neg (by rw [Bool.eq_false_iff.2 c1]; simp)] at h; exact h
 ·have n1:¬ Lt.w0 l=Lt.kJump:=by simpa using e1
  have n2:¬ Lt.w0 l=Lt.kBranch:=by simpa using e2
  have n3:¬ Lt.w0 l=Lt.kRet:=by simpa using e3
  have hT:Lt.yTerm l=if (decide (l.length=2)&&(Lt.sNum (Lt.w1 l)).2)=true then some ⟨4,⟨0,[],0⟩,[],(Lt.sNum (Lt.w1 l)).1⟩ else none:=by
   unfold Lt.yTerm; rw [if_neg (fun hh=>hh.elim n1 (fun hh=>hh.elim n2 n3))]
  rw [hT] at h
  refine fun _=>ifk (fun c=>?_) (fun c=>?_)
  ·rw [if_neg (by simp at c; simp; omega)] at h; exact h
  ·have h2:l.length=2:=by simp at c; omega
   refine ⟨⟨by decide,by omega⟩,ifk (fun c1=>?_) (fun c1=>?_)⟩
   ·have c1:(Lt.sNum (Lt.w1 l)).2=false:=by simpa using c1
    rw [if_neg (by rw [c1]; simp)] at h; exact h
   ·have c1:(Lt.sNum (Lt.w1 l)).2=true:=by simpa using c1
    rw [if_pos (by rw [c1]; simpa using h2)] at h; exact fun _ _=>h
theorem sArgs_cons (w:List UInt8) (l:List (List UInt8)) (o:Bool):Lt.sArgs (w::l) o=if Lt.argOk o w=true then (if (Lt.sArgs l o).2=true then ((Lt.sArg w).1::(Lt.sArgs l o).1,true) else ([],false)) else ([],false):=by
 unfold Lt.sArgs
 cases h1:Lt.argOk o w <;> cases h2:l.all (Lt.argOk o) <;> simp [h1,h2]
theorem law_yCode (r:Lt.Reader) (l:List (List UInt8)) (hp:Lt.preReader r l) (KK:Unit×Lt.Reader->Prop) (KP:Value->Lt.Reader->Prop) (h:exP (Lt.yCode r l) (fun z x=>KK (z,x)) KP):F_yCode r l KK KP:=by
 obtain ⟨⟨hi,hw,hlg,_⟩,hne,hr⟩:=hp
 have hr:l.length<=1099511627776:=hr
 have h0:0<l.length:=List.length_pos_iff.2 hne
 have e0:Lt.sCodeM r.abs l=if (Lt.sEq l&&!Lt.rName (Lt.w0 l))=true then (3,r.abs) else codeR r.abs (if Lt.sEq l then Lt.w0 l else []) (if Lt.sEq l then l.drop 2 else l):=rfl
 unfold F_yCode
 unfold Lt.yCode at h
 rw [e0] at h
 dsimp only
 simp only [has_in hw,exQ_name,exQ_arg,exQ_args]
 cases hin:r.abs.ins with
 | false=>
  have h3:KP (Lt.flt 3) r:=by
   unfold codeR at h
   rw [if_pos hin] at h
   split at h <;> exact h
  exact h3
 | true=>
 have hwh:5<=r.abs.Where/\r.abs.Where<=8:=by unfold Lt.Read.ins at hin; simpa using hin
 obtain ⟨hf,_,_,_,hb6⟩:=Inv_fun hi (by omega)
 obtain ⟨hbn,hph,hcd,_⟩:=Inv_block hi (by omega)
 have hf:r.p.Funcs≠[]:=hf
 have hf8:r.p.Funcs.length<=5000:=by have:r.p.Funcs.length<=8:=hi.2.1.2.2; omega
 have hb5:r.abs.curF.Blocks.length<=5000:=by omega
 have hc5:r.abs.curB.Code.length<=5000:=by omega
 have ef:r.p.Funcs.getD (r.p.Funcs.length - 1) default=r.abs.curF:=rfl
 have eb:r.abs.curF.Blocks.getD (r.abs.curF.Blocks.length - 1) default=r.abs.curB:=rfl
 have l1:∀ x:Lt.Instr,([x]:List Lt.Instr).length=1:=fun _=>rfl
 have wl:IntKind.i64.wrap (r.long+1)=r.long+1:=wrap_i64 (by omega) (by omega)
 simp only [wrap_last hf hf8,last_ob hf,last_lt hf,Int.toNat_natCast,ef,wrap_last hbn hb5,last_lt hbn,last_ob hbn,eb,l1,app_ok hc5 (show 112<=200 by omega),wl,true_and,and_self,show l.getD 0 default=Lt.w0 l from rfl,show l.getD 1 default=Lt.w1 l from rfl]
 refine ifk (fun hc=>by simp at hc) (fun _=>?_)
 refine fun J1 hJ1=>?_
 have key:∀ (l':List (List UInt8)) (dst:List UInt8),0<l'.length->l'.length<=1099511627776->exP (Lt.yRes r (codeR r.abs dst l') ((codeR r.abs dst l').2.Where - 1)) (fun z x=>KK (z,x)) KP->J1 (l',⟨0,dst,[],[],[],[]⟩):=by
  intro l' dst h0' hr' hk
  refine hJ1 _ ?_
  clear hJ1 h e0 J1
  have hk:match Lt.sInstr dst l' with
    | none=>KP (Lt.flt 3) r
    | some x=>if 1024<=r.long then KP (Lt.flt 2) r else KK ((),⟨(r.abs.block (fun b=>{ b with Code:=b.Code++[x] })).P,r.at_,(if x.Op=31\/x.Op=34 then 7 else 6) - 1,r.first,r.long+1⟩):=by
   unfold codeR at hk
   rw [if_neg (by rw [hin]; simp)] at hk
   cases hs:Lt.sInstr dst l' with
   | none=>rw [hs] at hk; exact hk
   | some x=>
    rw [hs] at hk
    simp only [show r.abs.Long=r.long from rfl] at hk ⊢
    by_cases hl:1024<=r.long
    ·rw [if_pos hl] at hk ⊢; exact hk
    ·rw [if_neg hl] at hk ⊢; exact hk
  unfold Lt.sInstr Lt.sRest at hk
  have ew:l'.getD 0 default=Lt.w0 l':=rfl
  refine ⟨⟨by decide,h0'⟩,?_⟩
  unfold Lt.yOp
  simp only [ew]
  obtain ⟨_,_,e3,e4,e5,e6⟩:=rOf_eq (Lt.sOp (Lt.w0 l')).1
  simp only [<- e3,<- e4,<- e5,<- e6]
  have h26:(Lt.sOp (Lt.w0 l')).1=26\/(Lt.sOp (Lt.w0 l')).1=27->(Lt.rOf (Lt.sOp (Lt.w0 l')).1).1.Named=true:=by
   rintro (e | e) <;> rw [e] <;> rfl
  generalize Lt.sOp (Lt.w0 l')=O at hk h26 ⊢
  obtain ⟨op,okop⟩:=O
  simp only at hk h26 ⊢
  generalize (Lt.rOf op).1=fm at hk h26 ⊢
  cases hok:okop with
  | false=>rw [hok] at hk; exact hk
  | true=>
  rw [hok] at hk
  refine ifk (fun hc=>by simp at hc) (fun _=>?_)
  refine ifk (fun hc=>?_) (fun hc=>?_)
  ·rw [if_pos (by clear hk; simpa using hc)] at hk; exact hk
  rw [if_neg (by clear hk; simpa using hc)] at hk
  have ed:(l'.drop 1).take (l'.length - 1)=l'.drop 1:=List.take_of_length_le (by rw [List.length_drop]; omega)
  rw [ed]
  refine ⟨by decide,⟨by omega,Nat.le_refl _⟩,fun J6 hJ6=>?_⟩
  have key2:∀ nm gs,(if (decide (fm.Least<=(gs.length:Int))&&decide ((gs.length:Int)<=fm.Most))=true then (if 1024<=r.long then KP (Lt.flt 2) r else KK ((),⟨(r.abs.block (fun b=>{ b with Code:=b.Code++[(⟨op,dst,nm,gs,[],[]⟩:Lt.Instr)] })).P,r.at_,(if op=31\/op=34 then 7 else 6) - 1,r.first,r.long+1⟩)) else KP (Lt.flt 3) r)->J6 ⟨op,dst,nm,gs,[],[]⟩:=by
   intro nm gs hk2
   refine hJ6 _ ?_
   clear hJ6 hk J6
   refine fun J18 hJ18=>fun _=>?_
   have hok:(decide (fm.Least<=(gs.length:Int))&&decide ((gs.length:Int)<=fm.Most))=true->J18 ():=by
    intro hb
    rw [if_pos hb] at hk2
    refine hJ18 () ?_
    refine ifk (fun hl=>?_) (fun hl=>?_)
    ·rw [if_pos (by simpa using hl)] at hk2; exact hk2
    rw [if_neg (by simpa using hl)] at hk2
    simp only [implies_true,forall_const,jn_app,jval,bor]
    refine fun _ _=>?_
    by_cases h31:op=31\/op=34
    ·rw [if_pos (by simpa using h31)]
     rw [if_pos h31] at hk2
     exact hk2
    ·rw [if_neg (by simpa using h31)]
     rw [if_neg h31] at hk2
     exact hk2
   refine ifk (fun c1=>ifk (fun c2=>?_) (fun c2=>?_)) (fun c1=>?_)
   ·rw [if_neg (by rw [c1]; simpa using c2)] at hk2; exact hk2
   ·exact hok (by rw [c1]; simpa using c2)
   ·rw [if_neg (by rw [Bool.eq_false_iff.2 c1]; simp)] at hk2; exact hk2
  clear hJ6
  refine fun J8 hJ8=>?_
  have g8:=hJ8 (decide (op=26)||decide (op=27)) ?_
  ·cases h26:decide (op=26) with
   | true=>rw [h26] at g8; exact g8
   | false=>rw [h26] at g8; exact g8
  clear hJ8 J8
  refine ifk (fun c=>?_) (fun c=>?_)
  ·have c:op=26\/op=27:=by simpa using c
   have hnm:=h26 c
   rw [if_pos c] at hk
   refine fun _=>ifk (fun c3=>?_) (fun c3=>?_)
   ·rw [if_pos (by rw [List.length_drop] at c3; simp at c3; omega)] at hk; exact hk
   have h3:3<=l'.length:=by rw [List.length_drop] at c3; simp at c3; omega
   rw [if_neg (by omega)] at hk
   simp only [hnm,Bool.true_and,sArgs_cons,Bool.not_not] at hk
   have ew2:(l'.drop 1).getD 1 default=Lt.w2 l':=by rw [List.getD,List.getElem?_drop]; rfl
   have ew1:((l'.drop 1).drop 0).take (1 - 0)=[Lt.w1 l']:=by
    rw [List.drop_zero,List.drop_eq_getElem_cons (show 1<l'.length by omega)]
    unfold Lt.w1
    rw [List.getD,List.getElem?_eq_getElem (show 1<l'.length by omega)]; rfl
   have ed3:((l'.drop 1).drop 2).take ((l'.drop 1).length - 2)=l'.drop 3:=by rw [List.drop_drop,List.take_of_length_le (by simp only [List.length_drop]; omega)]
   rw [ew2,ew1,ed3]
   refine ⟨⟨by decide,by rw [List.length_drop]; omega⟩,?_⟩
   have hE:∀ {P:Prop},(Lt.rName (Lt.w2 l')=false->KP (Lt.flt 3) r)/\(Lt.rName (Lt.w2 l')=true->P)->(if Lt.rName (Lt.w2 l')=true then P else KP (Lt.flt 3) r):=by
    intro P ⟨a,b⟩
    refine ifk b (fun hc=>a (Bool.eq_false_iff.2 hc))
   refine hE ⟨fun hn=>?_,fun hn=>?_⟩
   ·rw [hn] at hk; simpa using hk
   rw [hn] at hk
   refine ⟨by decide,⟨by decide,by rw [List.length_drop]; omega⟩,by decide,⟨by rw [List.length_drop]; omega,Nat.le_refl _⟩,fun _=>?_⟩
   refine nat_loop _ 1 (fun i x=>(i=0/\x=(([]:List Lt.Arg),(0:Int)))\/(i=1/\x=([(Lt.sArg (Lt.w1 l')).1],(1:Int))/\Lt.argOk false (Lt.w1 l')=true)) (fun R i x hi hx hR=>?_) (fun R x hx=>?_) _ (Or.inl ⟨rfl,rfl⟩)
   ·rcases hx with ⟨rfl,rfl⟩ | ⟨h1,_⟩
    ·show (if decide ((0:Int) < (([Lt.w1 l']:List (List UInt8)).length:Int))=true then _ else _)
     rw [if_pos (by simp)]
     refine ⟨⟨Int.le_refl _,Nat.one_pos⟩,?_⟩
     show (if Lt.argOk false (Lt.w1 l')=true then _ else _)
     refine ifk (fun ca=>?_) (fun ca=>?_)
     ·exact ⟨⟨by show 0+1<=_; decide,by show (0+1)*32<=_; decide⟩,hR _ (Or.inr ⟨rfl,rfl,ca⟩)⟩
     ·rw [if_neg ca] at hk; simpa using hk
    ·omega
   ·rcases hx with ⟨h1,_⟩ | ⟨_,rfl,ca⟩
    ·omega
    ·show (if decide ((1:Int) < (([Lt.w1 l']:List (List UInt8)).length:Int))=true then _ else _)
     rw [if_neg (by simp)]
     rw [if_pos ca] at hk
     refine ⟨by show (l'.drop 3).length<=1099511627776; rw [List.length_drop]; omega,?_⟩
     refine ifk (fun ca2=>?_) (fun ca2=>?_)
     ·rw [if_pos ca2] at hk
      have hlen:(Lt.sArgs (l'.drop 3) false).1.length<=1099511627776:=by
       unfold Lt.sArgs; split
       ·rw [List.length_map,List.length_drop]; omega
       ·simp
      refine ⟨⟨by rw [List.length_singleton]; omega,by rw [List.length_singleton]; omega⟩,key2 _ _ ?_⟩
      rw [List.singleton_append]
      simp only [Bool.true_and] at hk
      refine ifk (fun cc=>?_) (fun cc=>?_)
      ·rw [if_pos cc] at hk; exact hk
      ·rw [if_neg cc] at hk; exact hk
     ·rw [if_neg ca2] at hk; simpa using hk
  ·have c:¬ (op=26\/op=27):=by simpa using c
   rw [if_neg c] at hk
   refine ifk (fun hnm=>?_) (fun hnm=>?_)
   ·rw [if_pos hnm] at hk
    refine fun _=>ifk (fun c3=>?_) (fun c3=>?_)
    ·rw [if_pos (by rw [List.length_drop] at c3; simp at c3; omega)] at hk; exact hk
    have h3:2<=l'.length:=by rw [List.length_drop] at c3; simp at c3; omega
    rw [if_neg (by omega)] at hk
    simp only [hnm,Bool.true_and,Bool.not_not] at hk
    have ew2:(l'.drop 1).getD 0 default=Lt.w1 l':=by rw [List.getD,List.getElem?_drop]; rfl
    have ed3:((l'.drop 1).drop 1).take ((l'.drop 1).length - 1)=l'.drop 2:=by rw [List.drop_drop,List.take_of_length_le (by simp only [List.length_drop]; omega)]
    rw [ew2,ed3]
    refine ⟨⟨by decide,by rw [List.length_drop]; omega⟩,?_⟩
    refine ifk (fun hn=>?_) (fun hn=>?_)
    ·rw [hn] at hk
     refine ⟨by decide,⟨by rw [List.length_drop]; omega,Nat.le_refl _⟩,by show (l'.drop 2).length<=1099511627776; rw [List.length_drop]; omega,?_⟩
     refine ifk (fun ca2=>key2 _ _ ?_) (fun ca2=>?_)
     ·rw [ca2] at hk
      simp only [Bool.true_and] at hk
      refine ifk (fun cc=>?_) (fun cc=>?_)
      ·rw [if_pos cc] at hk; exact hk
      ·rw [if_neg cc] at hk; exact hk
     ·rw [Bool.eq_false_iff.2 ca2] at hk; simpa using hk
    ·rw [Bool.eq_false_iff.2 hn] at hk; simpa using hk
   ·rw [if_neg hnm] at hk
    have hnm:fm.Named=false:=Bool.eq_false_iff.2 hnm
    simp only [hnm,Bool.false_and,Bool.not_false,Bool.and_true] at hk
    refine ⟨by show (l'.drop 1).length<=1099511627776; rw [List.length_drop]; omega,?_⟩
    refine ifk (fun ca2=>key2 _ _ ?_) (fun ca2=>?_)
    ·rw [ca2] at hk
     simp only [Bool.true_and] at hk
     refine ifk (fun cc=>?_) (fun cc=>?_)
     ·rw [if_pos cc] at hk; exact hk
     ·rw [if_neg cc] at hk; exact hk
    ·rw [Bool.eq_false_iff.2 ca2] at hk; simpa using hk
 have es:((decide (2 < (l.length:Int)))&&(decide (Lt.w1 l=[61])))=Lt.sEq l:=by
  unfold Lt.sEq; rw [show decide (2 < (l.length:Int))=decide (2<l.length) from decide_eq_decide.2 (by omega)]
 refine fun J3 hJ3=>?_
 have hE:=hJ3 (Lt.sEq l) ?_
 ·refine fun _=>ifk (fun hc=>⟨⟨by decide,by simp at hc; omega⟩,?_⟩) (fun hc=>?_)
  ·rw [<- es,hc,Bool.true_and] at hE; exact hE
  ·rw [<- es,Bool.eq_false_iff.2 hc,Bool.false_and] at hE; exact hE
 show (if Lt.sEq l=true then _ else _)
 by_cases hs:Lt.sEq l=true
 ·rw [if_pos hs]
  rw [hs] at h
  have h2:2<l.length:=by unfold Lt.sEq at hs; simp only [Bool.and_eq_true,decide_eq_true_eq] at hs; exact hs.1
  refine ⟨⟨by decide,h0⟩,?_⟩
  refine ifk (fun hc=>⟨by decide,⟨by omega,Nat.le_refl _⟩,?_⟩) (fun hc=>?_)
  ·rw [hc] at h
   have ed:(l.drop 2).take (l.length - 2)=l.drop 2:=List.take_of_length_le (by rw [List.length_drop]; omega)
   rw [ed]
   exact key _ _ (by rw [List.length_drop]; omega) (by rw [List.length_drop]; omega) h
  ·rw [Bool.eq_false_iff.2 hc] at h
   exact h
 ·rw [if_neg hs]
  rw [Bool.eq_false_iff.2 hs] at h
  exact key _ _ h0 hr h
end Go.Am
end

section
namespace Go.Am
open Go
set_option linter.unusedVariables false
set_option linter.unusedSimpArgs false
theorem ff {r:Lt.Read}:¬ ((false,(0:Int)),r).1.1=true:=fun h=>by simp at h
theorem kind_eq (w:List UInt8):Lt.sKind w=Lt.kind w:=by
 unfold Lt.sKind Lt.kind
 rw [rName_eq,Bool.or_assoc]
theorem last_snoc {α:Type} [Inhabited α] (l:List α) (x:α) (f:α->α):Lt.last (l++[x]) f=l++[f x]:=by
 unfold Lt.last
 rw [getD_snoc,set_snoc]
def stF (p:Lt.Program) (fs:List Lt.Func) (f:Lt.Func) (w n:Int):Lt.Read:=⟨{ p with Funcs:=fs++[f] },w,n⟩
def stB (p:Lt.Program) (fs:List Lt.Func) (f:Lt.Func) (bs:List Lt.Block) (b:Lt.Block) (w n:Int):Lt.Read:=stF p fs { f with Blocks:=bs++[b] } w n
def stI (p:Lt.Program) (fs:List Lt.Func) (f:Lt.Func) (bs:List Lt.Block) (b:Lt.Block) (cs:List Lt.Instr) (x:Lt.Instr) (w n:Int):Lt.Read:=stB p fs f bs { b with Code:=cs++[x] } w n
section
variable (p:Lt.Program) (fs:List Lt.Func) (f:Lt.Func) (bs:List Lt.Block) (b:Lt.Block) (cs:List Lt.Instr) (x:Lt.Instr) (w n:Int)
theorem func_st (g:Lt.Func->Lt.Func):(stF p fs f w n).func g=stF p fs (g f) w n:=by
 unfold Lt.Read.func stF
 rw [last_snoc]
theorem block_st (g:Lt.Block->Lt.Block):(stB p fs f bs b w n).block g=stB p fs f bs (g b) w n:=by
 unfold Lt.Read.block stB
 rw [func_st]
 simp only [last_snoc]
theorem instr_st (g:Lt.Instr->Lt.Instr):(stI p fs f bs b cs x w n).instr g=stI p fs f bs b cs (g x) w n:=by
 unfold Lt.Read.instr stI
 rw [block_st]
 simp only [last_snoc]
theorem curF_st:(stF p fs f w n).curF=f:=by unfold Lt.Read.curF stF; exact getD_snoc _ _
theorem curB_st:(stB p fs f bs b w n).curB=b:=by
 unfold Lt.Read.curB stB; rw [curF_st]; exact getD_snoc _ _
theorem curI_st:(stI p fs f bs b cs x w n).curI=x:=by
 unfold Lt.Read.curI stI; rw [curB_st]; exact getD_snoc _ _
end
end Go.Am
end

section
namespace Go.Am
open Go
set_option linter.unusedVariables false
set_option linter.unusedSimpArgs false
theorem longs_snoc (bs:List Lt.Block) (b:Lt.Block):longs (bs++[b])=longs bs+(b.Phis.length+b.Code.length):=by simp [longs]
theorem blocks_mk:∀ (l:List Lt.Block) (n:Nat),n+longs l<=1024->(∀ b∈l,Lt.block b=true)->Lt.blocks l n=true
 | [],_,_,_=>rfl
 | b::r,n,h,hb=>by
  have e:longs (b::r)=(b.Phis.length+b.Code.length)+longs r:=by simp [longs]
  rw [e] at h
  rw [Lt.blocks,hb b (by simp),blocks_mk r _ (by omega) (fun x hx=>hb x (by simp [hx]))]
  simp; omega
def headOk (f:Lt.Func):Prop:=Lt.Name f.Name=true/\Lt.kind f.Result=true/\Lt.typed f.Params 6=true/\Lt.typed f.Vars 1024=true
structure Open (f:Lt.Func) (bs:List Lt.Block) (b:Lt.Block) (w n:Int):Prop where
 hd:headOk f
 len:bs.length+1<=256
 long:n=((longs bs+(b.Phis.length+b.Code.length):Nat):Int)
 most:n<=1024
 bl:bs.all Lt.block=true
 nm:Lt.Name b.Name=true
 ph:b.Phis.all Lt.phi=true
 cd:b.Code.all Lt.instr=true
 fin:w=9->Lt.showEnd b.End=true
 ins:6<=w->w<=8->∃ cs c,b.Code=cs++[c]/\(7<=w->c.Op=31\/c.Op=34)
theorem part_mk {f:Lt.Func} {bs:List Lt.Block} {b:Lt.Block} {w n:Int} (hw:5<=w) (h:Open f bs b w n):Lt.fnPart { f with Blocks:=bs++[b] } w n:=by
 have hl:=h.long
 have hm:=h.most
 refine ⟨h.hd,⟨by simpa using h.len,by omega,hm⟩,fun _=>by omega,fun _=>⟨bs,b,rfl,h.bl,?_,⟨h.nm,h.ph,h.cd⟩,h.fin,h.ins⟩⟩
 have:=longs_snoc bs b
 unfold longs at this
 rw [hl]
 unfold longs
 rw [this]
theorem part_open {f:Lt.Func} {w n:Int} (hw:5<=w) (h:Lt.fnPart f w n):∃ bs b,f.Blocks=bs++[b]/\Open f bs b w n:=by
 obtain ⟨h1,⟨h2,h3,h4⟩,_,h5⟩:=h
 obtain ⟨bs,b,e,hb,hn,⟨k1,k2,k3⟩,hf,hi⟩:=h5 hw
 refine ⟨bs,b,e,⟨h1,by rw [e] at h2; simpa using h2,?_,h4,hb,k1,k2,k3,hf,hi⟩⟩
 rw [hn,e]
 have:=longs_snoc bs b
 unfold longs at this ⊢
 rw [this]
theorem part_fin {f:Lt.Func} {n:Int} (h:Lt.fnPart f 9 n):Lt.showFunction f=true:=by
 obtain ⟨bs,b,e,o⟩:=part_open (by omega) h
 obtain ⟨h1,h2,h3,h4⟩:=o.hd
 have hl:=o.long
 have hm:=o.most
 have hn:=o.len
 unfold Lt.showFunction
 have hb:∀ x∈f.Blocks,Lt.block x=true:=by
  rw [e]
  intro x hx
  rcases List.mem_append.1 hx with hx | hx
  ·exact List.all_eq_true.1 o.bl x hx
  ·rw [List.mem_singleton.1 hx]
   unfold Lt.block
   rw [o.nm,o.fin rfl,o.ph,o.cd]; rfl
 have hbl:Lt.blocks f.Blocks 0=true:=by
  refine blocks_mk _ _ ?_ hb
  rw [e,longs_snoc]; omega
 have hne:decide (f.Blocks=[])=false:=by rw [e]; simp
 have hle:decide (f.Blocks.length<=256)=true:=by rw [e]; simp; omega
 rw [h1,h2,h3,h4,hbl,hne,hle]; rfl
theorem out_all {r:Lt.Read} (h:Lt.Inv r) (ho:r.out=true):r.P.Funcs.all Lt.showFunction=true:=by
 obtain ⟨_,_,_,_,h2,h3⟩:=h
 have ho:r.Where<=2\/r.Where=9:=by simpa [Lt.Read.out] using ho
 rcases ho with ho | ho
 ·exact h2 ho
 ·obtain ⟨fs,f,e,hf,hp⟩:=h3 (by omega)
  rw [ho] at hp
  rw [e,List.all_append,hf]
  simp [part_fin hp]
theorem inv_st {p:Lt.Program} {fs:List Lt.Func} {f f':Lt.Func} {w w' n n':Int} (h:Lt.Inv (stF p fs f w n)) (hw:3<=w) (h1:3<=w') (h2:w'<=9) (hp:Lt.fnPart f' w' n'):Lt.Inv (stF p fs f' w' n'):=by
 obtain ⟨_,⟨a1,a2,a3⟩,⟨a4,a5,a6⟩,_,_,a7⟩:=h
 obtain ⟨fs0,f0,e,hf,_⟩:=a7 hw
 have e:fs++[f]=fs0++[f0]:=e
 obtain ⟨e1,_⟩:=List.append_inj' e rfl
 subst e1
 have a3:(fs++[f]).length<=8:=a3
 refine ⟨⟨by show 0<=w'; omega,h2⟩,⟨a1,a2,by show (fs++[f']).length<=8; simpa using a3⟩,⟨a4,a5,a6⟩,fun h=>?_,fun h=>?_,fun _=>⟨fs,f',rfl,hf,hp⟩⟩
 ·have:w'=1:=h
  omega
 ·have:w'<=2:=h
  omega
theorem inv_open {r:Lt.Read} (h:Lt.Inv r) (hw:3<=r.Where):∃ p fs f,r=stF p fs f r.Where r.Long/\Lt.fnPart f r.Where r.Long:=by
 obtain ⟨_,_,_,_,_,a7⟩:=h
 obtain ⟨fs,f,e,_,hp⟩:=a7 hw
 refine ⟨r.P,fs,f,?_,hp⟩
 unfold stF
 rw [<- e]
theorem inv_open5 {r:Lt.Read} (h:Lt.Inv r) (hw:5<=r.Where):∃ p fs f bs b,r=stB p fs f bs b r.Where r.Long/\Open f bs b r.Where r.Long:=by
 obtain ⟨p,fs,f,e,hp⟩:=inv_open h (by omega)
 obtain ⟨bs,b,e2,o⟩:=part_open hw hp
 refine ⟨p,fs,f,bs,b,?_,o⟩
 unfold stB
 rw [<- e2]; exact e
theorem inv_mk5 {p:Lt.Program} {fs:List Lt.Func} {f:Lt.Func} {bs bs':List Lt.Block} {b b':Lt.Block} {w w' n n':Int} (h:Lt.Inv (stB p fs f bs b w n)) (hw:5<=w) (h1:5<=w') (h2:w'<=9) (o:Open f bs' b' w' n'):Lt.Inv (stB p fs f bs' b' w' n'):=
 inv_st h (by omega) (by omega) h2 (part_mk h1 o)
theorem typed_snoc {l:List Lt.Var} {v:Lt.Var} {k:Nat} (h:Lt.typed l k=true) (hl:l.length<k) (h1:Lt.Name v.Name=true) (h2:Lt.kind v.Type_=true):Lt.typed (l++[v]) k=true:=by
 unfold Lt.typed at h ⊢
 simp only [Bool.and_eq_true] at h
 rw [List.all_append,h.2]
 simp [h1,h2]; omega
theorem typed_back {l:List (List UInt8)} (h:Lt.sTyped l=true):Lt.Name (Lt.w1 l)=true/\Lt.kind (Lt.w2 l)=true:=by
 unfold Lt.sTyped at h
 rw [rName_eq,kind_eq] at h
 simp only [Bool.and_eq_true] at h
 exact h.2
theorem snoc_of {α:Type} {l:List α} (h:l≠[]):∃ i x,l=i++[x]:=⟨l.dropLast,l.getLast h,(List.dropLast_concat_getLast h).symm⟩
theorem Inv_mk {s:Bool} {cs:List Lt.Class} {gs:List Lt.Var} {es:List Lt.Extern} {fs:List Lt.Func} {w n:Int} (h0:0<=w) (h9:w<=9) (a1:cs.length<=8) (a2:es.length<=8) (a3:fs.length<=8) (a4:Lt.typed gs 8=true) (a5:cs.all Lt.classRight=true) (a6:es.all Lt.externRight=true)
  (a7:w=1->cs≠[]) (a8:w<=2->fs.all Lt.showFunction=true) (a9:3<=w->∃ fs0 f,fs=fs0++[f]/\fs0.all Lt.showFunction=true/\Lt.fnPart f w n):Lt.Inv ⟨⟨s,cs,gs,es,fs⟩,w,n⟩:=⟨⟨h0,h9⟩,⟨a1,a2,a3⟩,⟨a4,a5,a6⟩,a7,a8,a9⟩
theorem inv_class {r:Lt.Read} {l:List (List UInt8)} (h:Lt.Inv r) (hz:(Lt.sClass r l).1=0):Lt.Inv (Lt.sClass r l).2:=by
 unfold Lt.sClass at hz ⊢
 split at hz
 ·cases hz
 rename_i c1; rw [if_neg c1]
 split at hz
 ·cases hz
 rename_i c2; rw [if_neg c2]
 simp only [Bool.not_eq_false,Bool.and_eq_true,rName_eq] at c1
 have hf:=out_all h c1.1.1
 obtain ⟨_,⟨a1,a2,a3⟩,⟨a4,a5,a6⟩,_⟩:=h
 refine Inv_mk (by decide) (by decide) (by simp; omega) a2 a3 a4 ?_ a6 (fun _=>by simp) (fun _=>hf) (fun h=>absurd h (by decide))
 rw [List.all_append,a5]
 simp only [List.all_cons,List.all_nil,Bool.and_true,Bool.true_and]
 unfold Lt.classRight
 rw [c1.2]; rfl
theorem inv_field {r:Lt.Read} {l:List (List UInt8)} (h:Lt.Inv r) (hz:(Lt.sField r l).1=0):Lt.Inv (Lt.sField r l).2:=by
 unfold Lt.sField at hz ⊢
 split at hz
 ·cases hz
 rename_i c1; rw [if_neg c1]
 split at hz
 ·cases hz
 rename_i c2; rw [if_neg c2]
 simp only [Bool.not_eq_false,Bool.and_eq_true,decide_eq_true_eq] at c1
 obtain ⟨c1,ct⟩:=c1
 obtain ⟨t1,t2⟩:=typed_back ct
 obtain ⟨a0,⟨a1,a2,a3⟩,⟨a4,a5,a6⟩,a7,a8,a9⟩:=h
 obtain ⟨i,c,e⟩:=snoc_of (a7 c1)
 rw [e,getD_snoc] at c2
 rw [e] at a5 a1
 rw [List.all_append] at a5
 simp only [Bool.and_eq_true,List.all_cons,List.all_nil,and_true] at a5
 obtain ⟨p1,p2⟩:=a5
 unfold Lt.classRight at p2
 simp only [Bool.and_eq_true] at p2
 have key:Lt.last r.P.Classes (fun c=>{ c with Fields:=c.Fields++[⟨Lt.w1 l,Lt.w2 l⟩] })=i++[{ c with Fields:=c.Fields++[⟨Lt.w1 l,Lt.w2 l⟩] }]:=by rw [e,last_snoc]
 show Lt.Inv ⟨⟨r.P.SSA,Lt.last r.P.Classes (fun c=>{ c with Fields:=c.Fields++[⟨Lt.w1 l,Lt.w2 l⟩] }),r.P.Globals,r.P.Externs,r.P.Funcs⟩,r.Where,r.Long⟩
 rw [key]
 refine Inv_mk a0.1 a0.2 (by simpa using a1) a2 a3 a4 ?_ a6 (fun _=>by simp) a8 (fun h=>by omega)
 ·rw [List.all_append,p1]
  simp only [List.all_cons,List.all_nil,Bool.and_true,Bool.true_and]
  unfold Lt.classRight
  have:=typed_snoc (k:=8) (v:=⟨Lt.w1 l,Lt.w2 l⟩) p2.2 (by omega) t1 t2
  rw [p2.1]; simpa using this
theorem limit_0 {n k:Nat} (h:(if k<=n then (2:Int) else 0)=0):n<k:=by
 split at h
 ·cases h
 ·omega
theorem inv_global {r:Lt.Read} {l:List (List UInt8)} (h:Lt.Inv r) (hz:(Lt.sGlobal r l).1=0):Lt.Inv (Lt.sGlobal r l).2:=by
 unfold Lt.sGlobal at hz ⊢
 split at hz
 ·cases hz
 rename_i c1; rw [if_neg c1]
 have c2:=limit_0 hz
 simp only [Bool.not_eq_false,Bool.and_eq_true] at c1
 obtain ⟨t1,t2⟩:=typed_back c1.2
 have hf:=out_all h c1.1
 obtain ⟨_,⟨a1,a2,a3⟩,⟨a4,a5,a6⟩,_⟩:=h
 exact Inv_mk (w:=2) (by decide) (by decide) a1 a2 a3 (typed_snoc (k:=8) a4 c2 t1 t2) a5 a6 (fun h=>absurd h (by decide)) (fun _=>hf) (fun h=>absurd h (by decide))
theorem inv_extern {r:Lt.Read} {l:List (List UInt8)} (h:Lt.Inv r) (hz:(Lt.sExtern r l).1=0):Lt.Inv (Lt.sExtern r l).2:=by
 unfold Lt.sExtern at hz ⊢
 split at hz
 ·cases hz
 rename_i c1; rw [if_neg c1]
 have c2:=limit_0 hz
 simp only [Bool.not_eq_false,Bool.and_eq_true,rName_eq] at c1
 have hf:=out_all h c1.1.1.1
 obtain ⟨_,⟨a1,a2,a3⟩,⟨a4,a5,a6⟩,_⟩:=h
 refine Inv_mk (w:=2) (by decide) (by decide) a1 (by simp; omega) a3 a4 a5 ?_ (fun h=>absurd h (by decide)) (fun _=>hf) (fun h=>absurd h (by decide))
 rw [List.all_append,a6]
 simp only [List.all_cons,List.all_nil,Bool.and_true,Bool.true_and]
 unfold Lt.externRight
 rw [c1.1.2,c1.2.1.2,c1.2.2]; rfl
theorem inv_func {r:Lt.Read} {l:List (List UInt8)} (h:Lt.Inv r) (hz:(Lt.sFunc r l).1=0):Lt.Inv (Lt.sFunc r l).2:=by
 unfold Lt.sFunc at hz ⊢
 split at hz
 ·cases hz
 rename_i c1; rw [if_neg c1]
 have c2:=limit_0 hz
 simp only [Bool.not_eq_false,Bool.and_eq_true] at c1
 obtain ⟨t1,t2⟩:=typed_back c1.2
 have hf:=out_all h c1.1
 obtain ⟨_,⟨a1,a2,a3⟩,⟨a4,a5,a6⟩,_⟩:=h
 exact Inv_mk (w:=3) (n:=0) (by decide) (by decide) a1 a2 (by simp; omega) a4 a5 a6 (fun h=>absurd h (by decide)) (fun h=>absurd h (by decide)) (fun _=>⟨r.P.Funcs,_,rfl,hf,⟨⟨t1,t2,by simp [Lt.typed],by simp [Lt.typed]⟩,⟨by simp,by decide,by decide⟩,fun _=>⟨rfl,rfl⟩,fun h=>absurd h (by decide)⟩⟩)
theorem inv_param {r:Lt.Read} {l:List (List UInt8)} (h:Lt.Inv r) (hz:(Lt.sParam r l).1=0):Lt.Inv (Lt.sParam r l).2:=by
 unfold Lt.sParam at hz ⊢
 split at hz
 ·cases hz
 rename_i c1; rw [if_neg c1]
 have c2:=limit_0 hz
 simp only [Bool.not_eq_false,Bool.and_eq_true,decide_eq_true_eq] at c1
 obtain ⟨c1,ct⟩:=c1
 obtain ⟨t1,t2⟩:=typed_back ct
 obtain ⟨p,fs,f,e,hp⟩:=inv_open h (by omega)
 rw [e,curF_st] at c2
 rw [e] at h
 obtain ⟨⟨k1,k2,k3,k4⟩,k5,k6,_⟩:=hp
 have key:=inv_st (f':={ f with Params:=f.Params++[⟨Lt.w1 l,Lt.w2 l⟩] }) (w':=3) (n':=r.Long) h (by omega) (by omega) (by omega) ⟨⟨k1,k2,typed_snoc (k:=6) k3 c2 t1 t2,k4⟩,k5,fun _=>k6 (by omega),fun h=>absurd h (by decide)⟩
 have e2:r.func (fun f=>{ f with Params:=f.Params++[⟨Lt.w1 l,Lt.w2 l⟩] })=stF p fs { f with Params:=f.Params++[⟨Lt.w1 l,Lt.w2 l⟩] } 3 r.Long:=by
  rw [e,func_st,c1]; rfl
 rw [e2]; exact key
theorem inv_var {r:Lt.Read} {l:List (List UInt8)} (h:Lt.Inv r) (hz:(Lt.sVar r l).1=0):Lt.Inv (Lt.sVar r l).2:=by
 unfold Lt.sVar at hz ⊢
 split at hz
 ·cases hz
 rename_i c1; rw [if_neg c1]
 have c2:=limit_0 hz
 simp only [Bool.not_eq_false,Bool.and_eq_true,decide_eq_true_eq,Bool.or_eq_true] at c1
 obtain ⟨c1,ct⟩:=c1
 obtain ⟨t1,t2⟩:=typed_back ct
 obtain ⟨p,fs,f,e,hp⟩:=inv_open h (by omega)
 rw [e,curF_st] at c2
 rw [e] at h
 obtain ⟨⟨k1,k2,k3,k4⟩,k5,k6,_⟩:=hp
 have key:=inv_st (f':={ f with Vars:=f.Vars++[⟨Lt.w1 l,Lt.w2 l⟩] }) (w':=4) (n':=r.Long) h (by omega) (by omega) (by omega) ⟨⟨k1,k2,k3,typed_snoc (k:=1024) k4 c2 t1 t2⟩,k5,fun _=>k6 (by omega),fun h=>absurd h (by decide)⟩
 have e2:r.func (fun f=>{ f with Vars:=f.Vars++[⟨Lt.w1 l,Lt.w2 l⟩] })=stF p fs { f with Vars:=f.Vars++[⟨Lt.w1 l,Lt.w2 l⟩] } r.Where r.Long:=by
  rw [e,func_st]; rfl
 rw [e2]; exact key
theorem inv_block {r:Lt.Read} {l:List (List UInt8)} (h:Lt.Inv r) (hz:(Lt.sBlock r l).1=0):Lt.Inv (Lt.sBlock r l).2:=by
 unfold Lt.sBlock at hz ⊢
 split at hz
 ·cases hz
 rename_i c1; rw [if_neg c1]
 have c2:=limit_0 hz
 simp only [Bool.not_eq_false,Bool.and_eq_true,decide_eq_true_eq,Bool.or_eq_true,rName_eq] at c1
 obtain ⟨⟨c1,_⟩,cn⟩:=c1
 obtain ⟨p,fs,f,e,hp⟩:=inv_open h (by omega)
 rw [e,curF_st] at c2
 rw [e] at h
 have e2:r.func (fun f=>{ f with Blocks:=f.Blocks++[⟨Lt.w1 l,[],[],⟨0,⟨0,[],0⟩,[],0⟩⟩] })=stF p fs { f with Blocks:=f.Blocks++[⟨Lt.w1 l,[],[],⟨0,⟨0,[],0⟩,[],0⟩⟩] } r.Where r.Long:=by
  rw [e,func_st]; rfl
 rw [e2]
 have hall:f.Blocks.all Lt.block=true/\r.Long=((longs f.Blocks:Nat):Int)/\r.Long<=1024:=by
  by_cases h9:r.Where=9
  ·rw [h9] at hp
   have hs:=func_ok (part_fin hp)
   obtain ⟨bs,b,eb,o⟩:=part_open (by omega) hp
   exact ⟨List.all_eq_true.2 hs.bl,by rw [o.long,eb,longs_snoc],o.most⟩
  ·obtain ⟨_,_,k6,_⟩:=hp
   obtain ⟨k7,k8⟩:=k6 (by omega)
   rw [k7,k8]
   exact ⟨rfl,rfl,by decide⟩
 refine inv_st h (by omega) (by omega) (by omega) (part_mk (by omega) ⟨hp.1,by omega,?_,hall.2.2,hall.1,cn,rfl,rfl,fun h=>absurd h (by decide),fun h=>absurd h (by decide)⟩)
 show r.Long=_
 rw [hall.2.1]; simp
theorem pairs_back {objs:Bool} {l:List (List UInt8)} {k:Int} (h:(Lt.sPairs l k objs).2=true):(∀ b∈(Lt.sPairs l k objs).1,Lt.Name b.Name=true/\Lt.argRight objs b.A=true)/\((Lt.sPairs l k objs).1.flatMap fun b=>[b.Name,Lt.wordPut b.A])=l.drop k.toNat:=by
 unfold Lt.sPairs at h ⊢
 split at h
 ·cases h
 rename_i hc; rw [if_neg hc]
 cases hg:Lt.sPairsG objs (l.drop k.toNat) with
 | none=>rw [hg] at h; cases h
 | some x=>exact pairsG_back hg
theorem inv_phi {r:Lt.Read} {l:List (List UInt8)} (h:Lt.Inv r) (hz:(Lt.sPhi r l).1=0):Lt.Inv (Lt.sPhi r l).2:=by
 unfold Lt.sPhi at hz ⊢
 split at hz
 ·cases hz
 rename_i c1; rw [if_neg c1]
 split at hz
 ·cases hz
 rename_i c2; rw [if_neg c2]
 simp only [Bool.not_eq_false,Bool.and_eq_true,decide_eq_true_eq,Bool.not_eq_true',decide_eq_false_iff_not,rName_eq] at c1
 obtain ⟨⟨⟨c1,cp⟩,ce⟩,cn⟩:=c1
 obtain ⟨p,fs,f,bs,b,e,o⟩:=inv_open5 h (by omega)
 rw [e] at h
 have e2:({ r.block (fun b=>{ b with Phis:=b.Phis++[⟨Lt.w1 l,(Lt.sPairs l 2 false).1.map fun x=>⟨x.Name,x.A⟩⟩] }) with Long:=r.Long+1 }:Lt.Read)=stB p fs f bs { b with Phis:=b.Phis++[⟨Lt.w1 l,(Lt.sPairs l 2 false).1.map fun x=>⟨x.Name,x.A⟩⟩] } 5 (r.Long+1):=by
  have:r.block (fun b=>{ b with Phis:=b.Phis++[⟨Lt.w1 l,(Lt.sPairs l 2 false).1.map fun x=>⟨x.Name,x.A⟩⟩] })=stB p fs f bs { b with Phis:=b.Phis++[⟨Lt.w1 l,(Lt.sPairs l 2 false).1.map fun x=>⟨x.Name,x.A⟩⟩] } r.Where r.Long:=by
   rw [e,block_st]; rfl
  rw [this,c1]; rfl
 rw [e2]
 have hl:=o.long
 refine inv_mk5 h (by omega) (by omega) (by omega) ⟨o.hd,o.len,?_,by omega,o.bl,o.nm,?_,o.cd,fun h=>absurd h (by decide),fun h=>absurd h (by decide)⟩
 ·simp only [List.length_append,List.length_cons,List.length_nil]; omega
 ·rw [List.all_append,o.ph]
  simp only [List.all_cons,List.all_nil,Bool.and_true,Bool.true_and]
  unfold Lt.phi
  have hp:=(pairs_back cp).1
  have e1:decide (((Lt.sPairs l 2 false).1.map fun x=>(⟨x.Name,x.A⟩:Lt.In))=[])=false:=by
   simp only [decide_eq_false_iff_not,List.map_eq_nil_iff]
   intro e; rw [e] at ce; exact ce rfl
  have e3:((Lt.sPairs l 2 false).1.map fun x=>(⟨x.Name,x.A⟩:Lt.In)).all Lt.inRight=true:=by
   rw [List.all_map,List.all_eq_true]
   intro x hx
   show (Lt.Name x.Name&&Lt.argRight false x.A)=true
   rw [(hp x hx).1,(hp x hx).2]; rfl
  rw [cn,e1,e3]
  simp; omega
theorem sInstr_back {dst:List UInt8} {l:List (List UInt8)} {x:Lt.Instr} (h:Lt.sInstr dst l=some x) (hd:dst≠[]->Lt.Name dst=true):Lt.instr x=true/\x.Frames=[]/\x.Objs=[]:=by
 unfold Lt.sInstr at h
 split at h
 ·cases h
 rename_i c1
 simp only [Bool.not_eq_false,Bool.and_eq_true,beq_iff_eq] at c1
 obtain ⟨_,o2,o3⟩:=sOp_back c1.1
 obtain ⟨_,e2,e3,e4,e5,e6⟩:=rOf_eq (Lt.sOp (Lt.w0 l)).1
 rw [e3] at c1
 split at h
 ·cases h
 rename_i nm rest hr
 split at h
 ·rename_i c2
  simp only [Bool.and_eq_true,decide_eq_true_eq] at c2
  obtain ⟨⟨⟨c2,c3⟩,c4⟩,c5⟩:=c2
  rw [e4,rName_eq] at c3
  rw [e5] at c4
  rw [e6] at c5
  simp only [Option.some.injEq] at h
  subst h
  refine ⟨?_,rfl,rfl⟩
  have hsa:=(sArgs_back c2).1
  have hN:(Lt.Of (Lt.sOp (Lt.w0 l)).1).1.Named=!decide (nm=[]):=by
   unfold Lt.sRest at hr
   cases hn:(Lt.Of (Lt.sOp (Lt.w0 l)).1).1.Named with
   | true=>
    rw [hn] at c3
    have:Lt.Name nm=true:=by simpa using c3
    cases nm with
    | nil=>cases this
    | cons a r=>rfl
   | false=>
    split at hr
    ·rename_i hc
     have h26:(Lt.Of 26).1.Named=true:=by decide +kernel
     have h27:(Lt.Of 27).1.Named=true:=by decide +kernel
     rcases hc with e | e <;> rw [e] at hn
     ·rw [h26] at hn; cases hn
     ·rw [h27] at hn; cases hn
    ·rw [e4,hn,if_neg (by decide)] at hr
     simp only [Option.some.injEq,Prod.mk.injEq] at hr
     rw [<- hr.1]; rfl
  unfold Lt.instr
  dsimp only
  rw [o3,hsa,c1.2,<- hN,decide_eq_true c4,decide_eq_true c5,c3]
  have h1:(!(!decide (dst=[])&&!Lt.Name dst))=true:=by
   by_cases hc:dst=[]
   ·simp [hc]
   ·simp [hd hc]
  have h2:(if (Lt.sOp (Lt.w0 l)).1≠31/\(Lt.sOp (Lt.w0 l)).1≠34 then decide (([]:List Lt.Frame)=[])&&decide (([]:List Lt.Virt)=[]) else ([]:List Lt.Frame).all Lt.frame&&([]:List Lt.Virt).all Lt.virt)=true:=by
   split <;> rfl
  rw [h1,h2]
  simp
 ·cases h
theorem inv_code {r:Lt.Read} {l:List (List UInt8)} (h:Lt.Inv r) (hz:(Lt.sCodeM r l).1=0):Lt.Inv (Lt.sCodeM r l).2:=by
 unfold Lt.sCodeM at hz ⊢
 split at hz
 ·cases hz
 rename_i c0; rw [if_neg c0]
 split at hz
 ·cases hz
 rename_i c1; rw [if_neg c1]
 cases hs:Lt.sInstr (if Lt.sEq l then Lt.w0 l else []) (if Lt.sEq l then l.drop 2 else l) with
 | none=>rw [hs] at hz; cases hz
 | some x=>
  rw [hs] at hz
  simp only at hz ⊢
  split at hz
  ·cases hz
  rename_i c2; rw [if_neg c2]
  have hin:5<=r.Where/\r.Where<=8:=by simpa [Lt.Read.ins] using c1
  obtain ⟨hx,hf,ho⟩:=sInstr_back hs (by
   rw [rName_eq] at c0
   cases he:Lt.sEq l with
   | true=>rw [he] at c0; intro _; rw [if_pos rfl]; simpa using c0
   | false=>intro h; exact absurd (if_neg (by decide)) h)
  obtain ⟨p,fs,f,bs,b,e,o⟩:=inv_open5 h (by omega)
  rw [e] at h
  have e2:({ r.block (fun b=>{ b with Code:=b.Code++[x] }) with Where:=if x.Op=31\/x.Op=34 then 7 else 6,Long:=r.Long+1 }:Lt.Read)=stB p fs f bs { b with Code:=b.Code++[x] } (if x.Op=31\/x.Op=34 then 7 else 6) (r.Long+1):=by
   have:r.block (fun b=>{ b with Code:=b.Code++[x] })=stB p fs f bs { b with Code:=b.Code++[x] } r.Where r.Long:=by
    rw [e,block_st]; rfl
   rw [this]; rfl
  rw [e2]
  have hl:=o.long
  have hw:∀ {k:Int},k=(if x.Op=31\/x.Op=34 then (7:Int) else 6)->5<=k/\k<=8/\(7<=k->x.Op=31\/x.Op=34):=by
   rintro k rfl
   split
   ·rename_i hc; exact ⟨by omega,by omega,fun _=>hc⟩
   ·exact ⟨by omega,by omega,fun h=>by omega⟩
  obtain ⟨w1,w2,w3⟩:=hw rfl
  refine inv_mk5 h (by omega) w1 (by omega) ⟨o.hd,o.len,?_,by omega,o.bl,o.nm,o.ph,?_,fun h=>by omega,fun _ _=>⟨b.Code,x,rfl,w3⟩⟩
  ·simp only [List.length_append,List.length_cons,List.length_nil]; omega
  ·rw [List.all_append,o.cd]
   simp [hx]
theorem instr_with {c:Lt.Instr} {fr:List Lt.Frame} {ob:List Lt.Virt} (h:Lt.instr c=true) (ho:c.Op=31\/c.Op=34) (h1:fr.length<=16) (h2:ob.length<=99) (h3:∀ x∈fr,Lt.frame x=true) (h4:∀ x∈ob,Lt.virt x=true):Lt.instr { c with Frames:=fr,Objs:=ob }=true:=by
 unfold Lt.instr at h ⊢
 simp only [Bool.and_eq_true] at h ⊢
 obtain ⟨⟨k1,⟨⟨⟨k2,k3⟩,k4⟩,_⟩,_⟩,_⟩:=h
 refine ⟨⟨k1,⟨⟨⟨k2,k3⟩,k4⟩,by simpa using h1⟩,by simpa using h2⟩,?_⟩
 rw [if_neg (by omega),Bool.and_eq_true,List.all_eq_true,List.all_eq_true]
 exact ⟨h3,h4⟩
theorem inv_at {r:Lt.Read} {l:List (List UInt8)} (h:Lt.Inv r) (hz:(Lt.sAt r l).1=0):Lt.Inv (Lt.sAt r l).2:=by
 unfold Lt.sAt at hz ⊢
 split at hz
 ·cases hz
 rename_i c1; rw [if_neg c1]
 split at hz
 ·cases hz
 rename_i c2; rw [if_neg c2]
 simp only [Bool.not_eq_false,Bool.and_eq_true,decide_eq_true_eq,rName_eq] at c1
 obtain ⟨⟨⟨⟨c1,cp⟩,cf⟩,cb⟩,⟨cn,c0⟩,c9⟩:=c1
 obtain ⟨p,fs,f,bs,b,e,o⟩:=inv_open5 h (by omega)
 obtain ⟨cs,c,ec,hop⟩:=o.ins (by omega) (by omega)
 have hop:=hop (by omega)
 have e':r=stI p fs f bs b cs c r.Where r.Long:=by
  unfold stI; rw [<- ec]; exact e
 have hc:=o.cd
 rw [ec,List.all_append] at hc
 simp only [Bool.and_eq_true,List.all_cons,List.all_nil,and_true] at hc
 have hio:=instr_ok hc.2
 rw [e',curI_st] at c2
 rw [e] at h
 have e2:r.instr (fun x=>{ x with Frames:=x.Frames++[⟨Lt.w1 l,Lt.w2 l,(Lt.sNum (Lt.w3 l)).1,(Lt.sPairs l 4 true).1⟩] })=stI p fs f bs b cs { c with Frames:=c.Frames++[⟨Lt.w1 l,Lt.w2 l,(Lt.sNum (Lt.w3 l)).1,(Lt.sPairs l 4 true).1⟩] } r.Where r.Long:=by
  rw [e',instr_st]; rfl
 rw [e2]
 have hl:=o.long
 refine inv_mk5 h (by omega) (by omega) (by omega) ⟨o.hd,o.len,?_,o.most,o.bl,o.nm,o.ph,?_,fun h=>by omega,fun _ _=>⟨cs,_,rfl,fun _=>hop⟩⟩
 ·rw [hl,ec]; simp
 ·rw [List.all_append,hc.1]
  simp only [List.all_cons,List.all_nil,Bool.and_true,Bool.true_and]
  refine instr_with (c:=c) (ob:=c.Objs) hc.2 hop (by simp; omega) hio.objs (fun x hx=>?_) hio.ob
  rcases List.mem_append.1 hx with hx | hx
  ·exact hio.fr x hx
  ·rw [List.mem_singleton.1 hx]
   have hp:=(pairs_back cp).1
   unfold Lt.frame
   have e3:(Lt.sPairs l 4 true).1.all Lt.bindRight=true:=by
    rw [List.all_eq_true]
    intro x hx
    show (Lt.Name x.Name&&Lt.argRight true x.A)=true
    rw [(hp x hx).1,(hp x hx).2]; rfl
   simp only
   rw [cf,cb,e3,decide_eq_true c0,decide_eq_true c9,decide_eq_true (show (Lt.sPairs l 4 true).1.length<=16 by omega)]; rfl
theorem inv_obj {r:Lt.Read} {l:List (List UInt8)} (h:Lt.Inv r) (hi:r.ins=true) (hz:(Lt.sObj r l).1=0):Lt.Inv (Lt.sObj r l).2:=by
 unfold Lt.sObj at hz ⊢
 split at hz
 ·cases hz
 rename_i c1; rw [if_neg c1]
 have c2:=limit_0 hz
 have hin:5<=r.Where/\r.Where<=8:=by simpa [Lt.Read.ins] using hi
 simp only [Bool.not_eq_false,Bool.and_eq_true,decide_eq_true_eq,rName_eq] at c1
 obtain ⟨⟨⟨⟨c1,c3⟩,c4⟩,cn⟩,ca⟩:=c1
 obtain ⟨p,fs,f,bs,b,e,o⟩:=inv_open5 h (by omega)
 obtain ⟨cs,c,ec,hop⟩:=o.ins (by omega) (by omega)
 have hop:=hop (by omega)
 have e':r=stI p fs f bs b cs c r.Where r.Long:=by
  unfold stI; rw [<- ec]; exact e
 have hc:=o.cd
 rw [ec,List.all_append] at hc
 simp only [Bool.and_eq_true,List.all_cons,List.all_nil,and_true] at hc
 have hio:=instr_ok hc.2
 rw [e',curI_st] at c2
 rw [e] at h
 have e2:({ r.instr (fun x=>{ x with Objs:=x.Objs++[⟨Lt.w1 l,(Lt.sArgs (l.drop 2) true).1⟩] }) with Where:=8 }:Lt.Read)=stI p fs f bs b cs { c with Objs:=c.Objs++[⟨Lt.w1 l,(Lt.sArgs (l.drop 2) true).1⟩] } 8 r.Long:=by
  have:r.instr (fun x=>{ x with Objs:=x.Objs++[⟨Lt.w1 l,(Lt.sArgs (l.drop 2) true).1⟩] })=stI p fs f bs b cs { c with Objs:=c.Objs++[⟨Lt.w1 l,(Lt.sArgs (l.drop 2) true).1⟩] } r.Where r.Long:=by
   rw [e',instr_st]; rfl
  rw [this]; rfl
 rw [e2]
 have hl:=o.long
 refine inv_mk5 h (by omega) (by omega) (by omega) ⟨o.hd,o.len,?_,o.most,o.bl,o.nm,o.ph,?_,fun h=>by omega,fun _ _=>⟨cs,_,rfl,fun _=>hop⟩⟩
 ·rw [hl,ec]; simp
 ·rw [List.all_append,hc.1]
  simp only [List.all_cons,List.all_nil,Bool.and_true,Bool.true_and]
  refine instr_with (c:=c) (fr:=c.Frames) hc.2 hop hio.frames (by simp; omega) hio.fr (fun x hx=>?_)
  rcases List.mem_append.1 hx with hx | hx
  ·exact hio.ob x hx
  ·rw [List.mem_singleton.1 hx]
   obtain ⟨k1,k2,_⟩:=sArgs_back ca
   rw [List.length_drop] at k2
   unfold Lt.virt
   simp only
   rw [cn,k1]
   simp; omega
theorem sTerm_back {l:List (List UInt8)} {t:Lt.Term} (h:Lt.sTerm l=some t):Lt.showEnd t=true:=by
 unfold Lt.sTerm at h
 split at h
 ·split at h
  ·rename_i c
   simp only [Bool.and_eq_true,rName_eq] at c
   simp only [Option.some.injEq] at h; subst h
   simp [Lt.showEnd,Lt.noArg]
   exact c.2
  ·cases h
 split at h
 ·split at h
  ·rename_i c
   simp only [Bool.and_eq_true,rName_eq] at c
   simp only [Option.some.injEq] at h; subst h
   have:=argOk_back c.2
   simp [Lt.showEnd]
   exact ⟨c.1.2,this⟩
  ·cases h
 split at h
 ·split at h
  ·rename_i c
   simp only [Bool.and_eq_true] at c
   simp only [Option.some.injEq] at h; subst h
   have:=argOk_back c.2
   simp [Lt.showEnd]
   exact this
  ·cases h
 split at h
 ·split at h
  ·simp only [Option.some.injEq] at h; subst h
   simp [Lt.showEnd,Lt.noArg]
  ·cases h
 ·cases h
theorem inv_end {r:Lt.Read} {l:List (List UInt8)} (h:Lt.Inv r) (hi:r.ins=true) (hz:(Lt.sEnd r l).1=0):Lt.Inv (Lt.sEnd r l).2:=by
 have hin:5<=r.Where/\r.Where<=8:=by simpa [Lt.Read.ins] using hi
 unfold Lt.sEnd at hz ⊢
 cases hs:Lt.sTerm l with
 | none=>rw [hs] at hz; cases hz
 | some t=>
  have ht:=sTerm_back hs
  obtain ⟨p,fs,f,bs,b,e,o⟩:=inv_open5 h (by omega)
  rw [e] at h
  have e2:({ r.block (fun b=>{ b with End:=t }) with Where:=9 }:Lt.Read)=stB p fs f bs { b with End:=t } 9 r.Long:=by
   have:r.block (fun b=>{ b with End:=t })=stB p fs f bs { b with End:=t } r.Where r.Long:=by
    rw [e,block_st]; rfl
   rw [this]; rfl
  show Lt.Inv ({ r.block (fun b=>{ b with End:=t }) with Where:=9 }:Lt.Read)
  rw [e2]
  exact inv_mk5 h (by omega) (by omega) (by omega) ⟨o.hd,o.len,o.long,o.most,o.bl,o.nm,o.ph,o.cd,fun _=>ht,fun h1 h2=>absurd h2 (by omega)⟩
theorem inv_head {r:Lt.Read} {l:List (List UInt8)} (h:Lt.Inv r) (hz:(Lt.sHeadM r l).1.2=0):Lt.Inv (Lt.sHeadM r l).2:=by
 unfold Lt.sHeadM at hz ⊢
 split at hz
 ·rename_i c; rw [if_pos c]; exact inv_class h hz
 rename_i c; rw [if_neg c]
 split at hz
 ·rename_i c; rw [if_pos c]; exact inv_field h hz
 rename_i c; rw [if_neg c]
 split at hz
 ·rename_i c; rw [if_pos c]; exact inv_global h hz
 rename_i c; rw [if_neg c]
 split at hz
 ·rename_i c; rw [if_pos c]; exact inv_extern h hz
 rename_i c; rw [if_neg c]
 split at hz
 ·rename_i c; rw [if_pos c]; exact inv_func h hz
 rename_i c; rw [if_neg c]; exact h
theorem inv_part {r:Lt.Read} {l:List (List UInt8)} (h:Lt.Inv r) (hz:(Lt.sPartM r l).1.2=0):Lt.Inv (Lt.sPartM r l).2:=by
 unfold Lt.sPartM at hz ⊢
 split at hz
 ·rename_i c; rw [if_pos c]; exact inv_param h hz
 rename_i c; rw [if_neg c]
 split at hz
 ·rename_i c; rw [if_pos c]; exact inv_var h hz
 rename_i c; rw [if_neg c]
 split at hz
 ·rename_i c; rw [if_pos c]; exact inv_block h hz
 rename_i c; rw [if_neg c]
 split at hz
 ·rename_i c; rw [if_pos c]; exact inv_phi h hz
 rename_i c; rw [if_neg c]; exact h
theorem inv_state {r:Lt.Read} {l:List (List UInt8)} (h:Lt.Inv r) (hz:(Lt.sStateM r l).1.2=0):Lt.Inv (Lt.sStateM r l).2:=by
 unfold Lt.sStateM at hz ⊢
 split at hz
 ·rename_i c; rw [if_pos c]
  split at hz
  ·cases hz
  rename_i ci; rw [if_neg ci]
  have hi:r.ins=true:=by simpa using ci
  split at hz
  ·rename_i c; rw [if_pos c]; exact inv_at h hz
  rename_i c; rw [if_neg c]
  split at hz
  ·rename_i c; rw [if_pos c]; exact inv_obj h hi hz
  rename_i c; rw [if_neg c]; exact inv_end h hi hz
 rename_i c; rw [if_neg c]; exact h
theorem inv_line {r:Lt.Read} {l:List (List UInt8)} {b:Bool} (h:Lt.Inv r) (hz:(Lt.sLineM r l b).1=0):Lt.Inv (Lt.sLineM r l b).2:=by
 unfold Lt.sLineM at hz ⊢
 split at hz
 ·rename_i c; rw [if_pos c]; exact inv_code h hz
 rename_i c; rw [if_neg c]
 split at hz
 ·rename_i c; rw [if_pos c]
  split at hz
  ·cases hz
  rename_i c; rw [if_neg c]; exact h
 rename_i c; rw [if_neg c]
 split at hz
 ·rename_i c; rw [if_pos c]; exact inv_head h hz
 rename_i c; rw [if_neg c]
 split at hz
 ·rename_i c; rw [if_pos c]; exact inv_part h hz
 rename_i c; rw [if_neg c]
 split at hz
 ·rename_i c; rw [if_pos c]; exact inv_state h hz
 rename_i c; rw [if_neg c]; exact inv_code h hz
end Go.Am
end
