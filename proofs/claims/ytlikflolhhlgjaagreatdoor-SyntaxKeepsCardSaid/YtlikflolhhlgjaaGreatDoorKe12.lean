/-
  Part 12: AmLay · AmNiceY · AmNiceZ · AmG4 · AmG3 · AmG2 · AmG · AmN1 · AmN2 · AmN3 · AmN4 · AmN5 · AmN6 · AmN7 · AmN8 · AmN9 · AmS1 · AmS2 · AmS3 · AmS4 · AmS5.
-/
import Derived.Test.YtlikflolhhlgjaaGreatDoorKe11
import Derived.Shelf.Small.Strs
import Derived.Shelf.Small.Wraps
import Derived.Shelf.Strings.Cut
import Derived.Shelf.Strings.Prefix
import Derived.Shelf.Strings.Split
set_option linter.unusedSimpArgs false
set_option linter.unusedVariables false
set_option linter.unusedSectionVars false
set_option linter.unnecessarySimpa false
section
namespace Go.Proofs
open Go.Shelf
def Tryz.lays137_ren:Go.Shelf.Ren:=⟨fun | 137=>147 | 217=>127 | 266=>139 | n=>n,fun | 9=>9 | 5=>5 | 3=>3 | n=>n,fun | n=>n⟩
theorem Tryz.lays137:Go.Proofs.Lays.n137 Tryz.prog Tryz.lays137_ren:={
 mixed:=by kernel_rfl
 f137:=Tryz.func147.trans (congrArg some (by kernel_rfl))
 f217:=Tryz.func127.trans (congrArg some (by kernel_rfl))
 f266:=Tryz.func139.trans (congrArg some (by kernel_rfl))
 t3:=Tryz.underlying3
 a3:=Tryz.isAgg3
 z3:=Tryz.sizeOf3
 v3:=Tryz.zeroValue3
 t5:=Tryz.underlying5
 a5:=Tryz.isAgg5
 z5:=Tryz.sizeOf5
 v5:=Tryz.zeroValue5
 t9:=Tryz.underlying9
 a9:=Tryz.isAgg9
 z9:=Tryz.sizeOf9
 v9:=Tryz.zeroValue9 }
open Go.RowKit in
theorem Tryz.strings_IndexByte (s:ByteArray) (c:Int) (w:World) :
  Calls Tryz.prog 147 #[.string s,.int .u8 c] w fun e w'=>e=.returned (.int .i64 (Lib.indexByte s.data.toList c.toNat.toUInt8))/\w'=w:=Any.strings_IndexByte Tryz.lays137 s c w
def Tryz.lays103_ren:Go.Shelf.Ren:=⟨fun | 103=>146 | 210=>148 | 206=>149 | n=>n,fun | 9=>9 | 4=>4 | 24=>218 | 3=>3 | n=>n,fun | n=>n⟩
theorem Tryz.lays103:Go.Proofs.Lays.n103 Tryz.prog Tryz.lays103_ren:={
 mixed:=by kernel_rfl
 f103:=Tryz.func146.trans (congrArg some (by kernel_rfl))
 f206:=Tryz.func149.trans (congrArg some (by kernel_rfl))
 f210:=Tryz.func148.trans (congrArg some (by kernel_rfl))
 t3:=Tryz.underlying3
 a3:=Tryz.isAgg3
 z3:=Tryz.sizeOf3
 v3:=Tryz.zeroValue3
 t4:=Tryz.underlying4
 a4:=Tryz.isAgg4
 z4:=Tryz.sizeOf4
 v4:=Tryz.zeroValue4
 t9:=Tryz.underlying9
 a9:=Tryz.isAgg9
 z9:=Tryz.sizeOf9
 v9:=Tryz.zeroValue9
 t24:=Tryz.underlying218
 a24:=Tryz.isAgg218
 z24:=Tryz.sizeOf218
 v24:=Tryz.zeroValue218 }
open Go.RowKit in
theorem Tryz.strings_CutPrefix (s p:ByteArray) (w:World) :
  Calls Tryz.prog 146 #[.string s,.string p] w fun e w'=>e=.returned (.tuple #[.string ⟨(Lib.trimPrefix s.data.toList p.data.toList).toArray⟩,.bool (Lib.hasPrefix s.data.toList p.data.toList)])/\w'=w:=Any.strings_CutPrefix Tryz.lays103 s p w
def Tryz.lays145_ren:Go.Shelf.Ren:=⟨fun | 145=>32 | 220=>55 | 219=>102 | 217=>127 | 225=>128 | 224=>129 | 267=>130 | 266=>139 | 314=>140 | n=>n,fun | 9=>9 | 4=>4 | 59=>97 | 3=>3 | 5=>5 | 46=>198 | 146=>211 | 51=>210 | n=>n,fun | 1=>1 | n=>n⟩
theorem Tryz.lays145:Go.Proofs.Lays.n145 Tryz.prog Tryz.lays145_ren:={
 mixed:=by kernel_rfl
 f145:=Tryz.func32.trans (congrArg some (by kernel_rfl))
 f217:=Tryz.func127.trans (congrArg some (by kernel_rfl))
 f219:=Tryz.func102.trans (congrArg some (by kernel_rfl))
 f220:=Tryz.func55.trans (congrArg some (by kernel_rfl))
 f224:=Tryz.func129.trans (congrArg some (by kernel_rfl))
 f225:=Tryz.func128.trans (congrArg some (by kernel_rfl))
 f266:=Tryz.func139.trans (congrArg some (by kernel_rfl))
 f267:=Tryz.func130.trans (congrArg some (by kernel_rfl))
 f314:=Tryz.func140.trans (congrArg some (by kernel_rfl))
 t3:=Tryz.underlying3
 a3:=Tryz.isAgg3
 z3:=Tryz.sizeOf3
 v3:=Tryz.zeroValue3
 t4:=Tryz.underlying4
 a4:=Tryz.isAgg4
 z4:=Tryz.sizeOf4
 v4:=Tryz.zeroValue4
 t5:=Tryz.underlying5
 a5:=Tryz.isAgg5
 z5:=Tryz.sizeOf5
 v5:=Tryz.zeroValue5
 t9:=Tryz.underlying9
 a9:=Tryz.isAgg9
 z9:=Tryz.sizeOf9
 v9:=Tryz.zeroValue9
 t46:=Tryz.underlying198
 a46:=Tryz.isAgg198
 z46:=Tryz.sizeOf198
 v46:=Tryz.zeroValue198
 t51:=Tryz.underlying210
 a51:=Tryz.isAgg210
 z51:=Tryz.sizeOf210
 v51:=Tryz.zeroValue210
 t59:=Tryz.underlying97
 a59:=Tryz.isAgg97
 z59:=Tryz.sizeOf97
 v59:=Tryz.zeroValue97
 t146:=Tryz.underlying211
 a146:=Tryz.isAgg211
 z146:=Tryz.sizeOf211
 v146:=Tryz.zeroValue211
 g1:=by kernel_rfl }
open Go.RowKit Go.Lib in
theorem Tryz.strings_Cut (s sep:ByteArray) (m:Int) (w:World) (hs:s.size < 4294967281) (hm:w.cell? ⟨1,0,none⟩=some (.int .i64 m)) :
  Calls Tryz.prog 32 #[.string s,.string sep] w fun e w'=>e=.returned (.tuple #[.string ⟨(Lib.cut s.data.toList sep.data.toList).1.toArray⟩,.string ⟨(Lib.cut s.data.toList sep.data.toList).2.1.toArray⟩,.bool (Lib.cut s.data.toList sep.data.toList).2.2])/\∃ n,w'=w.drewN n:=Any.strings_Cut Tryz.lays145 s sep m w hs hm
def Tryz.lays146_ren:Go.Shelf.Ren:=⟨fun | 146=>31 | 221=>54 | 268=>99 | 138=>100 | 143=>101 | 195=>124 | 197=>125 | 218=>126 | 219=>102 | 260=>138 | 217=>127 | 225=>128 | 224=>129 | 267=>130 | 266=>139 | 314=>140 | n=>n,fun | 9=>9 | 31=>43 | 3=>3 | 4=>4 | 0=>0 | 105=>202 | 21=>21 | 5=>5 | 46=>198 | 119=>213 | 139=>216 | 138=>215 | 146=>211 | 51=>210 | n=>n,fun | 1=>1 | 3=>2 | 4=>3 | n=>n⟩
theorem Tryz.lays146:Go.Proofs.Lays.n146 Tryz.prog Tryz.lays146_ren:={
 mixed:=by kernel_rfl
 f138:=Tryz.func100.trans (congrArg some (by kernel_rfl))
 f143:=Tryz.func101.trans (congrArg some (by kernel_rfl))
 f146:=Tryz.func31.trans (congrArg some (by kernel_rfl))
 f195:=Tryz.func124.trans (congrArg some (by kernel_rfl))
 f197:=Tryz.func125.trans (congrArg some (by kernel_rfl))
 f217:=Tryz.func127.trans (congrArg some (by kernel_rfl))
 f218:=Tryz.func126.trans (congrArg some (by kernel_rfl))
 f219:=Tryz.func102.trans (congrArg some (by kernel_rfl))
 f221:=Tryz.func54.trans (congrArg some (by kernel_rfl))
 f224:=Tryz.func129.trans (congrArg some (by kernel_rfl))
 f225:=Tryz.func128.trans (congrArg some (by kernel_rfl))
 f260:=Tryz.func138.trans (congrArg some (by kernel_rfl))
 f266:=Tryz.func139.trans (congrArg some (by kernel_rfl))
 f267:=Tryz.func130.trans (congrArg some (by kernel_rfl))
 f268:=Tryz.func99.trans (congrArg some (by kernel_rfl))
 f314:=Tryz.func140.trans (congrArg some (by kernel_rfl))
 t0:=Tryz.underlying0
 a0:=Tryz.isAgg0
 z0:=Tryz.sizeOf0
 v0:=Tryz.zeroValue0
 t3:=Tryz.underlying3
 a3:=Tryz.isAgg3
 z3:=Tryz.sizeOf3
 v3:=Tryz.zeroValue3
 t4:=Tryz.underlying4
 a4:=Tryz.isAgg4
 z4:=Tryz.sizeOf4
 v4:=Tryz.zeroValue4
 t5:=Tryz.underlying5
 a5:=Tryz.isAgg5
 z5:=Tryz.sizeOf5
 v5:=Tryz.zeroValue5
 t9:=Tryz.underlying9
 a9:=Tryz.isAgg9
 z9:=Tryz.sizeOf9
 v9:=Tryz.zeroValue9
 t21:=Tryz.underlying21
 a21:=Tryz.isAgg21
 z21:=Tryz.sizeOf21
 v21:=Tryz.zeroValue21
 t31:=Tryz.underlying43
 a31:=Tryz.isAgg43
 z31:=Tryz.sizeOf43
 v31:=Tryz.zeroValue43
 t46:=Tryz.underlying198
 a46:=Tryz.isAgg198
 z46:=Tryz.sizeOf198
 v46:=Tryz.zeroValue198
 t51:=Tryz.underlying210
 a51:=Tryz.isAgg210
 z51:=Tryz.sizeOf210
 v51:=Tryz.zeroValue210
 t105:=Tryz.underlying202
 a105:=Tryz.isAgg202
 z105:=Tryz.sizeOf202
 v105:=Tryz.zeroValue202
 t119:=Tryz.underlying213
 a119:=Tryz.isAgg213
 z119:=Tryz.sizeOf213
 t138:=Tryz.underlying215
 a138:=Tryz.isAgg215
 z138:=Tryz.sizeOf215
 v138:=Tryz.zeroValue215
 t139:=Tryz.underlying216
 a139:=Tryz.isAgg216
 z139:=Tryz.sizeOf216
 v139:=Tryz.zeroValue216
 t146:=Tryz.underlying211
 a146:=Tryz.isAgg211
 z146:=Tryz.sizeOf211
 v146:=Tryz.zeroValue211
 g1:=by kernel_rfl
 g3:=by kernel_rfl
 g4:=by kernel_rfl }
open Go.RowKit Go.Lib in
theorem Tryz.strings_Split (s sep:ByteArray) (m:Int) (w:World) (hs:s.size < 4294967281) (hm:w.cell? ⟨1,0,none⟩=some (.int .i64 m)) (h1:1<=sep.size) :
  Calls Tryz.prog 31 #[.string s,.string sep] w fun e w'=>
   e=.returned (.slice (some ⟨w.heap.size,0,none⟩) (Lib.countB s sep+1) (Lib.countB s sep+1))/\w'=w.alloc (.cells ((Lib.splitB sep 0 (Lib.countB s sep) s).map Value.string).toArray 9):=Any.strings_Split Tryz.lays146 (by kernel_rfl) s sep m w hs hm h1
end Go.Proofs
end

section
namespace Lt
def fC (s:List UInt8) (c:UInt8):Int:=Go.Lib.indexByte s c
def j0 (s p:List UInt8):List UInt8×Bool:=(Go.Lib.trimPrefix s p,Go.Lib.hasPrefix s p)
def Pu (s p:List UInt8):List UInt8×List UInt8×Bool:=Go.Lib.cut s p
def dR (s p:List UInt8):List (List UInt8):=(Go.Lib.splitB ⟨p.toArray⟩ 0 (Go.Lib.countB ⟨s.toArray⟩ ⟨p.toArray⟩) ⟨s.toArray⟩).map (·.data.toList)
def QC (s p:List UInt8):Prop:=s.length < 4294967281
def Fg (s p:List UInt8):Prop:=s.length < 4294967281/\1<=p.length
end Lt
namespace Lt
open Go
def flt (n:Int):Value:=.iface 64 (.agg #[.int .i64 n])
def dc (s:List UInt8):Int×Bool:=aD s
def sT (s:List UInt8):Int×Bool:=eD s
def kS (s:List UInt8):Arg×Bool:=cM s
def fV (s:List UInt8):Arg×Bool:=if (eD s).2 then (⟨3,[],(eD s).1⟩,true) else if (aD s).2 then (⟨2,[],(aD s).1⟩,true) else (⟨0,[],0⟩,false)
def fw (l:List Int) (n:Int):Bool:=l.contains n
def bP (w:List UInt8):Except Value (List UInt8):=if Name w then .ok w else .error (flt 3)
def fa (w:List UInt8):Except Value (List UInt8):=if iI w then .ok w else .error (flt 3)
def kW (w:List UInt8) (least most:Int):Except Value Int:=if (aD w).2&&(decide (least<=(aD w).1)&&decide ((aD w).1<=most)) then .ok (aD w).1 else .error (flt 3)
def tX (w:List UInt8) (objs:Bool):Except Value Arg:=if bZ objs w then .ok (cM w).1 else .error (flt 3)
def mV (l:List (List UInt8)) (objs:Bool):Except Value (List Arg):=if (aT l objs).2 then .ok (aT l objs).1 else .error (flt 3)
def yOp (w:List UInt8):Int×Bool:=sOp w
def Reader.abs (r:Reader):Read:=⟨r.p,if r.where_=0 then (if 0<=r.long then 9 else 2) else if r.where_=1 then 1 else r.where_+1,r.long⟩
def fi (r:Reader) (x:Int×Read) (w:Int):Except Value Unit×Reader:=
 if x.1=0 then (.ok (),⟨x.2.P,r.at_,w,r.first,x.2.Long⟩) else (.error (flt x.1),r)
def Qn (r:Reader) (l:List (List UInt8)):Except Value Unit×Reader:=fi r (if (r.first&&decide (l.length=1))=false then (3,r.abs) else (0,{ r.abs with P:={ r.p with SSA:=true } })) r.where_
def xx (r:Reader) (l:List (List UInt8)):Except Value Unit×Reader:=fi r (eP r.abs l) 1
def vG (r:Reader) (l:List (List UInt8)):Except Value Unit×Reader:=fi r (fD r.abs l) r.where_
def p6 (r:Reader) (l:List (List UInt8)):Except Value Unit×Reader:=fi r (dB r.abs l) 0
def q7 (r:Reader) (l:List (List UInt8)):Except Value Unit×Reader:=fi r (dg r.abs l) 0
def km (r:Reader) (l:List (List UInt8)):Except Value Unit×Reader:=fi r (iN r.abs l) 2
def vO (r:Reader) (l:List (List UInt8)):Except Value Unit×Reader:=fi r (eQ r.abs l) r.where_
def jZ (r:Reader) (l:List (List UInt8)):Except Value Unit×Reader:=fi r (lu r.abs l) 3
def xG (r:Reader) (l:List (List UInt8)):Except Value Unit×Reader:=fi r (dS r.abs l) 4
def NB (r:Reader) (l:List (List UInt8)):Except Value Unit×Reader:=fi r (l5 r.abs l) 4
def qM (r:Reader) (l:List (List UInt8)):Except Value Unit×Reader:=fi r (bt r.abs l) ((bt r.abs l).2.Where - 1)
def wj (r:Reader) (l:List (List UInt8)):Except Value Unit×Reader:=fi r (sAt r.abs l) 6
def lF (r:Reader) (l:List (List UInt8)):Except Value Unit×Reader:=fi r (if r.abs.ins=false then (3,r.abs) else l8 r.abs l) 7
def mZ (l:List (List UInt8)):Option Term:=if w0 l=gm\/w0 l=dD\/w0 l=tQ then dl l else if (decide (l.length=2)&&(aD (w1 l)).2)=true then some ⟨4,⟨0,[],0⟩,[],(aD (w1 l)).1⟩ else none
def yr (r:Reader) (l:List (List UInt8)):Except Value Unit×Reader:=fi r (if r.abs.ins=false then (3,r.abs) else match mZ l with | some t=>(0,{ r.abs.block (fun b=>{ b with End:=t }) with Where:=9 }) | none=>(3,r.abs)) 0
def og (r:Reader) (l:List (List UInt8)):Except Value Unit×Reader:=
 if sEq l then qM r l
 else if w0 l=UV then Qn r l else if w0 l=Id then xx r l else if w0 l=Gv then vG r l else if w0 l=BE then p6 r l
 else if w0 l=BX then q7 r l else if w0 l=Oj then km r l else if w0 l=Gc then vO r l else if w0 l=Uz then jZ r l
 else if w0 l=GS then xG r l else if w0 l=Tz then NB r l else if w0 l=kAt then wj r l else if w0 l=Gy then lF r l
 else if w0 l=gm\/w0 l=dD\/w0 l=tQ\/w0 l=tx then yr r l else qM r l
def Reader.heads (r:Reader):Nat:=r.p.Classes.length+r.p.Globals.length+r.p.Externs.length
def tz (r:Reader) (l:List (List UInt8)):Except Value Unit×Reader:=match og r l with
 | (.ok _,x)=>(.ok (),{ x with first:=false,long:=if r.heads<x.heads then -1 else x.long })
 | (.error v,x)=>(.error v,x)
def cR (s:List UInt8):Program×Int×Int:=oA s
def blank (c:UInt8):Bool:=decide (c=32)||decide (c=9)
def fF:List UInt8->List UInt8->List (List UInt8)->List (List UInt8)×Bool
 | [],w,out=>(if w=[] then out else out++[w],true)
 | c::r,w,out=>if blank c then fF r [] (if w=[] then out else out++[w]) else if c.toNat<=32\/126<c.toNat then ([],false) else fF r (w++[c]) out
def rK (s:List UInt8):Prop:=s.length<=room
def bO (s:List UInt8):List (List UInt8)×Bool:=fF s [] []
def dN (s:List UInt8):List Line×Int×Int:=((bV s).1.map fun l=>⟨l.N,l.Words⟩,(bV s).2.1,(bV s).2.2)
def Reader.inv (r:Reader):Prop:=Inv r.abs/\(0<=r.where_/\r.where_<=7)/\(-1<=r.long/\r.long<=1024)/\(0<=r.long ↔ r.where_≠1/\r.abs.Where≠2)
def ap (r:Reader) (l:List (List UInt8)):Prop:=r.inv/\l≠[]/\l.length<=room
end Lt
end

section
namespace Lt
open Go
def Cc:Bool:=true
end Lt
end

section
namespace Go.Am
open Go
def vX (KK:Bool->Prop):Prop:=
 have z4:=Lt.cR [102,117,110,99,32,102,32,105,110,116,10]; have z1:=Lt.cR [102,117,110,99,32,102,32,105,110,116,10,98,108,111,99,107,32,98,10,120,32,61,32,97,100,100,32,49,32,121,10,114,101,116,32,120,10]; have z3:=(((z1.1).Funcs).getD 0 default).Blocks; have z2:=z3.getD 0 default; aa (α:=Bool) (fun J1=>if (!decide (z1.2.2=0))=true then (J1 true) else (if (!decide ((((z1.1).Funcs).length:Int)=1))=true then (J1 true) else (((0:Int)<=0/\0 < ((z1.1).Funcs).length)/\if (!decide ((z3.length:Int)=1))=true then (J1 true) else (if (!decide ((Lt.cR [120,32,61,32,97,100,100,32,49,32,50]).2.2=3))=true then (J1 true) else (if (!decide ((Lt.cR [120,32,61,32,97,100,100,32,49,32,50]).2.1=1))=true then (J1 true) else (if (!decide (z4.2.2=3))=true then (J1 true) else (J1 (!decide (z4.2.1=0))))))))) (fun v2=>if v2=true then (KK false) else (((0:Int)<=0/\0 < ((z1.1).Funcs).length)/\((0:Int)<=0/\0<z3.length)/\aa (α:=Bool) (fun J3=>((z2.Code).length<=4611686018427387904->if (decide (((z2.Code).length:Int)=1))=true then (((0:Int)<=0/\0 < (z2.Code).length)/\if (decide (((z2.Code).getD 0 default).Op=1))=true then (((0:Int)<=0/\0 < (z2.Code).length)/\if (decide (((z2.Code).getD 0 default).Dst=[120]))=true then (J3 (decide ((z2.End).Kind=3))) else (J3 false)) else (J3 false)) else (J3 false))) (fun v4=>KK v4)))
end Go.Am
end

section
namespace Go.Am
open Go
def wW (a0_s:List UInt8) (KK:(Int×Bool)->Prop):Prop:=
 aa (α:=Bool) (fun J1=>if (decide (a0_s=([]:List UInt8)))=true then (J1 true) else (J1 (decide (20 < (a0_s.length:Int))))) (fun v2=>if v2=true then (KK (0,false)) else (aa (α:=Int) (fun J3=>((0:Int)<=0/\0<a0_s.length)/\if (decide ((((a0_s.getD 0 0).toNat:Nat):Int)=(((45:UInt8).toNat:Nat):Int)))=true then (J3 1) else (J3 0)) (fun v4=>ba (α:=Int×Int) (fun R5 v6=>have z2:=((0:Int)<=v6.2/\v6.2.toNat<a0_s.length); have z1:=(((a0_s.getD v6.2.toNat 0).toNat:Nat):Int); (a0_s.length<=4611686018427387904->if (decide (v6.2 < (a0_s.length:Int)))=true then (aa (α:=Bool) (fun J7=>z2/\if (decide (z1 < (((48:UInt8).toNat:Nat):Int)))=true then (J7 true) else (z2/\J7 (decide ((((57:UInt8).toNat:Nat):Int)<z1)))) (fun v8=>if v8=true then (KK (0,false)) else (z2/\R5 ((IntKind.i64.wrap ((IntKind.i64.wrap (v6.1*10)) - (IntKind.i64.wrap (((UInt8.ofNat (IntKind.u8.wrap (z1 - (((48:UInt8).toNat:Nat):Int))).toNat).toNat:Nat):Int)))),(IntKind.i64.wrap (v6.2+1)))))) else (aa (α:=Int) (fun J9=>if (decide (v4=0))=true then (J9 (IntKind.i64.wrap (0-v6.1))) else (J9 v6.1)) (fun v10=>(Lt.gJ v10)/\if (!decide ((Lt.aS v10)=a0_s))=true then (KK (0,false)) else (KK (v10,true)))))) (0,v4))))
def mQ (a0_s:List UInt8) (KK:(Int×Bool)->Prop):Prop:=
 aa (α:=Bool) (fun J1=>if (!((Lt.j0 a0_s [48,102]).2))=true then (J1 true) else (J1 (!decide ((((Lt.j0 a0_s [48,102]).1).length:Int)=16)))) (fun v2=>if v2=true then (KK (0,false)) else ((((Lt.j0 a0_s [48,102]).1).length<=4611686018427387904->ba (α:=Int×Int) (fun R3 v4=>if (decide (v4.2 < (((Lt.j0 a0_s [48,102]).1).length:Int)))=true then (((0:Int)<=v4.2/\v4.2.toNat < ((Lt.j0 a0_s [48,102]).1).length)/\if (decide ((Lt.fC [48,49,50,51,52,53,54,55,56,57,97,98,99,100,101,102] (((Lt.j0 a0_s [48,102]).1).getD v4.2.toNat 0)) < 0))=true then (KK (0,false)) else ((0:Int)<=4/\R3 ((IntKind.u64.wrap ((BitVec.ofInt IntKind.u64.bits (IntKind.u64.wrap (v4.1*2 ^ (min (4:Int).toNat IntKind.u64.bits))) ||| BitVec.ofInt IntKind.u64.bits (IntKind.u64.wrap (Lt.fC [48,49,50,51,52,53,54,55,56,57,97,98,99,100,101,102] (((Lt.j0 a0_s [48,102]).1).getD v4.2.toNat 0)))).toNat:Nat)),(IntKind.i64.wrap (v4.2+1))))) else (if (!decide ((Lt.Plain (IntKind.i64.wrap v4.1))=(IntKind.i64.wrap v4.1)))=true then (KK (0,false)) else (KK ((IntKind.i64.wrap v4.1),true)))) (0,0))))
def lK (a0_s:List UInt8) (KK:(Lt.Arg×Bool)->Prop):Prop:=
 if ((Lt.sT a0_s).2)=true then (KK ((Lt.Arg.mk 3 ([]:List UInt8) ((Lt.sT a0_s).1)),true)) else (if (!((Lt.dc a0_s).2))=true then (KK ((Lt.Arg.mk 0 ([]:List UInt8) 0),false)) else (KK ((Lt.Arg.mk 2 ([]:List UInt8) ((Lt.dc a0_s).1)),true)))
def sG (a0_s:List UInt8) (KK:(Lt.Arg×Bool)->Prop):Prop:=
 if (decide (a0_s=([]:List UInt8)))=true then (KK ((Lt.Arg.mk 0 ([]:List UInt8) 0),false)) else (if (decide (a0_s=[110,117,108,108]))=true then (KK ((Lt.Arg.mk 4 ([]:List UInt8) 0),true)) else (if (Lt.Name a0_s)=true then (KK ((Lt.Arg.mk 1 a0_s 0),true)) else (((0:Int)<=0/\0<a0_s.length)/\if (decide ((((a0_s.getD 0 0).toNat:Nat):Int)=(((35:UInt8).toNat:Nat):Int)))=true then ((0:Int)<=1/\(1<=a0_s.length/\a0_s.length<=a0_s.length)/\aa (α:=Bool) (fun J1=>if (!((Lt.dc ((a0_s.drop 1).take (a0_s.length - 1))).2))=true then (J1 true) else (if (decide ((Lt.dc ((a0_s.drop 1).take (a0_s.length - 1))).1 < 0))=true then (J1 true) else (J1 (decide (999 < (Lt.dc ((a0_s.drop 1).take (a0_s.length - 1))).1))))) (fun v2=>if v2=true then (KK ((Lt.Arg.mk 0 ([]:List UInt8) 0),false)) else (KK ((Lt.Arg.mk 5 ([]:List UInt8) ((Lt.dc ((a0_s.drop 1).take (a0_s.length - 1))).1)),true)))) else (KK (((Lt.fV a0_s).1),(Lt.fV a0_s).2)))))
def B5 (a0_c:UInt8) (KK:Bool->Prop):Prop:=
 if (decide (((a0_c.toNat:Nat):Int)=(((32:UInt8).toNat:Nat):Int)))=true then (KK true) else (KK (decide (((a0_c.toNat:Nat):Int)=(((9:UInt8).toNat:Nat):Int))))
def w9 (a0_s:List UInt8) (KK:(List (List UInt8)×Bool)->Prop):Prop:=
 ba (α:=List (List UInt8)×Int×Int) (fun R1 v2=>have z2:=((0:Int)<=v2.2.2/\v2.2.2.toNat<a0_s.length); have z1:=([((a0_s.drop v2.2.1.toNat).take (v2.2.2.toNat-v2.2.1.toNat))]:List (List UInt8)); (a0_s.length<=4611686018427387904->if (decide (v2.2.2<=(a0_s.length:Int)))=true then (aa (α:=List (List UInt8)×Int) (fun J3=>aa (α:=Bool) (fun J5=>(a0_s.length<=4611686018427387904->if (decide (v2.2.2=(a0_s.length:Int)))=true then (J5 true) else (z2/\J5 (Lt.blank (a0_s.getD v2.2.2.toNat 0))))) (fun v6=>if v6=true then (aa (α:=List (List UInt8)) (fun J7=>if (decide (0<=v2.2.1))=true then ((0:Int)<=v2.2.1/\(0:Int)<=v2.2.2/\(v2.2.1.toNat<=v2.2.2.toNat/\v2.2.2.toNat<=a0_s.length)/\(v2.1.length+z1.length<=4611686018427387904/\(v2.1.length+z1.length)*16<=140737488355328)/\J7 (v2.1++z1)) else (J7 v2.1)) (fun v8=>J3 (v8,(-1)))) else (aa (α:=Bool) (fun J9=>z2/\if (decide ((((a0_s.getD v2.2.2.toNat 0).toNat:Nat):Int)<=(((32:UInt8).toNat:Nat):Int)))=true then (J9 true) else (z2/\J9 (decide ((((126:UInt8).toNat:Nat):Int) < (((a0_s.getD v2.2.2.toNat 0).toNat:Nat):Int))))) (fun v10=>if v10=true then (KK ([],false)) else (if (decide (v2.2.1 < 0))=true then (J3 (v2.1,v2.2.2)) else (J3 (v2.1,v2.2.1))))))) (fun v4=>R1 (v4.1,v4.2,(IntKind.i64.wrap (v2.2.2+1))))) else (KK (v2.1,true)))) ([],(-1),0)
def yf (a0_s:List UInt8) (KK:(List Lt.Line×Int×Int)->Prop):Prop:=
 (a0_s.length<=4611686018427387904->if (decide (4194304 < (a0_s.length:Int)))=true then (KK ([],0,2)) else ((Lt.Fg a0_s [10])/\((Lt.dR a0_s [10]).length<=4611686018427387904->ba (α:=List Lt.Line×Int) (fun R1 v2=>have z1:=(Lt.Pu ((Lt.dR a0_s [10]).getD v2.2.toNat default) [59]).1; have z2:=([(Lt.Line.mk (IntKind.i64.wrap (v2.2+1)) ((Lt.bO z1).1))]:List Lt.Line); if (decide (v2.2 < ((Lt.dR a0_s [10]).length:Int)))=true then (aa (α:=List Lt.Line) (fun J3=>((0:Int)<=v2.2/\v2.2.toNat < (Lt.dR a0_s [10]).length)/\(Lt.QC ((Lt.dR a0_s [10]).getD v2.2.toNat default) [59])/\(Lt.rK z1)/\if (!((Lt.bO z1).2))=true then (KK ([],(IntKind.i64.wrap (v2.2+1)),3)) else ((((Lt.bO z1).1).length<=4611686018427387904->if (decide (0 < (((Lt.bO z1).1).length:Int)))=true then ((v2.1.length+z2.length<=4611686018427387904/\(v2.1.length+z2.length)*32<=140737488355328)/\J3 (v2.1++z2)) else (J3 v2.1)))) (fun v4=>R1 (v4,(IntKind.i64.wrap (v2.2+1))))) else (KK (v2.1,0,0))) ([],0))))
def IQ (a0_l:List Int) (a1_n:Int) (KK:Bool->Prop):Prop:=
 (a0_l.length<=4611686018427387904->ba (α:=Int) (fun R1 v2=>if (decide (v2 < (a0_l.length:Int)))=true then (((0:Int)<=v2/\v2.toNat<a0_l.length)/\if (decide ((a0_l.getD v2.toNat default)=a1_n))=true then (KK true) else (R1 (IntKind.i64.wrap (v2+1)))) else (KK false)) 0)
def Cg (a0_w:List UInt8) (KK:(List UInt8)->Prop) (KP:Value->Prop):Prop:=
 if (!(Lt.Name a0_w))=true then (KP (Lt.flt 3)) else (KK a0_w)
def BQ (a0_w:List UInt8) (KK:(List UInt8)->Prop) (KP:Value->Prop):Prop:=
 aa (α:=Unit) (fun J1=>if (decide (a0_w=[105,110,116]))=true then (if (!true)=true then (KP (Lt.flt 3)) else (J1 ())) else (if (decide (a0_w=[102,108,111,97,116]))=true then (if (!true)=true then (KP (Lt.flt 3)) else (J1 ())) else (if (!(Lt.Name a0_w))=true then (KP (Lt.flt 3)) else (J1 ())))) (fun v2=>KK a0_w)
def rY (a0_w:List UInt8) (a1_least:Int) (a2_most:Int) (KK:Int->Prop) (KP:Value->Prop):Prop:=
 aa (α:=Unit) (fun J1=>if ((Lt.dc a0_w).2)=true then (if (decide (a1_least<=(Lt.dc a0_w).1))=true then (if (!(decide ((Lt.dc a0_w).1<=a2_most)))=true then (KP (Lt.flt 3)) else (J1 ())) else (if (!false)=true then (KP (Lt.flt 3)) else (J1 ()))) else (if (!false)=true then (KP (Lt.flt 3)) else (J1 ()))) (fun v2=>KK ((Lt.dc a0_w).1))
def Gi (a0_w:List UInt8) (a1_objs:Bool) (KK:Lt.Arg->Prop) (KP:Value->Prop):Prop:=
 aa (α:=Unit) (fun J1=>if ((Lt.kS a0_w).2)=true then (if a1_objs=true then (if (!true)=true then (KP (Lt.flt 3)) else (J1 ())) else (if (!(!decide (((Lt.kS a0_w).1).Kind=5)))=true then (KP (Lt.flt 3)) else (J1 ()))) else (if (!false)=true then (KP (Lt.flt 3)) else (J1 ()))) (fun v2=>KK ((Lt.kS a0_w).1))
def A3 (a0_l:List (List UInt8)) (a1_objs:Bool) (KK:(List Lt.Arg)->Prop) (KP:Value->Prop):Prop:=
 (a0_l.length<=4611686018427387904->ba (α:=List Lt.Arg×Int) (fun R1 v2=>if (decide (v2.2 < (a0_l.length:Int)))=true then (((0:Int)<=v2.2/\v2.2.toNat<a0_l.length)/\True/\exQ (Lt.tX (a0_l.getD v2.2.toNat default) a1_objs) (fun z3=>(v2.1.length+([z3]:List Lt.Arg).length<=4611686018427387904/\(v2.1.length+([z3]:List Lt.Arg).length)*32<=140737488355328)/\R1 ((v2.1++([z3]:List Lt.Arg)),(IntKind.i64.wrap (v2.2+1)))) (fun v=>KP v)) else (KK v2.1)) ([],0))
def NZ (a0_w:List UInt8) (KK:(Int×Bool)->Prop):Prop:=
 ba (α:=Int) (fun R1 v2=>if (decide (v2<=34))=true then (if (decide (((Lt.Of v2).1).Word=a0_w))=true then (KK (v2,true)) else (R1 (IntKind.i64.wrap (v2+1)))) else (KK (0,false))) 1
def GN (a0_r:Lt.Reader) (a1_l:List (List UInt8)) (KK:((Unit)×Lt.Reader)->Prop) (KP:Value->Lt.Reader->Prop):Prop:=
 aa (α:=Unit) (fun J1=>if a0_r.first=true then (if (!(decide ((a1_l.length:Int)=1)))=true then (KP (Lt.flt 3) a0_r) else (J1 ())) else (if (!false)=true then (KP (Lt.flt 3) a0_r) else (J1 ()))) (fun v2=>KK ((),(Lt.Reader.mk (Lt.Program.mk true a0_r.p.Classes a0_r.p.Globals a0_r.p.Externs a0_r.p.Funcs) a0_r.at_ a0_r.where_ a0_r.first a0_r.long)))
def vQ (a0_r:Lt.Reader) (a1_l:List (List UInt8)) (KK:((Unit)×Lt.Reader)->Prop) (KP:Value->Lt.Reader->Prop):Prop:=
 if (!(Lt.fw [0,1] a0_r.where_))=true then (KP (Lt.flt 3) a0_r) else ((a1_l.length<=4611686018427387904->if (!(decide ((a1_l.length:Int)=2)))=true then (KP (Lt.flt 3) a0_r) else (((0:Int)<=1/\1<a1_l.length)/\True/\exQ (Lt.bP (a1_l.getD 1 default)) (fun z1=>(a0_r.p.Classes.length<=4611686018427387904->if (decide (8<=(a0_r.p.Classes.length:Int)))=true then (KP (Lt.flt 2) a0_r) else (aa (α:=Lt.Reader) (fun J2=>((a0_r.p.Classes.length+([(Lt.Class.mk z1 [])]:List Lt.Class).length<=4611686018427387904/\(a0_r.p.Classes.length+([(Lt.Class.mk z1 [])]:List Lt.Class).length)*40<=140737488355328)/\J2 (Lt.Reader.mk (Lt.Program.mk a0_r.p.SSA (a0_r.p.Classes++([(Lt.Class.mk z1 [])]:List Lt.Class)) a0_r.p.Globals a0_r.p.Externs a0_r.p.Funcs) a0_r.at_ a0_r.where_ a0_r.first a0_r.long))/\((a0_r.p.Classes.length+([(Lt.Class.mk z1 [])]:List Lt.Class).length<=4611686018427387904/\(a0_r.p.Classes.length+([(Lt.Class.mk z1 [])]:List Lt.Class).length)*40<=140737488355328)/\J2 (Lt.Reader.mk (Lt.Program.mk a0_r.p.SSA (a0_r.p.Classes++([(Lt.Class.mk z1 [])]:List Lt.Class)) a0_r.p.Globals a0_r.p.Externs a0_r.p.Funcs) a0_r.at_ a0_r.where_ a0_r.first a0_r.long))) (fun v3=>KK ((),(Lt.Reader.mk v3.p v3.at_ 1 v3.first v3.long)))))) (fun v=>KP v a0_r))))
def xA (a0_r:Lt.Reader) (a1_l:List (List UInt8)) (KK:((Unit)×Lt.Reader)->Prop) (KP:Value->Lt.Reader->Prop):Prop:=
 have z2:=(IntKind.i64.wrap ((a0_r.p.Classes.length:Int) - 1)); have z8:=(a0_r.p.Classes.getD z2.toNat default).Fields; if (!(Lt.fw [1] a0_r.where_))=true then (KP (Lt.flt 3) a0_r) else ((a1_l.length<=4611686018427387904->if (!(decide ((a1_l.length:Int)=3)))=true then (KP (Lt.flt 3) a0_r) else (aa (α:=Lt.Var) (fun J1=>((0:Int)<=1/\1<a1_l.length)/\((0:Int)<=2/\2<a1_l.length)/\(True/\exQ (Lt.bP (a1_l.getD 1 default)) (fun z5=>(True/\exQ (Lt.fa (a1_l.getD 2 default)) (fun z7=>J1 (Lt.Var.mk z5 z7)) (fun v=>KP v a0_r))/\(True/\exQ (Lt.fa (a1_l.getD 2 default)) (fun z6=>J1 (Lt.Var.mk z5 z6)) (fun v=>KP v a0_r))) (fun v=>KP v a0_r))/\(True/\exQ (Lt.bP (a1_l.getD 1 default)) (fun z3=>True/\exQ (Lt.fa (a1_l.getD 2 default)) (fun z4=>J1 (Lt.Var.mk z3 z4)) (fun v=>KP v a0_r)) (fun v=>KP v a0_r))) (fun v2=>have z1:=((z8.length+([v2]:List Lt.Var).length<=4611686018427387904/\(z8.length+([v2]:List Lt.Var).length)*32<=140737488355328)/\z2.toNat<a0_r.p.Classes.length/\z2.toNat=z2.toNat/\KK ((),(Lt.Reader.mk (Lt.Program.mk a0_r.p.SSA (a0_r.p.Classes.set z2.toNat (Lt.Class.mk ((a0_r.p.Classes.getD z2.toNat default).Name) (z8++([v2]:List Lt.Var)))) a0_r.p.Globals a0_r.p.Externs a0_r.p.Funcs) a0_r.at_ a0_r.where_ a0_r.first a0_r.long))); (a0_r.p.Classes.length<=4611686018427387904->((0:Int)<=z2/\z2 < ((a0_r.p.Classes.length:Nat):Int))/\(z8.length<=4611686018427387904->if (decide (8<=(z8.length:Int)))=true then (KP (Lt.flt 2) a0_r) else (z1/\z1)))))))
def sn (a0_r:Lt.Reader) (a1_l:List (List UInt8)) (KK:((Unit)×Lt.Reader)->Prop) (KP:Value->Lt.Reader->Prop):Prop:=
 if (!(Lt.fw [0,1] a0_r.where_))=true then (KP (Lt.flt 3) a0_r) else ((a1_l.length<=4611686018427387904->if (!(decide ((a1_l.length:Int)=3)))=true then (KP (Lt.flt 3) a0_r) else (aa (α:=Lt.Var) (fun J1=>((0:Int)<=1/\1<a1_l.length)/\((0:Int)<=2/\2<a1_l.length)/\(True/\exQ (Lt.bP (a1_l.getD 1 default)) (fun z5=>(True/\exQ (Lt.fa (a1_l.getD 2 default)) (fun z7=>J1 (Lt.Var.mk z5 z7)) (fun v=>KP v a0_r))/\(True/\exQ (Lt.fa (a1_l.getD 2 default)) (fun z6=>J1 (Lt.Var.mk z5 z6)) (fun v=>KP v a0_r))) (fun v=>KP v a0_r))/\(True/\exQ (Lt.bP (a1_l.getD 1 default)) (fun z3=>True/\exQ (Lt.fa (a1_l.getD 2 default)) (fun z4=>J1 (Lt.Var.mk z3 z4)) (fun v=>KP v a0_r)) (fun v=>KP v a0_r))) (fun v2=>(a0_r.p.Globals.length<=4611686018427387904->if (decide (8<=(a0_r.p.Globals.length:Int)))=true then (KP (Lt.flt 2) a0_r) else (aa (α:=Lt.Reader) (fun J8=>have z1:=((a0_r.p.Globals.length+([v2]:List Lt.Var).length<=4611686018427387904/\(a0_r.p.Globals.length+([v2]:List Lt.Var).length)*32<=140737488355328)/\J8 (Lt.Reader.mk (Lt.Program.mk a0_r.p.SSA a0_r.p.Classes (a0_r.p.Globals++([v2]:List Lt.Var)) a0_r.p.Externs a0_r.p.Funcs) a0_r.at_ a0_r.where_ a0_r.first a0_r.long)); z1/\z1) (fun v9=>KK ((),(Lt.Reader.mk v9.p v9.at_ 0 v9.first v9.long)))))))))
def sm (a0_r:Lt.Reader) (a1_l:List (List UInt8)) (KK:((Unit)×Lt.Reader)->Prop) (KP:Value->Lt.Reader->Prop):Prop:=
 have z2:=Lt.kW (a1_l.getD 2 default) 0 8; if (!(Lt.fw [0,1] a0_r.where_))=true then (KP (Lt.flt 3) a0_r) else ((a1_l.length<=4611686018427387904->if (!(decide ((a1_l.length:Int)=3)))=true then (KP (Lt.flt 3) a0_r) else (aa (α:=Lt.Extern) (fun J1=>((0:Int)<=1/\1<a1_l.length)/\((0:Int)<=2/\2<a1_l.length)/\(True/\exQ (Lt.bP (a1_l.getD 1 default)) (fun z5=>(True/\exQ z2 (fun z7=>J1 (Lt.Extern.mk z5 z7)) (fun v=>KP v a0_r))/\(True/\exQ z2 (fun z6=>J1 (Lt.Extern.mk z5 z6)) (fun v=>KP v a0_r))) (fun v=>KP v a0_r))/\(True/\exQ (Lt.bP (a1_l.getD 1 default)) (fun z3=>True/\exQ z2 (fun z4=>J1 (Lt.Extern.mk z3 z4)) (fun v=>KP v a0_r)) (fun v=>KP v a0_r))) (fun v2=>(a0_r.p.Externs.length<=4611686018427387904->if (decide (8<=(a0_r.p.Externs.length:Int)))=true then (KP (Lt.flt 2) a0_r) else (aa (α:=Lt.Reader) (fun J8=>have z1:=((a0_r.p.Externs.length+([v2]:List Lt.Extern).length<=4611686018427387904/\(a0_r.p.Externs.length+([v2]:List Lt.Extern).length)*24<=140737488355328)/\J8 (Lt.Reader.mk (Lt.Program.mk a0_r.p.SSA a0_r.p.Classes a0_r.p.Globals (a0_r.p.Externs++([v2]:List Lt.Extern)) a0_r.p.Funcs) a0_r.at_ a0_r.where_ a0_r.first a0_r.long)); z1/\z1) (fun v9=>KK ((),(Lt.Reader.mk v9.p v9.at_ 0 v9.first v9.long)))))))))
def m6 (a0_r:Lt.Reader) (a1_l:List (List UInt8)) (KK:((Unit)×Lt.Reader)->Prop) (KP:Value->Lt.Reader->Prop):Prop:=
 if (!(Lt.fw [0,1] a0_r.where_))=true then (KP (Lt.flt 3) a0_r) else ((a1_l.length<=4611686018427387904->if (!(decide ((a1_l.length:Int)=3)))=true then (KP (Lt.flt 3) a0_r) else (aa (α:=Lt.Func) (fun J1=>((0:Int)<=1/\1<a1_l.length)/\((0:Int)<=2/\2<a1_l.length)/\(True/\exQ (Lt.bP (a1_l.getD 1 default)) (fun z5=>(True/\exQ (Lt.fa (a1_l.getD 2 default)) (fun z7=>J1 (Lt.Func.mk z5 z7 [] [] [])) (fun v=>KP v a0_r))/\(True/\exQ (Lt.fa (a1_l.getD 2 default)) (fun z6=>J1 (Lt.Func.mk z5 z6 [] [] [])) (fun v=>KP v a0_r))) (fun v=>KP v a0_r))/\(True/\exQ (Lt.bP (a1_l.getD 1 default)) (fun z3=>True/\exQ (Lt.fa (a1_l.getD 2 default)) (fun z4=>J1 (Lt.Func.mk z3 z4 [] [] [])) (fun v=>KP v a0_r)) (fun v=>KP v a0_r))) (fun v2=>have z2:=([(Lt.Func.mk v2.Name v2.Result [] [] [])]:List Lt.Func); (a0_r.p.Funcs.length<=4611686018427387904->if (decide (8<=(a0_r.p.Funcs.length:Int)))=true then (KP (Lt.flt 2) a0_r) else (aa (α:=Lt.Reader) (fun J8=>have z1:=((a0_r.p.Funcs.length+z2.length<=4611686018427387904/\(a0_r.p.Funcs.length+z2.length)*104<=140737488355328)/\J8 (Lt.Reader.mk (Lt.Program.mk a0_r.p.SSA a0_r.p.Classes a0_r.p.Globals a0_r.p.Externs (a0_r.p.Funcs++z2)) a0_r.at_ a0_r.where_ a0_r.first a0_r.long)); z1/\z1) (fun v9=>KK ((),(Lt.Reader.mk v9.p v9.at_ 2 v9.first 0)))))))))
def xh (a0_r:Lt.Reader) (a1_l:List (List UInt8)) (KK:((Unit)×Lt.Reader)->Prop) (KP:Value->Lt.Reader->Prop):Prop:=
 have z2:=(IntKind.i64.wrap ((a0_r.p.Funcs.length:Int) - 1)); have z8:=a0_r.p.Funcs.getD z2.toNat default; if (!(Lt.fw [2] a0_r.where_))=true then (KP (Lt.flt 3) a0_r) else ((a1_l.length<=4611686018427387904->if (!(decide ((a1_l.length:Int)=3)))=true then (KP (Lt.flt 3) a0_r) else (aa (α:=Lt.Var) (fun J1=>((0:Int)<=1/\1<a1_l.length)/\((0:Int)<=2/\2<a1_l.length)/\(True/\exQ (Lt.bP (a1_l.getD 1 default)) (fun z5=>(True/\exQ (Lt.fa (a1_l.getD 2 default)) (fun z7=>J1 (Lt.Var.mk z5 z7)) (fun v=>KP v a0_r))/\(True/\exQ (Lt.fa (a1_l.getD 2 default)) (fun z6=>J1 (Lt.Var.mk z5 z6)) (fun v=>KP v a0_r))) (fun v=>KP v a0_r))/\(True/\exQ (Lt.bP (a1_l.getD 1 default)) (fun z3=>True/\exQ (Lt.fa (a1_l.getD 2 default)) (fun z4=>J1 (Lt.Var.mk z3 z4)) (fun v=>KP v a0_r)) (fun v=>KP v a0_r))) (fun v2=>have z1:=(((z8.Params).length+([v2]:List Lt.Var).length<=4611686018427387904/\((z8.Params).length+([v2]:List Lt.Var).length)*32<=140737488355328)/\z2.toNat<a0_r.p.Funcs.length/\z2.toNat=z2.toNat/\KK ((),(Lt.Reader.mk (Lt.Program.mk a0_r.p.SSA a0_r.p.Classes a0_r.p.Globals a0_r.p.Externs (a0_r.p.Funcs.set z2.toNat (Lt.Func.mk (z8.Name) (z8.Result) ((z8.Params)++([v2]:List Lt.Var)) (z8.Vars) (z8.Blocks)))) a0_r.at_ a0_r.where_ a0_r.first a0_r.long))); (a0_r.p.Funcs.length<=4611686018427387904->((0:Int)<=z2/\z2 < ((a0_r.p.Funcs.length:Nat):Int))/\((z8.Params).length<=4611686018427387904->if (decide (6<=((z8.Params).length:Int)))=true then (KP (Lt.flt 2) a0_r) else (z1/\z1)))))))
def mi (a0_r:Lt.Reader) (a1_l:List (List UInt8)) (KK:((Unit)×Lt.Reader)->Prop) (KP:Value->Lt.Reader->Prop):Prop:=
 have z2:=(IntKind.i64.wrap ((a0_r.p.Funcs.length:Int) - 1)); have z8:=a0_r.p.Funcs.getD z2.toNat default; if (!(Lt.fw [2,3] a0_r.where_))=true then (KP (Lt.flt 3) a0_r) else ((a1_l.length<=4611686018427387904->if (!(decide ((a1_l.length:Int)=3)))=true then (KP (Lt.flt 3) a0_r) else (aa (α:=Lt.Var) (fun J1=>((0:Int)<=1/\1<a1_l.length)/\((0:Int)<=2/\2<a1_l.length)/\(True/\exQ (Lt.bP (a1_l.getD 1 default)) (fun z5=>(True/\exQ (Lt.fa (a1_l.getD 2 default)) (fun z7=>J1 (Lt.Var.mk z5 z7)) (fun v=>KP v a0_r))/\(True/\exQ (Lt.fa (a1_l.getD 2 default)) (fun z6=>J1 (Lt.Var.mk z5 z6)) (fun v=>KP v a0_r))) (fun v=>KP v a0_r))/\(True/\exQ (Lt.bP (a1_l.getD 1 default)) (fun z3=>True/\exQ (Lt.fa (a1_l.getD 2 default)) (fun z4=>J1 (Lt.Var.mk z3 z4)) (fun v=>KP v a0_r)) (fun v=>KP v a0_r))) (fun v2=>(a0_r.p.Funcs.length<=4611686018427387904->((0:Int)<=z2/\z2 < ((a0_r.p.Funcs.length:Nat):Int))/\((z8.Vars).length<=4611686018427387904->if (decide (1024<=((z8.Vars).length:Int)))=true then (KP (Lt.flt 2) a0_r) else (aa (α:=Lt.Reader) (fun J8=>have z1:=(((z8.Vars).length+([v2]:List Lt.Var).length<=4611686018427387904/\((z8.Vars).length+([v2]:List Lt.Var).length)*32<=140737488355328)/\z2.toNat<a0_r.p.Funcs.length/\z2.toNat=z2.toNat/\J8 (Lt.Reader.mk (Lt.Program.mk a0_r.p.SSA a0_r.p.Classes a0_r.p.Globals a0_r.p.Externs (a0_r.p.Funcs.set z2.toNat (Lt.Func.mk (z8.Name) (z8.Result) (z8.Params) ((z8.Vars)++([v2]:List Lt.Var)) (z8.Blocks)))) a0_r.at_ a0_r.where_ a0_r.first a0_r.long)); z1/\z1) (fun v9=>KK ((),(Lt.Reader.mk v9.p v9.at_ 3 v9.first v9.long))))))))))
def xS (a0_r:Lt.Reader) (a1_l:List (List UInt8)) (KK:((Unit)×Lt.Reader)->Prop) (KP:Value->Lt.Reader->Prop):Prop:=
 have z2:=(IntKind.i64.wrap ((a0_r.p.Funcs.length:Int) - 1)); have z4:=a0_r.p.Funcs.getD z2.toNat default; aa (α:=Unit) (fun J1=>if (decide (a0_r.where_=2))=true then (if (!true)=true then (KP (Lt.flt 3) a0_r) else (J1 ())) else (if (decide (a0_r.where_=3))=true then (if (!true)=true then (KP (Lt.flt 3) a0_r) else (J1 ())) else (if (decide (a0_r.where_=0))=true then (if (decide (0<=a0_r.long))=true then (if (!(decide (0 < (a0_r.p.Funcs.length:Int))))=true then (KP (Lt.flt 3) a0_r) else (J1 ())) else (if (!false)=true then (KP (Lt.flt 3) a0_r) else (J1 ()))) else (if (!false)=true then (KP (Lt.flt 3) a0_r) else (J1 ()))))) (fun v2=>(a1_l.length<=4611686018427387904->if (!(decide ((a1_l.length:Int)=2)))=true then (KP (Lt.flt 3) a0_r) else (((0:Int)<=1/\1<a1_l.length)/\True/\exQ (Lt.bP (a1_l.getD 1 default)) (fun z3=>have z5:=([(Lt.Block.mk z3 [] [] (Lt.Term.mk 0 (Lt.Arg.mk 0 ([]:List UInt8) 0) [] 0))]:List Lt.Block); (a0_r.p.Funcs.length<=4611686018427387904->((0:Int)<=z2/\z2 < ((a0_r.p.Funcs.length:Nat):Int))/\((z4.Blocks).length<=4611686018427387904->if (decide (256<=((z4.Blocks).length:Int)))=true then (KP (Lt.flt 2) a0_r) else (aa (α:=Lt.Reader) (fun J4=>have z1:=(((z4.Blocks).length+z5.length<=4611686018427387904/\((z4.Blocks).length+z5.length)*136<=140737488355328)/\z2.toNat<a0_r.p.Funcs.length/\z2.toNat=z2.toNat/\J4 (Lt.Reader.mk (Lt.Program.mk a0_r.p.SSA a0_r.p.Classes a0_r.p.Globals a0_r.p.Externs (a0_r.p.Funcs.set z2.toNat (Lt.Func.mk (z4.Name) (z4.Result) (z4.Params) (z4.Vars) ((z4.Blocks)++z5)))) a0_r.at_ a0_r.where_ a0_r.first a0_r.long)); z1/\z1) (fun v5=>KK ((),(Lt.Reader.mk v5.p v5.at_ 4 v5.first v5.long))))))) (fun v=>KP v a0_r))))
def Jg (a0_r:Lt.Reader) (a1_l:List (List UInt8)) (KK:((Unit)×Lt.Reader)->Prop) (KP:Value->Lt.Reader->Prop):Prop:=
 have z5:=(IntKind.i64.wrap ((a0_r.p.Funcs.length:Int) - 1)); have z1:=(a0_r.p.Funcs.getD z5.toNat default); have z4:=(IntKind.i64.wrap (((z1.Blocks).length:Int) - 1)); have z6:=(z1.Blocks).getD z4.toNat default; if (!(Lt.fw [4] a0_r.where_))=true then (KP (Lt.flt 3) a0_r) else (aa (α:=Unit) (fun J1=>(a1_l.length<=4611686018427387904->if (decide (4<=(a1_l.length:Int)))=true then ((2:Int)≠0/\if (!(decide ((Int.tmod (a1_l.length:Int) 2)=0)))=true then (KP (Lt.flt 3) a0_r) else (J1 ())) else (if (!false)=true then (KP (Lt.flt 3) a0_r) else (J1 ())))) (fun v2=>((0:Int)<=1/\1<a1_l.length)/\True/\exQ (Lt.bP (a1_l.getD 1 default)) (fun z3=>ba (α:=Int×Lt.Phi) (fun R4 v5=>have z13:=Lt.tX (a1_l.getD (IntKind.i64.wrap (v5.1+1)).toNat default) false; have z2:=(((z6.Phis).length+([v5.2]:List Lt.Phi).length<=4611686018427387904/\((z6.Phis).length+([v5.2]:List Lt.Phi).length)*40<=140737488355328)/\z5.toNat<a0_r.p.Funcs.length/\z4.toNat < (z1.Blocks).length/\z5.toNat=z5.toNat/\z4.toNat=z4.toNat/\KK ((),(Lt.Reader.mk (Lt.Program.mk a0_r.p.SSA a0_r.p.Classes a0_r.p.Globals a0_r.p.Externs (a0_r.p.Funcs.set z5.toNat (Lt.Func.mk (z1.Name) (z1.Result) (z1.Params) (z1.Vars) ((z1.Blocks).set z4.toNat (Lt.Block.mk (z6.Name) ((z6.Phis)++([v5.2]:List Lt.Phi)) (z6.Code) (Lt.Term.mk ((z6.End).Kind) ((z6.End).A) ((z6.End).To) ((z6.End).N))))))) a0_r.at_ a0_r.where_ a0_r.first (IntKind.i64.wrap (a0_r.long+1))))); (a1_l.length<=4611686018427387904->if (decide (v5.1 < (a1_l.length:Int)))=true then (aa (α:=Lt.Phi) (fun J6=>((0:Int)<=v5.1/\v5.1.toNat<a1_l.length)/\((0:Int)<=(IntKind.i64.wrap (v5.1+1))/\(IntKind.i64.wrap (v5.1+1)).toNat<a1_l.length)/\(True/\exQ (Lt.bP (a1_l.getD v5.1.toNat default)) (fun z11=>True/\exQ z13 (fun z12=>have z14:=([(Lt.In.mk z11 z12)]:List Lt.In); (v5.2.Ins.length+z14.length<=4611686018427387904/\(v5.2.Ins.length+z14.length)*48<=140737488355328)/\J6 (Lt.Phi.mk v5.2.Dst (v5.2.Ins++z14))) (fun v=>KP v a0_r)) (fun v=>KP v a0_r))/\(True/\exQ (Lt.bP (a1_l.getD v5.1.toNat default)) (fun z8=>(True/\exQ z13 (fun z10=>have z15:=([(Lt.In.mk z8 z10)]:List Lt.In); (v5.2.Ins.length+z15.length<=4611686018427387904/\(v5.2.Ins.length+z15.length)*48<=140737488355328)/\J6 (Lt.Phi.mk v5.2.Dst (v5.2.Ins++z15))) (fun v=>KP v a0_r))/\(True/\exQ z13 (fun z9=>have z16:=([(Lt.In.mk z8 z9)]:List Lt.In); have z7:=((v5.2.Ins.length+z16.length<=4611686018427387904/\(v5.2.Ins.length+z16.length)*48<=140737488355328)/\J6 (Lt.Phi.mk v5.2.Dst (v5.2.Ins++z16))); z7/\z7) (fun v=>KP v a0_r))) (fun v=>KP v a0_r))) (fun v7=>R4 ((IntKind.i64.wrap (v5.1+2)),v7))) else ((v5.2.Ins.length<=4611686018427387904->if (decide (256<=(IntKind.i64.wrap ((v5.2.Ins.length:Int) - 1))))=true then (KP (Lt.flt 2) a0_r) else (if (decide (1024<=a0_r.long))=true then (KP (Lt.flt 2) a0_r) else ((a0_r.p.Funcs.length<=4611686018427387904->((0:Int)<=z5/\z5 < ((a0_r.p.Funcs.length:Nat):Int))/\((z1.Blocks).length<=4611686018427387904->((0:Int)<=z4/\z4 < (((z1.Blocks).length:Nat):Int))/\z2/\z2)))))))) (2,(Lt.Phi.mk z3 []))) (fun v=>KP v a0_r)))
def A2 (a0_r:Lt.Reader) (a1_l:List (List UInt8)) (KK:((Unit)×Lt.Reader)->Prop) (KP:Value->Lt.Reader->Prop):Prop:=
 have z6:=(IntKind.i64.wrap ((a0_r.p.Funcs.length:Int) - 1)); have z1:=(a0_r.p.Funcs.getD z6.toNat default); have z4:=(IntKind.i64.wrap (((z1.Blocks).length:Int) - 1)); have z8:=(z1.Blocks).getD z4.toNat default; if (!(Lt.fw [4,5,6,7] a0_r.where_))=true then (KP (Lt.flt 3) a0_r) else (aa (α:=List (List UInt8)×Lt.Instr) (fun J1=>aa (α:=Bool) (fun J3=>(a1_l.length<=4611686018427387904->if (decide (2 < (a1_l.length:Int)))=true then (((0:Int)<=1/\1<a1_l.length)/\J3 (decide ((a1_l.getD 1 default)=[61]))) else (J3 false))) (fun v4=>if v4=true then (((0:Int)<=0/\0<a1_l.length)/\True/\exQ (Lt.bP (a1_l.getD 0 default)) (fun z5=>(0:Int)<=2/\(2<=a1_l.length/\a1_l.length<=a1_l.length)/\J1 (((a1_l.drop 2).take (a1_l.length - 2)),(Lt.Instr.mk 0 z5 ([]:List UInt8) [] [] []))) (fun v=>KP v a0_r)) else (J1 (a1_l,(Lt.Instr.mk 0 ([]:List UInt8) ([]:List UInt8) [] [] []))))) (fun v2=>have z7:=Lt.yOp (v2.1.getD 0 default); have z3:=(v2.1.drop 1).take (v2.1.length - 1); have z11:=(z3.drop 0).take (1 - 0); ((0:Int)<=0/\0<v2.1.length)/\if (!(z7.2))=true then (KP (Lt.flt 3) a0_r) else (if (!(((Lt.Of (z7.1)).1).Dst==(!decide (v2.2.Dst=([]:List UInt8)))))=true then (KP (Lt.flt 3) a0_r) else ((0:Int)<=1/\(1<=v2.1.length/\v2.1.length<=v2.1.length)/\aa (α:=Lt.Instr) (fun J6=>aa (α:=Bool) (fun J8=>if (decide (z7.1=26))=true then (J8 true) else (J8 (decide (z7.1=27)))) (fun v9=>if v9=true then ((z3.length<=4611686018427387904->if (!(decide (2<=(z3.length:Int))))=true then (KP (Lt.flt 3) a0_r) else (((0:Int)<=1/\1<z3.length)/\True/\exQ (Lt.bP (z3.getD 1 default)) (fun z10=>(0:Int)<=1/\(0<=1/\1<=z3.length)/\(0:Int)<=2/\(2<=z3.length/\z3.length<=z3.length)/\(z11.length<=4611686018427387904->ba (α:=List Lt.Arg×Int) (fun R11 v12=>if (decide (v12.2 < (z11.length:Int)))=true then (((0:Int)<=v12.2/\v12.2.toNat<z11.length)/\True/\exQ (Lt.tX (z11.getD v12.2.toNat default) false) (fun z13=>(v12.1.length+([z13]:List Lt.Arg).length<=4611686018427387904/\(v12.1.length+([z13]:List Lt.Arg).length)*32<=140737488355328)/\R11 ((v12.1++([z13]:List Lt.Arg)),(IntKind.i64.wrap (v12.2+1)))) (fun v=>KP v a0_r)) else ((Lt.bU ((z3.drop 2).take (z3.length - 2)) false)/\exQ (Lt.mV ((z3.drop 2).take (z3.length - 2)) false) (fun z14=>(v12.1.length+z14.length<=4611686018427387904/\(v12.1.length+z14.length)*32<=140737488355328)/\J6 (Lt.Instr.mk (z7.1) v2.2.Dst z10 (v12.1++z14) [] [])) (fun v=>KP v a0_r))) ([],0))) (fun v=>KP v a0_r)))) else (if (((Lt.Of (z7.1)).1).Named)=true then ((z3.length<=4611686018427387904->if (!(decide (1<=(z3.length:Int))))=true then (KP (Lt.flt 3) a0_r) else (((0:Int)<=0/\0<z3.length)/\True/\exQ (Lt.bP (z3.getD 0 default)) (fun z15=>(0:Int)<=1/\(1<=z3.length/\z3.length<=z3.length)/\(Lt.bU ((z3.drop 1).take (z3.length - 1)) false)/\exQ (Lt.mV ((z3.drop 1).take (z3.length - 1)) false) (fun z16=>J6 (Lt.Instr.mk (z7.1) v2.2.Dst z15 z16 [] [])) (fun v=>KP v a0_r)) (fun v=>KP v a0_r)))) else ((Lt.bU z3 false)/\exQ (Lt.mV z3 false) (fun z17=>J6 (Lt.Instr.mk (z7.1) v2.2.Dst v2.2.Name z17 [] [])) (fun v=>KP v a0_r))))) (fun v7=>have z9:=([(Lt.Instr.mk v7.Op v7.Dst v7.Name v7.Args [] [])]:List Lt.Instr); aa (α:=Unit) (fun J18=>(v7.Args.length<=4611686018427387904->if (decide (((Lt.Of (z7.1)).1).Least<=(v7.Args.length:Int)))=true then (if (!(decide ((v7.Args.length:Int)<=((Lt.Of (z7.1)).1).Most)))=true then (KP (Lt.flt 3) a0_r) else (J18 ())) else (if (!false)=true then (KP (Lt.flt 3) a0_r) else (J18 ())))) (fun v19=>if (decide (1024<=a0_r.long))=true then (KP (Lt.flt 2) a0_r) else ((a0_r.p.Funcs.length<=4611686018427387904->((0:Int)<=z6/\z6 < ((a0_r.p.Funcs.length:Nat):Int))/\((z1.Blocks).length<=4611686018427387904->((0:Int)<=z4/\z4 < (((z1.Blocks).length:Nat):Int))/\aa (α:=Lt.Reader) (fun J20=>have z2:=(((z8.Code).length+z9.length<=4611686018427387904/\((z8.Code).length+z9.length)*112<=140737488355328)/\z6.toNat<a0_r.p.Funcs.length/\z4.toNat < (z1.Blocks).length/\z6.toNat=z6.toNat/\z4.toNat=z4.toNat/\J20 (Lt.Reader.mk (Lt.Program.mk a0_r.p.SSA a0_r.p.Classes a0_r.p.Globals a0_r.p.Externs (a0_r.p.Funcs.set z6.toNat (Lt.Func.mk (z1.Name) (z1.Result) (z1.Params) (z1.Vars) ((z1.Blocks).set z4.toNat (Lt.Block.mk (z8.Name) (z8.Phis) ((z8.Code)++z9) (Lt.Term.mk ((z8.End).Kind) ((z8.End).A) ((z8.End).To) ((z8.End).N))))))) a0_r.at_ a0_r.where_ a0_r.first (IntKind.i64.wrap (a0_r.long+1)))); z2/\z2) (fun v21=>aa (α:=Bool) (fun J22=>if (decide (z7.1=31))=true then (J22 true) else (J22 (decide (z7.1=34)))) (fun v23=>if v23=true then (KK ((),(Lt.Reader.mk v21.p v21.at_ 6 v21.first v21.long))) else (KK ((),(Lt.Reader.mk v21.p v21.at_ 5 v21.first v21.long))))))))))))))
def xi (a0_r:Lt.Reader) (a1_l:List (List UInt8)) (KK:((Unit)×Lt.Reader)->Prop) (KP:Value->Lt.Reader->Prop):Prop:=
 have z24:=Lt.kW (a1_l.getD 3 default) 0 1024; have z15:=(IntKind.i64.wrap ((a0_r.p.Funcs.length:Int) - 1)); have z3:=(a0_r.p.Funcs.getD z15.toNat default); have z16:=(IntKind.i64.wrap (((z3.Blocks).length:Int) - 1)); have z1:=((z3.Blocks).getD z16.toNat default); have z17:=(IntKind.i64.wrap (((z1.Code).length:Int) - 1)); have z4:=((z1.Code).getD z17.toNat default); if (!(Lt.fw [6] a0_r.where_))=true then (KP (Lt.flt 3) a0_r) else (aa (α:=Unit) (fun J1=>(a1_l.length<=4611686018427387904->if (decide (4<=(a1_l.length:Int)))=true then ((2:Int)≠0/\if (!(decide ((Int.tmod (a1_l.length:Int) 2)=0)))=true then (KP (Lt.flt 3) a0_r) else (J1 ())) else (if (!false)=true then (KP (Lt.flt 3) a0_r) else (J1 ())))) (fun v2=>aa (α:=Lt.Frame) (fun J3=>((0:Int)<=1/\1<a1_l.length)/\((0:Int)<=2/\2<a1_l.length)/\((0:Int)<=3/\3<a1_l.length)/\(True/\exQ (Lt.bP (a1_l.getD 1 default)) (fun z8=>(True/\exQ (Lt.bP (a1_l.getD 2 default)) (fun z11=>(True/\exQ z24 (fun z13=>J3 (Lt.Frame.mk z8 z11 z13 [])) (fun v=>KP v a0_r))/\(True/\exQ z24 (fun z12=>J3 (Lt.Frame.mk z8 z11 z12 [])) (fun v=>KP v a0_r))) (fun v=>KP v a0_r))/\(True/\exQ (Lt.bP (a1_l.getD 2 default)) (fun z9=>True/\exQ z24 (fun z10=>J3 (Lt.Frame.mk z8 z9 z10 [])) (fun v=>KP v a0_r)) (fun v=>KP v a0_r))) (fun v=>KP v a0_r))/\(True/\exQ (Lt.bP (a1_l.getD 1 default)) (fun z5=>True/\exQ (Lt.bP (a1_l.getD 2 default)) (fun z6=>True/\exQ z24 (fun z7=>J3 (Lt.Frame.mk z5 z6 z7 [])) (fun v=>KP v a0_r)) (fun v=>KP v a0_r)) (fun v=>KP v a0_r))) (fun v4=>ba (α:=Int×Lt.Frame) (fun R14 v15=>have z23:=Lt.tX (a1_l.getD (IntKind.i64.wrap (v15.1+1)).toNat default) true; have z2:=(((z4.Frames).length+([v15.2]:List Lt.Frame).length<=4611686018427387904/\((z4.Frames).length+([v15.2]:List Lt.Frame).length)*64<=140737488355328)/\z15.toNat<a0_r.p.Funcs.length/\z16.toNat < (z3.Blocks).length/\z17.toNat < (z1.Code).length/\z15.toNat=z15.toNat/\z16.toNat=z16.toNat/\z17.toNat=z17.toNat/\KK ((),(Lt.Reader.mk (Lt.Program.mk a0_r.p.SSA a0_r.p.Classes a0_r.p.Globals a0_r.p.Externs (a0_r.p.Funcs.set z15.toNat (Lt.Func.mk (z3.Name) (z3.Result) (z3.Params) (z3.Vars) ((z3.Blocks).set z16.toNat (Lt.Block.mk (z1.Name) (z1.Phis) ((z1.Code).set z17.toNat (Lt.Instr.mk (z4.Op) (z4.Dst) (z4.Name) (z4.Args) ((z4.Frames)++([v15.2]:List Lt.Frame)) (z4.Objs))) (Lt.Term.mk ((z1.End).Kind) ((z1.End).A) ((z1.End).To) ((z1.End).N))))))) a0_r.at_ a0_r.where_ a0_r.first a0_r.long))); (a1_l.length<=4611686018427387904->if (decide (v15.1 < (a1_l.length:Int)))=true then (aa (α:=Lt.Frame) (fun J16=>((0:Int)<=v15.1/\v15.1.toNat<a1_l.length)/\((0:Int)<=(IntKind.i64.wrap (v15.1+1))/\(IntKind.i64.wrap (v15.1+1)).toNat<a1_l.length)/\(True/\exQ (Lt.bP (a1_l.getD v15.1.toNat default)) (fun z21=>True/\exQ z23 (fun z22=>have z25:=([(Lt.Bind.mk z21 z22)]:List Lt.Bind); (v15.2.Vars.length+z25.length<=4611686018427387904/\(v15.2.Vars.length+z25.length)*48<=140737488355328)/\J16 (Lt.Frame.mk v15.2.Func v15.2.Block v15.2.At (v15.2.Vars++z25))) (fun v=>KP v a0_r)) (fun v=>KP v a0_r))/\(True/\exQ (Lt.bP (a1_l.getD v15.1.toNat default)) (fun z18=>(True/\exQ z23 (fun z20=>have z26:=([(Lt.Bind.mk z18 z20)]:List Lt.Bind); (v15.2.Vars.length+z26.length<=4611686018427387904/\(v15.2.Vars.length+z26.length)*48<=140737488355328)/\J16 (Lt.Frame.mk v15.2.Func v15.2.Block v15.2.At (v15.2.Vars++z26))) (fun v=>KP v a0_r))/\(True/\exQ z23 (fun z19=>have z27:=([(Lt.Bind.mk z18 z19)]:List Lt.Bind); have z14:=((v15.2.Vars.length+z27.length<=4611686018427387904/\(v15.2.Vars.length+z27.length)*48<=140737488355328)/\J16 (Lt.Frame.mk v15.2.Func v15.2.Block v15.2.At (v15.2.Vars++z27))); z14/\z14) (fun v=>KP v a0_r))) (fun v=>KP v a0_r))) (fun v17=>R14 ((IntKind.i64.wrap (v15.1+2)),v17))) else ((v15.2.Vars.length<=4611686018427387904->if (decide (16<=(IntKind.i64.wrap ((v15.2.Vars.length:Int) - 1))))=true then (KP (Lt.flt 2) a0_r) else ((a0_r.p.Funcs.length<=4611686018427387904->((0:Int)<=z15/\z15 < ((a0_r.p.Funcs.length:Nat):Int))/\((z3.Blocks).length<=4611686018427387904->((0:Int)<=z16/\z16 < (((z3.Blocks).length:Nat):Int))/\((z1.Code).length<=4611686018427387904->((0:Int)<=z17/\z17 < (((z1.Code).length:Nat):Int))/\((z4.Frames).length<=4611686018427387904->if (decide (16<=((z4.Frames).length:Int)))=true then (KP (Lt.flt 2) a0_r) else (z2/\z2)))))))))) (4,(Lt.Frame.mk v4.Func v4.Block v4.At [])))))
def sL (a0_r:Lt.Reader) (a1_l:List (List UInt8)) (KK:((Unit)×Lt.Reader)->Prop) (KP:Value->Lt.Reader->Prop):Prop:=
 have z13:=(a1_l.drop 2).take (a1_l.length - 2); have z10:=(IntKind.i64.wrap ((a0_r.p.Funcs.length:Int) - 1)); have z3:=(a0_r.p.Funcs.getD z10.toNat default); have z11:=(IntKind.i64.wrap (((z3.Blocks).length:Int) - 1)); have z1:=((z3.Blocks).getD z11.toNat default); have z12:=(IntKind.i64.wrap (((z1.Code).length:Int) - 1)); have z4:=((z1.Code).getD z12.toNat default); if (!(Lt.fw [6,7] a0_r.where_))=true then (KP (Lt.flt 3) a0_r) else (aa (α:=Unit) (fun J1=>(a1_l.length<=4611686018427387904->if (decide (2<=(a1_l.length:Int)))=true then (if (!(decide ((a1_l.length:Int)<=10)))=true then (KP (Lt.flt 3) a0_r) else (J1 ())) else (if (!false)=true then (KP (Lt.flt 3) a0_r) else (J1 ())))) (fun v2=>aa (α:=Lt.Virt) (fun J3=>((0:Int)<=1/\1<a1_l.length)/\(0:Int)<=2/\(2<=a1_l.length/\a1_l.length<=a1_l.length)/\(True/\exQ (Lt.bP (a1_l.getD 1 default)) (fun z7=>((Lt.bU z13 true)/\exQ (Lt.mV z13 true) (fun z9=>J3 (Lt.Virt.mk z7 z9)) (fun v=>KP v a0_r))/\((Lt.bU z13 true)/\exQ (Lt.mV z13 true) (fun z8=>J3 (Lt.Virt.mk z7 z8)) (fun v=>KP v a0_r))) (fun v=>KP v a0_r))/\(True/\exQ (Lt.bP (a1_l.getD 1 default)) (fun z5=>(Lt.bU z13 true)/\exQ (Lt.mV z13 true) (fun z6=>J3 (Lt.Virt.mk z5 z6)) (fun v=>KP v a0_r)) (fun v=>KP v a0_r))) (fun v4=>(a0_r.p.Funcs.length<=4611686018427387904->((0:Int)<=z10/\z10 < ((a0_r.p.Funcs.length:Nat):Int))/\((z3.Blocks).length<=4611686018427387904->((0:Int)<=z11/\z11 < (((z3.Blocks).length:Nat):Int))/\((z1.Code).length<=4611686018427387904->((0:Int)<=z12/\z12 < (((z1.Code).length:Nat):Int))/\((z4.Objs).length<=4611686018427387904->if (decide (99<=((z4.Objs).length:Int)))=true then (KP (Lt.flt 2) a0_r) else (aa (α:=Lt.Reader) (fun J10=>have z2:=(((z4.Objs).length+([v4]:List Lt.Virt).length<=4611686018427387904/\((z4.Objs).length+([v4]:List Lt.Virt).length)*40<=140737488355328)/\z10.toNat<a0_r.p.Funcs.length/\z11.toNat < (z3.Blocks).length/\z12.toNat < (z1.Code).length/\z10.toNat=z10.toNat/\z11.toNat=z11.toNat/\z12.toNat=z12.toNat/\J10 (Lt.Reader.mk (Lt.Program.mk a0_r.p.SSA a0_r.p.Classes a0_r.p.Globals a0_r.p.Externs (a0_r.p.Funcs.set z10.toNat (Lt.Func.mk (z3.Name) (z3.Result) (z3.Params) (z3.Vars) ((z3.Blocks).set z11.toNat (Lt.Block.mk (z1.Name) (z1.Phis) ((z1.Code).set z12.toNat (Lt.Instr.mk (z4.Op) (z4.Dst) (z4.Name) (z4.Args) (z4.Frames) ((z4.Objs)++([v4]:List Lt.Virt)))) (Lt.Term.mk ((z1.End).Kind) ((z1.End).A) ((z1.End).To) ((z1.End).N))))))) a0_r.at_ a0_r.where_ a0_r.first a0_r.long)); z2/\z2) (fun v11=>KK ((),(Lt.Reader.mk v11.p v11.at_ 7 v11.first v11.long)))))))))))
def Ir (a0_r:Lt.Reader) (a1_l:List (List UInt8)) (KK:((Unit)×Lt.Reader)->Prop) (KP:Value->Lt.Reader->Prop):Prop:=
 have z11:=(!(decide ((a1_l.length:Int)=2))); have z10:=((0:Int)<=1/\1<a1_l.length); have z9:=(IntKind.i64.wrap ((a0_r.p.Funcs.length:Int) - 1)); have z1:=(a0_r.p.Funcs.getD z9.toNat default); have z8:=(IntKind.i64.wrap (((z1.Blocks).length:Int) - 1)); have z12:=(z1.Blocks).getD z8.toNat default; if (!(Lt.fw [4,5,6,7] a0_r.where_))=true then (KP (Lt.flt 3) a0_r) else (aa (α:=Lt.Term) (fun J1=>((0:Int)<=0/\0<a1_l.length)/\if (decide ((a1_l.getD 0 default)=[106,117,109,112]))=true then ((a1_l.length<=4611686018427387904->if z11=true then (KP (Lt.flt 3) a0_r) else (z10/\True/\exQ (Lt.bP (a1_l.getD 1 default)) (fun z3=>J1 (Lt.Term.mk 1 (Lt.Arg.mk 0 ([]:List UInt8) 0) [z3] 0)) (fun v=>KP v a0_r)))) else (if (decide ((a1_l.getD 0 default)=[98,114,97,110,99,104]))=true then ((a1_l.length<=4611686018427387904->if (!(decide ((a1_l.length:Int)=4)))=true then (KP (Lt.flt 3) a0_r) else (z10/\((0:Int)<=2/\2<a1_l.length)/\((0:Int)<=3/\3<a1_l.length)/\True/\exQ (Lt.tX (a1_l.getD 1 default) false) (fun z4=>True/\exQ (Lt.bP (a1_l.getD 2 default)) (fun z5=>True/\exQ (Lt.bP (a1_l.getD 3 default)) (fun z6=>J1 (Lt.Term.mk 2 z4 [z5,z6] 0)) (fun v=>KP v a0_r)) (fun v=>KP v a0_r)) (fun v=>KP v a0_r)))) else (if (decide ((a1_l.getD 0 default)=[114,101,116]))=true then ((a1_l.length<=4611686018427387904->if z11=true then (KP (Lt.flt 3) a0_r) else (z10/\True/\exQ (Lt.tX (a1_l.getD 1 default) false) (fun z7=>J1 (Lt.Term.mk 3 z7 [] 0)) (fun v=>KP v a0_r)))) else ((a1_l.length<=4611686018427387904->if z11=true then (KP (Lt.flt 3) a0_r) else (z10/\if (!((Lt.dc (a1_l.getD 1 default)).2))=true then (KP (Lt.flt 3) a0_r) else (J1 (Lt.Term.mk 4 (Lt.Arg.mk 0 ([]:List UInt8) 0) [] ((Lt.dc (a1_l.getD 1 default)).1))))))))) (fun v2=>aa (α:=Lt.Reader) (fun J8=>have z2:=((a0_r.p.Funcs.length<=4611686018427387904->((0:Int)<=z9/\z9 < ((a0_r.p.Funcs.length:Nat):Int))/\((z1.Blocks).length<=4611686018427387904->((0:Int)<=z8/\z8 < (((z1.Blocks).length:Nat):Int))/\z9.toNat<a0_r.p.Funcs.length/\z8.toNat < (z1.Blocks).length/\J8 (Lt.Reader.mk (Lt.Program.mk a0_r.p.SSA a0_r.p.Classes a0_r.p.Globals a0_r.p.Externs (a0_r.p.Funcs.set z9.toNat (Lt.Func.mk (z1.Name) (z1.Result) (z1.Params) (z1.Vars) ((z1.Blocks).set z8.toNat (Lt.Block.mk (z12.Name) (z12.Phis) (z12.Code) v2))))) a0_r.at_ a0_r.where_ a0_r.first a0_r.long)))); z2/\z2) (fun v9=>KK ((),(Lt.Reader.mk v9.p v9.at_ 0 v9.first v9.long)))))
def yGo (r:Lt.Reader) (l:List (List UInt8)) (KK:((Unit)×Lt.Reader)->Prop) (KP:Value->Lt.Reader->Prop) (X:Except Value Unit×Lt.Reader):Prop:=
 (r.p.Classes.length<=4611686018427387904->(r.p.Globals.length<=4611686018427387904->(r.p.Externs.length<=4611686018427387904->Lt.ap r l/\exP X (fun _ x=>aa (α:=Lt.Reader) (fun J5=>(x.p.Classes.length<=4611686018427387904->(x.p.Globals.length<=4611686018427387904->(x.p.Externs.length<=4611686018427387904->if (decide ((IntKind.i64.wrap ((IntKind.i64.wrap ((r.p.Classes.length:Int)+(r.p.Globals.length:Int)))+(r.p.Externs.length:Int))) < (IntKind.i64.wrap ((IntKind.i64.wrap ((x.p.Classes.length:Int)+(x.p.Globals.length:Int)))+(x.p.Externs.length:Int)))))=true then (J5 (Lt.Reader.mk x.p x.at_ x.where_ x.first (-1))) else (J5 x))))) (fun v=>KK ((),(Lt.Reader.mk v.p v.at_ v.where_ false v.long)))) (fun v x=>KP v x))))
def lh (r:Lt.Reader) (l:List (List UInt8)) (KK:((Unit)×Lt.Reader)->Prop) (KP:Value->Lt.Reader->Prop) (X:Except Value Unit×Lt.Reader):Prop:=
 aa (α:=Bool) (fun J1=>(l.length<=4611686018427387904->if (decide (2 < (l.length:Int)))=true then (((0:Int)<=1/\1<l.length)/\J1 (decide ((l.getD 1 default)=[61]))) else (J1 false))) (fun v2=>if v2=true then yGo r l KK KP (Lt.qM r l) else yGo r l KK KP X)
def Br (r:Lt.Reader) (l:List (List UInt8)) (KK:((Unit)×Lt.Reader)->Prop) (KP:Value->Lt.Reader->Prop):Prop:=
 ((0:Int)<=0/\0<l.length)/\if decide ((l.getD 0 default)=[115,115,97])=true then lh r l KK KP (Lt.Qn r l) else if decide ((l.getD 0 default)=[99,108,97,115,115])=true then lh r l KK KP (Lt.xx r l) else if decide ((l.getD 0 default)=[102,105,101,108,100])=true then lh r l KK KP (Lt.vG r l) else if decide ((l.getD 0 default)=[103,108,111,98,97,108])=true then lh r l KK KP (Lt.p6 r l) else if decide ((l.getD 0 default)=[101,120,116,101,114,110])=true then lh r l KK KP (Lt.q7 r l) else if decide ((l.getD 0 default)=[102,117,110,99])=true then lh r l KK KP (Lt.km r l) else if decide ((l.getD 0 default)=[112,97,114,97,109])=true then lh r l KK KP (Lt.vO r l) else if decide ((l.getD 0 default)=[118,97,114])=true then lh r l KK KP (Lt.jZ r l) else if decide ((l.getD 0 default)=[98,108,111,99,107])=true then lh r l KK KP (Lt.xG r l) else if decide ((l.getD 0 default)=[112,104,105])=true then lh r l KK KP (Lt.NB r l) else if decide ((l.getD 0 default)=[97,116])=true then lh r l KK KP (Lt.wj r l) else if decide ((l.getD 0 default)=[111,98,106])=true then lh r l KK KP (Lt.lF r l) else if decide ((l.getD 0 default)=[106,117,109,112])=true then lh r l KK KP (Lt.yr r l) else if decide ((l.getD 0 default)=[98,114,97,110,99,104])=true then lh r l KK KP (Lt.yr r l) else if decide ((l.getD 0 default)=[114,101,116])=true then lh r l KK KP (Lt.yr r l) else if decide ((l.getD 0 default)=[116,114,97,112])=true then lh r l KK KP (Lt.yr r l) else lh r l KK KP (Lt.qM r l)
def vj (a0_s:List UInt8) (KK:(Lt.Program×Int×Int)->Prop):Prop:=
 have z1:=Lt.Program.mk false [] [] [] []; if (!decide ((Lt.dN a0_s).2.2=0))=true then (aa (α:=Lt.Program×Int×Int) (fun J1=>have z2:=(J1 (z1,(Lt.dN a0_s).2.1,(Lt.dN a0_s).2.2))/\(J1 (z1,(Lt.dN a0_s).2.1,(Lt.dN a0_s).2.2)); ((J1 (z1,(Lt.dN a0_s).2.1,(Lt.dN a0_s).2.2))/\z2)/\z2/\z2) (fun v2=>KK ((Lt.Program.mk v2.1.SSA [] [] [] []),v2.2.1,v2.2.2))) else ((((Lt.dN a0_s).1).length<=4611686018427387904->ba (α:=Int×Lt.Reader) (fun R3 v4=>have z3:=((Lt.dN a0_s).1).getD v4.1.toNat default; if (decide (v4.1 < (((Lt.dN a0_s).1).length:Int)))=true then (((0:Int)<=v4.1/\v4.1.toNat < ((Lt.dN a0_s).1).length)/\(Lt.ap (Lt.Reader.mk v4.2.p (z3.N) v4.2.where_ v4.2.first v4.2.long) (z3.Words))/\exP (Lt.tz (Lt.Reader.mk v4.2.p (z3.N) v4.2.where_ v4.2.first v4.2.long) (z3.Words)) (fun z5 r6=>R3 ((IntKind.i64.wrap (v4.1+1)),r6)) (fun v r6=>∃ n7:Int,v=Lt.flt n7/\(Lit.int .i64 n7).wf=true/\((KK (z1,r6.at_,n7))/\((KK (z1,r6.at_,n7))/\(KK (z1,r6.at_,n7)))))) else (if (!(Lt.fw [0,1] v4.2.where_))=true then (∃ n8:Int,(Lt.flt 3)=Lt.flt n8/\(Lit.int .i64 n8).wf=true/\((KK (z1,0,n8))/\((KK (z1,0,n8))/\(KK (z1,0,n8))))) else (KK (v4.2.p,0,0)))) (0,(Lt.Reader.mk z1 0 0 true (-1)))))
end Go.Am
end

section
namespace Go.Am
open Go
def IR (a0_s:List UInt8) (KK:(Int×Bool)->Prop):Prop:=
 ba (α:=Int×Int) (fun R1 v2=>aa (α:=Bool) (fun J3=>(a0_s.length<=4611686018427387904->if (decide (v2.2 < (a0_s.length:Int)))=true then (J3 (decide (v2.2 < 30))) else (J3 false))) (fun v4=>if v4=true then (aa (α:=Int) (fun J5=>aa (α:=Bool) (fun J7=>if (decide (v2.2=0))=true then (((0:Int)<=0/\0<a0_s.length)/\J7 (decide ((((a0_s.getD 0 0).toNat:Nat):Int)=(((45:UInt8).toNat:Nat):Int)))) else (J7 false)) (fun v8=>if v8=true then (J5 v2.1) else (((0:Int)<=v2.2/\v2.2.toNat<a0_s.length)/\J5 (IntKind.u64.wrap ((IntKind.u64.wrap ((IntKind.u64.wrap (v2.1*10))+(IntKind.u64.wrap (((a0_s.getD v2.2.toNat 0).toNat:Nat):Int)))) - 48))))) (fun v6=>R1 (v6,(IntKind.i64.wrap (v2.2+1))))) else (aa (α:=Int) (fun J9=>aa (α:=Bool) (fun J11=>(a0_s.length<=4611686018427387904->if (decide (0 < (a0_s.length:Int)))=true then (((0:Int)<=0/\0<a0_s.length)/\J11 (decide ((((a0_s.getD 0 0).toNat:Nat):Int)=(((45:UInt8).toNat:Nat):Int)))) else (J11 false))) (fun v12=>if v12=true then (J9 (IntKind.u64.wrap (0-v2.1))) else (J9 v2.1))) (fun v10=>(Lt.gJ (Lt.pJ v10))/\if (!decide ((Lt.pU (Lt.pJ v10))=a0_s))=true then (KK (0,false)) else (KK ((Lt.pJ v10),true)))))) (0,0)
def GT (a0_s:List UInt8) (KK:(Int×Bool)->Prop):Prop:=
 (a0_s.length<=4611686018427387904->if (!decide ((a0_s.length:Int)=18))=true then (KK (0,false)) else (ba (α:=Int×Int) (fun R1 v2=>if (decide (v2.2 < 18))=true then (((0:Int)<=v2.2/\v2.2.toNat<a0_s.length)/\aa (α:=Int) (fun J3=>if (decide (97<=(IntKind.u64.wrap (((a0_s.getD v2.2.toNat 0).toNat:Nat):Int))))=true then (J3 (IntKind.u64.wrap ((IntKind.u64.wrap (((a0_s.getD v2.2.toNat 0).toNat:Nat):Int)) - 87))) else (J3 (IntKind.u64.wrap ((IntKind.u64.wrap (((a0_s.getD v2.2.toNat 0).toNat:Nat):Int)) - 48)))) (fun v4=>(16:Int)≠0/\R1 ((IntKind.u64.wrap ((IntKind.u64.wrap (v2.1*16))+(Int.tmod v4 16))),(IntKind.i64.wrap (v2.2+1))))) else (if (!decide ((Lt.jR (IntKind.i64.wrap v2.1))=a0_s))=true then (KK (0,false)) else (KK ((IntKind.i64.wrap v2.1),true)))) (0,2)))
def Is (a0_s:List UInt8) (KK:(Lt.Arg×Bool)->Prop):Prop:=
 have z9:=((0:Int)<=4/\(4:Int) < ((5:Nat):Int)); have z8:=((0:Int)<=3/\(3:Int) < ((5:Nat):Int)); have z7:=((0:Int)<=2/\(2:Int) < ((5:Nat):Int)); have z6:=((0:Int)<=1/\(1:Int) < ((5:Nat):Int)); have z5:=((0:Int)<=0/\(0:Int) < ((5:Nat):Int)); have z4:=(Lt.Arg.mk 4 ([]:List UInt8) 0); have z2:=(Lt.Arg.mk 3 ([]:List UInt8) ((Lt.eD a0_s).1)); have z1:=(Lt.Arg.mk 2 ([]:List UInt8) ((Lt.aD a0_s).1)); aa (α:=List UInt8) (fun J1=>(a0_s.length<=4611686018427387904->if (decide (0 < (a0_s.length:Int)))=true then ((0:Int)<=1/\(1<=a0_s.length/\a0_s.length<=a0_s.length)/\J1 ((a0_s.drop 1).take (a0_s.length - 1))) else (J1 ([]:List UInt8)))) (fun v2=>have z3:=(Lt.Arg.mk 5 ([]:List UInt8) ((Lt.aD v2).1)); aa (α:=Unit) (fun J3=>if (decide ((0:Int) < 5))=true then (aa (α:=Bool) (fun J5=>z5/\if (Lt.fX (Lt.Arg.mk 1 a0_s 0))=true then (z5/\(Lt.jV (Lt.Arg.mk 1 a0_s 0))/\J5 (decide ((Lt.mJ (Lt.Arg.mk 1 a0_s 0))=a0_s))) else (J5 false)) (fun v6=>if v6=true then (z5/\KK ((Lt.Arg.mk 1 a0_s 0),true)) else (if (decide ((1:Int) < 5))=true then (aa (α:=Bool) (fun J7=>z6/\if (Lt.fX z1)=true then (z6/\(Lt.jV z1)/\J7 (decide ((Lt.mJ z1)=a0_s))) else (J7 false)) (fun v8=>if v8=true then (z6/\KK (z1,true)) else (if (decide ((2:Int) < 5))=true then (aa (α:=Bool) (fun J9=>z7/\if (Lt.fX z2)=true then (z7/\(Lt.jV z2)/\J9 (decide ((Lt.mJ z2)=a0_s))) else (J9 false)) (fun v10=>if v10=true then (z7/\KK (z2,true)) else (if (decide ((3:Int) < 5))=true then (aa (α:=Bool) (fun J11=>z8/\if (Lt.fX z4)=true then (z8/\(Lt.jV z4)/\J11 (decide ((Lt.mJ z4)=a0_s))) else (J11 false)) (fun v12=>if v12=true then (z8/\KK (z4,true)) else (if (decide ((4:Int) < 5))=true then (aa (α:=Bool) (fun J13=>z9/\if (Lt.fX z3)=true then (z9/\(Lt.jV z3)/\J13 (decide ((Lt.mJ z3)=a0_s))) else (J13 false)) (fun v14=>if v14=true then (z9/\KK (z3,true)) else (if (decide ((5:Int) < 5))=true then (aa (α:=Bool) (fun J15=>False) (fun v16=>if v16=true then (False) else (False))) else (J3 ())))) else (J3 ())))) else (J3 ())))) else (J3 ())))) else (J3 ())))) else (J3 ())) (fun v4=>KK ((Lt.Arg.mk 0 ([]:List UInt8) 0),false)))
def wA (a0_l:List (List UInt8)) (KK:Bool->Prop):Prop:=
 ba (α:=Int) (fun R1 v2=>(a0_l.length<=4611686018427387904->if (decide (v2 < (a0_l.length:Int)))=true then (((0:Int)<=v2/\v2.toNat<a0_l.length)/\if (!(Lt.az (a0_l.getD v2.toNat default)))=true then (KK false) else (R1 (IntKind.i64.wrap (v2+1)))) else (KK true))) 0
def BM (a0_w:List UInt8) (KK:Bool->Prop):Prop:=
 aa (α:=Bool) (fun J1=>if (decide (a0_w=[105,110,116]))=true then (J1 true) else (if (decide (a0_w=[102,108,111,97,116]))=true then (J1 true) else (J1 (Lt.az a0_w)))) (fun v2=>KK v2)
def xD (a0_l:List (List UInt8)) (KK:Bool->Prop):Prop:=
 aa (α:=Bool) (fun J1=>(a0_l.length<=4611686018427387904->if (decide ((a0_l.length:Int)=3))=true then (((0:Int)<=1/\1<a0_l.length)/\if (Lt.dy [(a0_l.getD 1 default)])=true then (((0:Int)<=2/\2<a0_l.length)/\J1 (Lt.iI (a0_l.getD 2 default))) else (J1 false)) else (J1 false))) (fun v2=>KK v2)
def uX (a0_n:Int) (a1_most:Int) (KK:Int->Prop):Prop:=
 if (decide (a1_most<=a0_n))=true then (KK 2) else (KK 0)
def OE (a0_word:List UInt8) (KK:(Int×Bool)->Prop):Prop:=
 ba (α:=Int) (fun R1 v2=>if (decide (v2<=34))=true then (((0:Int)<=v2/\v2 < ((35:Nat):Int))/\v2.toNat<gw.length/\if (decide ((gw.getD v2.toNat default)=a0_word))=true then (KK (v2,true)) else (R1 (IntKind.i64.wrap (v2+1)))) else (KK (0,false))) 1
def Bu (a0_l:List (List UInt8)) (a1_objs:Bool) (KK:(List Lt.Arg×Bool)->Prop):Prop:=
 ba (α:=List Lt.Arg×Int) (fun R1 v2=>(a0_l.length<=4611686018427387904->if (decide (v2.2 < (a0_l.length:Int)))=true then (((0:Int)<=v2.2/\v2.2.toNat<a0_l.length)/\aa (α:=Bool) (fun J3=>if (!((Lt.cM (a0_l.getD v2.2.toNat default)).2))=true then (J3 true) else (if (decide (((Lt.cM (a0_l.getD v2.2.toNat default)).1).Kind=5))=true then (J3 (!a1_objs)) else (J3 false))) (fun v4=>if v4=true then (KK ([],false)) else ((v2.1.length+([((Lt.cM (a0_l.getD v2.2.toNat default)).1)]:List Lt.Arg).length<=4611686018427387904/\(v2.1.length+([((Lt.cM (a0_l.getD v2.2.toNat default)).1)]:List Lt.Arg).length)*32<=140737488355328)/\R1 ((v2.1++([((Lt.cM (a0_l.getD v2.2.toNat default)).1)]:List Lt.Arg)),(IntKind.i64.wrap (v2.2+1)))))) else (KK (v2.1,true)))) ([],0)
def vA (a0_l:List (List UInt8)) (a1_from:Int) (a2_objs:Bool) (KK:(List Lt.Bind×Bool)->Prop):Prop:=
 aa (α:=Bool) (fun J1=>(a0_l.length<=4611686018427387904->if (decide ((a0_l.length:Int)<a1_from))=true then (J1 true) else ((2:Int)≠0/\J1 (!decide ((Int.tmod (IntKind.i64.wrap ((a0_l.length:Int)-a1_from)) 2)=0))))) (fun v2=>if v2=true then (KK ([],false)) else (ba (α:=List Lt.Bind×Int) (fun R3 v4=>have z4:=IntKind.i64.wrap (v4.2+1); have z3:=IntKind.i64.wrap (v4.2+2); have z1:=(a0_l.drop z4.toNat).take (z3.toNat-z4.toNat); have z2:=([(Lt.Bind.mk (a0_l.getD v4.2.toNat default) (((Lt.aT z1 a2_objs).1).getD 0 default))]:List Lt.Bind); (a0_l.length<=4611686018427387904->if (decide (v4.2 < (a0_l.length:Int)))=true then ((0:Int)<=z4/\(0:Int)<=z3/\(z4.toNat<=z3.toNat/\z3.toNat<=a0_l.length)/\(Lt.bU z1 a2_objs)/\aa (α:=Bool) (fun J5=>((0:Int)<=v4.2/\v4.2.toNat<a0_l.length)/\if (!(Lt.dy [(a0_l.getD v4.2.toNat default)]))=true then (J5 true) else (J5 (!((Lt.aT z1 a2_objs).2)))) (fun v6=>if v6=true then (KK ([],false)) else (((0:Int)<=v4.2/\v4.2.toNat<a0_l.length)/\((0:Int)<=0/\0 < ((Lt.aT z1 a2_objs).1).length)/\(v4.1.length+z2.length<=4611686018427387904/\(v4.1.length+z2.length)*48<=140737488355328)/\R3 ((v4.1++z2),z3)))) else (KK (v4.1,true)))) ([],a1_from)))
def vC (a0_r:Lt.Read) (a1_l:List (List UInt8)) (KK:((Bool×Int)×Lt.Read)->Prop):Prop:=
 have z20:=decide (a0_r.Where<=2); have z19:=!(decide (a0_r.Where=9)); have z18:=Lt.aD (a1_l.getD 2 default); have z17:=((0:Int)<=2/\2<a1_l.length); have z15:=!(Lt.dy [(a1_l.getD 1 default)]); have z14:=([(Lt.Class.mk (a1_l.getD 1 default) [])]:List Lt.Class); have z13:=([(Lt.Func.mk (a1_l.getD 1 default) (a1_l.getD 2 default) [] [] [])]:List Lt.Func); have z12:=([(Lt.Extern.mk (a1_l.getD 1 default) (z18.1))]:List Lt.Extern); have z10:=((0:Int)<=1/\1<a1_l.length); have z3:=([(Lt.Var.mk (a1_l.getD 1 default) (a1_l.getD 2 default))]:List Lt.Var); have z2:=(IntKind.i64.wrap ((a0_r.P.Classes.length:Int) - 1)); have z8:=((0:Int)<=z2/\z2 < ((a0_r.P.Classes.length:Nat):Int)); have z7:=(a0_r.P.Classes.getD z2.toNat default).Fields; have z16:=z7.length+z3.length<=4611686018427387904/\(z7.length+z3.length)*32<=140737488355328; have z11:=Lt.Read.mk (Lt.Program.mk a0_r.P.SSA (a0_r.P.Classes.set z2.toNat (Lt.Class.mk ((a0_r.P.Classes.getD z2.toNat default).Name) (z7++z3))) a0_r.P.Globals a0_r.P.Externs a0_r.P.Funcs) a0_r.Where a0_r.Long; ((0:Int)<=0/\0<a1_l.length)/\if (decide ((a1_l.getD 0 default)=[99,108,97,115,115]))=true then (aa (α:=Bool) (fun J1=>if z20=true then (if (!true)=true then (J1 true) else (if (!decide ((a1_l.length:Int)=2))=true then (J1 true) else (z10/\J1 z15))) else (if z19=true then (J1 true) else (if (!decide ((a1_l.length:Int)=2))=true then (J1 true) else (z10/\J1 z15)))) (fun v2=>if v2=true then (KK ((true,3),a0_r)) else ((a0_r.P.Classes.length<=4611686018427387904->aa (α:=Lt.Read) (fun J3=>if (decide ((Lt.bN (a0_r.P.Classes.length:Int) 8)=0))=true then (aa (α:=Lt.Read) (fun J5=>have z6:=((a0_r.P.Classes.length+z14.length<=4611686018427387904/\(a0_r.P.Classes.length+z14.length)*40<=140737488355328)/\J5 (Lt.Read.mk (Lt.Program.mk a0_r.P.SSA (a0_r.P.Classes++z14) a0_r.P.Globals a0_r.P.Externs a0_r.P.Funcs) a0_r.Where a0_r.Long)); z10/\z6/\z6) (fun v6=>J3 (Lt.Read.mk v6.P 1 v6.Long))) else (J3 a0_r)) (fun v4=>KK ((true,(Lt.bN (a0_r.P.Classes.length:Int) 8)),v4)))))) else (if (decide ((a1_l.getD 0 default)=[102,105,101,108,100]))=true then (aa (α:=Bool) (fun J7=>if (!decide (a0_r.Where=1))=true then (J7 true) else (J7 (!(Lt.bM a1_l)))) (fun v8=>if v8=true then (KK ((true,3),a0_r)) else ((a0_r.P.Classes.length<=4611686018427387904->z8/\(z7.length<=4611686018427387904->aa (α:=Lt.Read) (fun J9=>have z1:=(z16/\z8/\z2.toNat<a0_r.P.Classes.length/\z2.toNat=z2.toNat/\J9 z11); if (decide ((Lt.bN (z7.length:Int) 8)=0))=true then (z10/\z17/\((z8/\z1/\z1)/\(z8/\z16/\z8/\z2.toNat<a0_r.P.Classes.length/\z2.toNat=z2.toNat/\J9 z11))/\(z8/\(z1/\z1)/\(z1/\(z1/\z1))/\(z1/\z1))/\(z8/\z1/\z1)) else (J9 a0_r)) (fun v10=>KK ((true,(Lt.bN (z7.length:Int) 8)),v10))))))) else (if (decide ((a1_l.getD 0 default)=[103,108,111,98,97,108]))=true then (aa (α:=Bool) (fun J11=>if z20=true then (if (!true)=true then (J11 true) else (J11 (!(Lt.bM a1_l)))) else (if z19=true then (J11 true) else (J11 (!(Lt.bM a1_l))))) (fun v12=>if v12=true then (KK ((true,3),a0_r)) else ((a0_r.P.Globals.length<=4611686018427387904->aa (α:=Lt.Read) (fun J13=>have z9:=(a0_r.P.Globals.length+z3.length<=4611686018427387904/\(a0_r.P.Globals.length+z3.length)*32<=140737488355328)/\J13 (Lt.Read.mk (Lt.Program.mk a0_r.P.SSA a0_r.P.Classes (a0_r.P.Globals++z3) a0_r.P.Externs a0_r.P.Funcs) a0_r.Where a0_r.Long); z10/\z17/\z9/\z9) (fun v14=>KK ((true,(Lt.bN (a0_r.P.Globals.length:Int) 8)),(Lt.Read.mk v14.P 2 v14.Long))))))) else (if (decide ((a1_l.getD 0 default)=[101,120,116,101,114,110]))=true then (aa (α:=Bool) (fun J15=>if z20=true then (if (!true)=true then (J15 true) else (if (!decide ((a1_l.length:Int)=3))=true then (J15 true) else (z10/\J15 z15))) else (if z19=true then (J15 true) else (if (!decide ((a1_l.length:Int)=3))=true then (J15 true) else (z10/\J15 z15)))) (fun v16=>if v16=true then (KK ((true,3),a0_r)) else (z17/\aa (α:=Bool) (fun J17=>if (!(z18.2))=true then (J17 true) else (if (decide (z18.1 < 0))=true then (J17 true) else (J17 (decide (8<z18.1))))) (fun v18=>if v18=true then (KK ((true,3),a0_r)) else ((a0_r.P.Externs.length<=4611686018427387904->aa (α:=Lt.Read) (fun J19=>have z4:=((a0_r.P.Externs.length+z12.length<=4611686018427387904/\(a0_r.P.Externs.length+z12.length)*24<=140737488355328)/\J19 (Lt.Read.mk (Lt.Program.mk a0_r.P.SSA a0_r.P.Classes a0_r.P.Globals (a0_r.P.Externs++z12) a0_r.P.Funcs) a0_r.Where a0_r.Long)); z10/\z4/\z4) (fun v20=>KK ((true,(Lt.bN (a0_r.P.Externs.length:Int) 8)),(Lt.Read.mk v20.P 2 v20.Long))))))))) else (if (decide ((a1_l.getD 0 default)=[102,117,110,99]))=true then (aa (α:=Bool) (fun J21=>if z20=true then (if (!true)=true then (J21 true) else (J21 (!(Lt.bM a1_l)))) else (if z19=true then (J21 true) else (J21 (!(Lt.bM a1_l))))) (fun v22=>if v22=true then (KK ((true,3),a0_r)) else ((a0_r.P.Funcs.length<=4611686018427387904->aa (α:=Lt.Read) (fun J23=>have z5:=((a0_r.P.Funcs.length+z13.length<=4611686018427387904/\(a0_r.P.Funcs.length+z13.length)*104<=140737488355328)/\J23 (Lt.Read.mk (Lt.Program.mk a0_r.P.SSA a0_r.P.Classes a0_r.P.Globals a0_r.P.Externs (a0_r.P.Funcs++z13)) a0_r.Where a0_r.Long)); z10/\z17/\z5/\z5) (fun v24=>KK ((true,(Lt.bN (a0_r.P.Funcs.length:Int) 8)),(Lt.Read.mk v24.P 3 0))))))) else (KK ((false,0),a0_r))))))
def xQ (a0_r:Lt.Read) (a1_l:List (List UInt8)) (KK:((Bool×Int)×Lt.Read)->Prop):Prop:=
 have z26:=!decide (a0_r.Where=4); have z25:=((0:Int)<=2/\2<a1_l.length); have z24:=!decide (a0_r.Where=3); have z19:=(!decide ((a1_l.length:Int)=2)); have z18:=!(Lt.dy [(a1_l.getD 1 default)]); have z11:=((0:Int)<=1/\1<a1_l.length); have z7:=(Lt.al a1_l 2 false).1; have z6:=([(Lt.Block.mk (a1_l.getD 1 default) [] [] (Lt.Term.mk 0 (Lt.Arg.mk 0 ([]:List UInt8) 0) [] 0))]:List Lt.Block); have z5:=([(Lt.Var.mk (a1_l.getD 1 default) (a1_l.getD 2 default))]:List Lt.Var); have z15:=(([]:List Lt.Var).length+z5.length<=4611686018427387904/\(([]:List Lt.Var).length+z5.length)*32<=140737488355328); have z4:=(IntKind.i64.wrap ((a0_r.P.Funcs.length:Int) - 1)); have z2:=(a0_r.P.Funcs.getD z4.toNat default); have z3:=(IntKind.i64.wrap (((z2.Blocks).length:Int) - 1)); have z17:=((0:Int)<=z3/\z3 < (((z2.Blocks).length:Nat):Int)); have z16:=(z2.Blocks).getD z3.toNat default; (a0_r.P.Funcs.length<=4611686018427387904->if (decide (0 < (a0_r.P.Funcs.length:Int)))=true then ((a0_r.P.Funcs.length<=4611686018427387904->((0:Int)<=z4/\z4 < ((a0_r.P.Funcs.length:Nat):Int))/\((0:Int)<=0/\0<a1_l.length)/\if (decide ((a1_l.getD 0 default)=[112,97,114,97,109]))=true then (aa (α:=Bool) (fun J1=>if z24=true then (J1 true) else (J1 (!(Lt.bM a1_l)))) (fun v2=>if v2=true then (KK ((true,3),a0_r)) else (((z2.Params).length<=4611686018427387904->aa (α:=Lt.Read) (fun J3=>have z13:=((z2.Params).length+z5.length<=4611686018427387904/\((z2.Params).length+z5.length)*32<=140737488355328)/\z4.toNat<a0_r.P.Funcs.length/\z4.toNat=z4.toNat/\J3 (Lt.Read.mk (Lt.Program.mk a0_r.P.SSA a0_r.P.Classes a0_r.P.Globals a0_r.P.Externs (a0_r.P.Funcs.set z4.toNat (Lt.Func.mk (z2.Name) (z2.Result) ((z2.Params)++z5) (z2.Vars) (z2.Blocks)))) a0_r.Where a0_r.Long); z11/\z25/\z13/\z13) (fun v4=>KK ((true,(Lt.bN ((z2.Params).length:Int) 6)),v4)))))) else (if (decide ((a1_l.getD 0 default)=[118,97,114]))=true then (aa (α:=Bool) (fun J5=>if z24=true then (if z26=true then (J5 true) else (J5 (!(Lt.bM a1_l)))) else (J5 (!(Lt.bM a1_l)))) (fun v6=>if v6=true then (KK ((true,3),a0_r)) else (((z2.Vars).length<=4611686018427387904->aa (α:=Lt.Read) (fun J7=>have z14:=((z2.Vars).length+z5.length<=4611686018427387904/\((z2.Vars).length+z5.length)*32<=140737488355328)/\z4.toNat<a0_r.P.Funcs.length/\z4.toNat=z4.toNat/\J7 (Lt.Read.mk (Lt.Program.mk a0_r.P.SSA a0_r.P.Classes a0_r.P.Globals a0_r.P.Externs (a0_r.P.Funcs.set z4.toNat (Lt.Func.mk (z2.Name) (z2.Result) (z2.Params) ((z2.Vars)++z5) (z2.Blocks)))) a0_r.Where a0_r.Long); z11/\z25/\z14/\z14) (fun v8=>KK ((true,(Lt.bN ((z2.Vars).length:Int) 1024)),(Lt.Read.mk v8.P 4 v8.Long))))))) else (if (decide ((a1_l.getD 0 default)=[98,108,111,99,107]))=true then (aa (α:=Bool) (fun J9=>if z24=true then (if z26=true then (if (!decide (a0_r.Where=9))=true then (J9 true) else (if z19=true then (J9 true) else (z11/\J9 z18))) else (if z19=true then (J9 true) else (z11/\J9 z18))) else (if z19=true then (J9 true) else (z11/\J9 z18))) (fun v10=>if v10=true then (KK ((true,3),a0_r)) else (((z2.Blocks).length<=4611686018427387904->aa (α:=Lt.Read) (fun J11=>have z12:=((z2.Blocks).length+z6.length<=4611686018427387904/\((z2.Blocks).length+z6.length)*136<=140737488355328)/\z4.toNat<a0_r.P.Funcs.length/\z4.toNat=z4.toNat/\J11 (Lt.Read.mk (Lt.Program.mk a0_r.P.SSA a0_r.P.Classes a0_r.P.Globals a0_r.P.Externs (a0_r.P.Funcs.set z4.toNat (Lt.Func.mk (z2.Name) (z2.Result) (z2.Params) (z2.Vars) ((z2.Blocks)++z6)))) a0_r.Where a0_r.Long); z11/\z12/\z12) (fun v12=>KK ((true,(Lt.bN ((z2.Blocks).length:Int) 256)),(Lt.Read.mk v12.P 5 v12.Long))))))) else (if (decide ((a1_l.getD 0 default)=[112,104,105]))=true then ((Lt.j5 a1_l 2 false)/\aa (α:=Bool) (fun J13=>if (!decide (a0_r.Where=5))=true then (J13 true) else (if (!((Lt.al a1_l 2 false).2))=true then (J13 true) else (if (decide ((z7.length:Int)=0))=true then (J13 true) else (z11/\J13 z18)))) (fun v14=>if v14=true then (KK ((true,3),a0_r)) else (aa (α:=Bool) (fun J15=>(z7.length<=4611686018427387904->if (decide (256 < (z7.length:Int)))=true then (J15 true) else (J15 (decide (1024<=a0_r.Long))))) (fun v16=>if v16=true then (KK ((true,2),a0_r)) else (z11/\ba (α:=Int×Lt.Phi) (fun R17 v18=>have z22:=((z16.Phis).length+([v18.2]:List Lt.Phi).length<=4611686018427387904/\((z16.Phis).length+([v18.2]:List Lt.Phi).length)*40<=140737488355328); have z9:=([(Lt.In.mk ((z7.getD v18.1.toNat default).Name) ((z7.getD v18.1.toNat default).A))]:List Lt.In); have z8:=(Lt.Read.mk (Lt.Program.mk a0_r.P.SSA a0_r.P.Classes a0_r.P.Globals a0_r.P.Externs (a0_r.P.Funcs.set z4.toNat (Lt.Func.mk (z2.Name) (z2.Result) (z2.Params) (z2.Vars) ((z2.Blocks).set z3.toNat (Lt.Block.mk (z16.Name) ((z16.Phis)++([v18.2]:List Lt.Phi)) (z16.Code) (Lt.Term.mk ((z16.End).Kind) ((z16.End).A) ((z16.End).To) ((z16.End).N))))))) a0_r.Where a0_r.Long); (z7.length<=4611686018427387904->if (decide (v18.1 < (z7.length:Int)))=true then (aa (α:=Lt.Phi) (fun J19=>have z21:=(v18.2.Ins.length+z9.length<=4611686018427387904/\(v18.2.Ins.length+z9.length)*48<=140737488355328)/\J19 (Lt.Phi.mk v18.2.Dst (v18.2.Ins++z9)); ((0:Int)<=v18.1/\v18.1.toNat<z7.length)/\((0:Int)<=v18.1/\v18.1.toNat<z7.length)/\z21/\z21) (fun v20=>R17 ((IntKind.i64.wrap (v18.1+1)),v20))) else (((z2.Blocks).length<=4611686018427387904->aa (α:=Lt.Read) (fun J21=>have z1:=(z22/\z17/\z4.toNat<a0_r.P.Funcs.length/\z3.toNat < (z2.Blocks).length/\z4.toNat=z4.toNat/\z3.toNat=z3.toNat/\J21 z8); ((z17/\z1/\z1)/\(z17/\z22/\z17/\z4.toNat<a0_r.P.Funcs.length/\z3.toNat < (z2.Blocks).length/\z4.toNat=z4.toNat/\z3.toNat=z3.toNat/\J21 z8))/\(z17/\(z1/\z1)/\(z1/\(z1/\z1))/\(z1/\z1))/\(z17/\z1/\z1)) (fun v22=>KK ((true,0),(Lt.Read.mk v22.P v22.Where (IntKind.i64.wrap (v22.Long+1))))))))) (0,(Lt.Phi.mk (a1_l.getD 1 default) []))))))) else (KK ((false,0),a0_r))))))) else (((0:Int)<=0/\0<a1_l.length)/\if (decide ((a1_l.getD 0 default)=[112,97,114,97,109]))=true then (aa (α:=Bool) (fun J23=>if z24=true then (J23 true) else (J23 (!(Lt.bM a1_l)))) (fun v24=>if v24=true then (KK ((true,3),a0_r)) else (aa (α:=Unit) (fun J25=>z11/\z25/\(z15/\J25 ())/\(z15/\J25 ())) (fun v26=>KK ((true,(Lt.bN 0 6)),a0_r))))) else (if (decide ((a1_l.getD 0 default)=[118,97,114]))=true then (aa (α:=Bool) (fun J27=>if z24=true then (if z26=true then (J27 true) else (J27 (!(Lt.bM a1_l)))) else (J27 (!(Lt.bM a1_l)))) (fun v28=>if v28=true then (KK ((true,3),a0_r)) else (aa (α:=Unit) (fun J29=>z11/\z25/\(z15/\J29 ())/\(z15/\J29 ())) (fun v30=>KK ((true,(Lt.bN 0 1024)),(Lt.Read.mk a0_r.P 4 a0_r.Long)))))) else (if (decide ((a1_l.getD 0 default)=[98,108,111,99,107]))=true then (aa (α:=Bool) (fun J31=>if z24=true then (if z26=true then (if (!decide (a0_r.Where=9))=true then (J31 true) else (if z19=true then (J31 true) else (z11/\J31 z18))) else (if z19=true then (J31 true) else (z11/\J31 z18))) else (if z19=true then (J31 true) else (z11/\J31 z18))) (fun v32=>if v32=true then (KK ((true,3),a0_r)) else (aa (α:=Unit) (fun J33=>have z23:=((([]:List Lt.Block).length+z6.length<=4611686018427387904/\(([]:List Lt.Block).length+z6.length)*136<=140737488355328)/\J33 ()); z11/\z23/\z23) (fun v34=>KK ((true,(Lt.bN 0 256)),(Lt.Read.mk a0_r.P 5 a0_r.Long)))))) else (if (decide ((a1_l.getD 0 default)=[112,104,105]))=true then ((Lt.j5 a1_l 2 false)/\aa (α:=Bool) (fun J35=>if (!decide (a0_r.Where=5))=true then (J35 true) else (if (!((Lt.al a1_l 2 false).2))=true then (J35 true) else (if (decide ((z7.length:Int)=0))=true then (J35 true) else (z11/\J35 z18)))) (fun v36=>if v36=true then (KK ((true,3),a0_r)) else (aa (α:=Bool) (fun J37=>(z7.length<=4611686018427387904->if (decide (256 < (z7.length:Int)))=true then (J37 true) else (J37 (decide (1024<=a0_r.Long))))) (fun v38=>if v38=true then (KK ((true,2),a0_r)) else (z11/\ba (α:=Int×Lt.Phi) (fun R39 v40=>have z10:=([(Lt.In.mk ((z7.getD v40.1.toNat default).Name) ((z7.getD v40.1.toNat default).A))]:List Lt.In); (z7.length<=4611686018427387904->if (decide (v40.1 < (z7.length:Int)))=true then (aa (α:=Lt.Phi) (fun J41=>have z20:=(v40.2.Ins.length+z10.length<=4611686018427387904/\(v40.2.Ins.length+z10.length)*48<=140737488355328)/\J41 (Lt.Phi.mk v40.2.Dst (v40.2.Ins++z10)); ((0:Int)<=v40.1/\v40.1.toNat<z7.length)/\((0:Int)<=v40.1/\v40.1.toNat<z7.length)/\z20/\z20) (fun v42=>R39 ((IntKind.i64.wrap (v40.1+1)),v42))) else (((False)/\(False))/\(False)/\(False)))) (0,(Lt.Phi.mk (a1_l.getD 1 default) []))))))) else (KK ((false,0),a0_r)))))))
def sQ (a0_r:Lt.Read) (a1_l:List (List UInt8)) (KK:((Bool×Int)×Lt.Read)->Prop):Prop:=
 have z25:=((0:Int)<=3/\3<a1_l.length); have z24:=(decide ((a1_l.length:Int)=2)); have z22:=(a1_l.drop 2).take (a1_l.length - 2); have z21:=decide ((a1_l.getD 0 default)=[97,116]); have z20:=Lt.aD (a1_l.getD 3 default); have z19:=Lt.aT ((a1_l.drop 1).take (2 - 1)) false; have z18:=((0:Int)<=2/\2<a1_l.length); have z17:=decide ((a1_l.getD 0 default)=[111,98,106]); have z16:=decide ((a1_l.getD 0 default)=[114,101,116]); have z15:=(a1_l.drop 1).take (a1_l.length - 1); have z14:=decide ((a1_l.getD 0 default)=[106,117,109,112]); have z13:=decide ((a1_l.getD 0 default)=[98,114,97,110,99,104]); have z12:=((0:Int)<=0/\0<a1_l.length); have z11:=((0:Int)<=1/\1<a1_l.length); have z10:=([(Lt.Virt.mk (a1_l.getD 1 default) ((Lt.aT z22 true).1))]:List Lt.Virt); have z9:=([(Lt.Frame.mk (a1_l.getD 1 default) (a1_l.getD 2 default) (z20.1) ((Lt.al a1_l 4 true).1))]:List Lt.Frame); have z6:=(IntKind.i64.wrap ((a0_r.P.Funcs.length:Int) - 1)); have z2:=(a0_r.P.Funcs.getD z6.toNat default); have z7:=(IntKind.i64.wrap (((z2.Blocks).length:Int) - 1)); have z1:=((z2.Blocks).getD z7.toNat default); have z23:=Lt.Term.mk ((z1.End).Kind) ((z1.End).A) ((z1.End).To) ((z1.End).N); have z8:=(IntKind.i64.wrap (((z1.Code).length:Int) - 1)); have z3:=((z1.Code).getD z8.toNat default); z12/\aa (α:=Bool) (fun J1=>if z21=true then (J1 z21) else (if z17=true then (J1 z17) else (if z14=true then (J1 z14) else (if z13=true then (J1 z13) else (if z16=true then (J1 z16) else (J1 (decide ((a1_l.getD 0 default)=[116,114,97,112])))))))) (fun v2=>if v2=true then (aa (α:=Bool) (fun J3=>if (decide (5<=a0_r.Where))=true then (J3 (!(decide (a0_r.Where<=8)))) else (J3 (!false))) (fun v4=>if v4=true then (KK ((true,3),a0_r)) else ((a0_r.P.Funcs.length<=4611686018427387904->((0:Int)<=z6/\z6 < ((a0_r.P.Funcs.length:Nat):Int))/\((z2.Blocks).length<=4611686018427387904->((0:Int)<=z7/\z7 < (((z2.Blocks).length:Nat):Int))/\z12/\if z21=true then ((Lt.j5 a1_l 4 true)/\aa (α:=Bool) (fun J5=>if (!decide (a0_r.Where=7))=true then (J5 true) else (if (!((Lt.al a1_l 4 true).2))=true then (J5 true) else (z11/\z18/\J5 (!(Lt.dy [(a1_l.getD 1 default),(a1_l.getD 2 default)]))))) (fun v6=>if v6=true then (KK ((true,3),a0_r)) else (z25/\aa (α:=Bool) (fun J7=>if (!(z20.2))=true then (J7 true) else (if (decide (z20.1 < 0))=true then (J7 true) else (J7 (decide (1024<z20.1))))) (fun v8=>if v8=true then (KK ((true,3),a0_r)) else (((z1.Code).length<=4611686018427387904->((0:Int)<=z8/\z8 < (((z1.Code).length:Nat):Int))/\aa (α:=Bool) (fun J9=>(((Lt.al a1_l 4 true).1).length<=4611686018427387904->if (decide (16 < (((Lt.al a1_l 4 true).1).length:Int)))=true then (J9 true) else (J9 (decide (16<=((z3.Frames).length:Int)))))) (fun v10=>if v10=true then (KK ((true,2),a0_r)) else (aa (α:=Lt.Read) (fun J11=>have z4:=(((z3.Frames).length+z9.length<=4611686018427387904/\((z3.Frames).length+z9.length)*64<=140737488355328)/\z6.toNat<a0_r.P.Funcs.length/\z7.toNat < (z2.Blocks).length/\z8.toNat < (z1.Code).length/\z6.toNat=z6.toNat/\z7.toNat=z7.toNat/\z8.toNat=z8.toNat/\J11 (Lt.Read.mk (Lt.Program.mk a0_r.P.SSA a0_r.P.Classes a0_r.P.Globals a0_r.P.Externs (a0_r.P.Funcs.set z6.toNat (Lt.Func.mk (z2.Name) (z2.Result) (z2.Params) (z2.Vars) ((z2.Blocks).set z7.toNat (Lt.Block.mk (z1.Name) (z1.Phis) ((z1.Code).set z8.toNat (Lt.Instr.mk (z3.Op) (z3.Dst) (z3.Name) (z3.Args) ((z3.Frames)++z9) (z3.Objs))) z23))))) a0_r.Where a0_r.Long)); z11/\z18/\z4/\z4) (fun v12=>KK ((true,0),v12)))))))))) else (if z17=true then (aa (α:=Bool) (fun J13=>if (decide (a0_r.Where < 7))=true then (J13 true) else (if (decide ((a1_l.length:Int) < 2))=true then (J13 true) else (if (decide (10 < (a1_l.length:Int)))=true then (J13 true) else (z11/\J13 (!(Lt.dy [(a1_l.getD 1 default)])))))) (fun v14=>if v14=true then (KK ((true,3),a0_r)) else ((0:Int)<=2/\(2<=a1_l.length/\a1_l.length<=a1_l.length)/\(Lt.bU z22 true)/\if (!((Lt.aT z22 true).2))=true then (KK ((true,3),a0_r)) else (((z1.Code).length<=4611686018427387904->((0:Int)<=z8/\z8 < (((z1.Code).length:Nat):Int))/\((z3.Objs).length<=4611686018427387904->aa (α:=Lt.Read) (fun J15=>have z5:=(((z3.Objs).length+z10.length<=4611686018427387904/\((z3.Objs).length+z10.length)*40<=140737488355328)/\z6.toNat<a0_r.P.Funcs.length/\z7.toNat < (z2.Blocks).length/\z8.toNat < (z1.Code).length/\z6.toNat=z6.toNat/\z7.toNat=z7.toNat/\z8.toNat=z8.toNat/\J15 (Lt.Read.mk (Lt.Program.mk a0_r.P.SSA a0_r.P.Classes a0_r.P.Globals a0_r.P.Externs (a0_r.P.Funcs.set z6.toNat (Lt.Func.mk (z2.Name) (z2.Result) (z2.Params) (z2.Vars) ((z2.Blocks).set z7.toNat (Lt.Block.mk (z1.Name) (z1.Phis) ((z1.Code).set z8.toNat (Lt.Instr.mk (z3.Op) (z3.Dst) (z3.Name) (z3.Args) (z3.Frames) ((z3.Objs)++z10))) z23))))) a0_r.Where a0_r.Long)); z11/\z5/\z5) (fun v16=>KK ((true,(Lt.bN ((z3.Objs).length:Int) 99)),(Lt.Read.mk v16.P 8 v16.Long))))))))) else (aa (α:=Bool×Int×Lt.Read) (fun J17=>aa (α:=Bool) (fun J19=>z12/\if z14=true then (if z24=true then (z11/\J19 (Lt.dy [(a1_l.getD 1 default)])) else (J19 false)) else (J19 false)) (fun v20=>if v20=true then (z11/\z6.toNat<a0_r.P.Funcs.length/\z7.toNat < (z2.Blocks).length/\J17 (true,0,(Lt.Read.mk (Lt.Program.mk a0_r.P.SSA a0_r.P.Classes a0_r.P.Globals a0_r.P.Externs (a0_r.P.Funcs.set z6.toNat (Lt.Func.mk (z2.Name) (z2.Result) (z2.Params) (z2.Vars) ((z2.Blocks).set z7.toNat (Lt.Block.mk (z1.Name) (z1.Phis) (z1.Code) (Lt.Term.mk 1 (Lt.Arg.mk 0 ([]:List UInt8) 0) [(a1_l.getD 1 default)] 0)))))) 9 a0_r.Long))) else (aa (α:=Unit) (fun J21=>aa (α:=Bool) (fun J23=>z12/\if z13=true then (if (decide ((a1_l.length:Int)=4))=true then (z18/\z25/\J23 (Lt.dy [(a1_l.getD 2 default),(a1_l.getD 3 default)])) else (J23 false)) else (J23 false)) (fun v24=>if v24=true then ((0:Int)<=1/\(0:Int)<=2/\(1<=2/\2<=a1_l.length)/\(Lt.bU ((a1_l.drop 1).take (2 - 1)) false)/\if (z19.2)=true then (((0:Int)<=0/\0 < (z19.1).length)/\z18/\z25/\z6.toNat<a0_r.P.Funcs.length/\z7.toNat < (z2.Blocks).length/\J17 (true,0,(Lt.Read.mk (Lt.Program.mk a0_r.P.SSA a0_r.P.Classes a0_r.P.Globals a0_r.P.Externs (a0_r.P.Funcs.set z6.toNat (Lt.Func.mk (z2.Name) (z2.Result) (z2.Params) (z2.Vars) ((z2.Blocks).set z7.toNat (Lt.Block.mk (z1.Name) (z1.Phis) (z1.Code) (Lt.Term.mk 2 ((z19.1).getD 0 default) [(a1_l.getD 2 default),(a1_l.getD 3 default)] 0)))))) 9 a0_r.Long))) else (J21 ())) else (J21 ()))) (fun v22=>aa (α:=Unit) (fun J25=>aa (α:=Bool) (fun J27=>z12/\if z16=true then (J27 z24) else (J27 false)) (fun v28=>if v28=true then ((0:Int)<=1/\(1<=a1_l.length/\a1_l.length<=a1_l.length)/\(Lt.bU z15 false)/\if ((Lt.aT z15 false).2)=true then (((0:Int)<=0/\0 < ((Lt.aT z15 false).1).length)/\z6.toNat<a0_r.P.Funcs.length/\z7.toNat < (z2.Blocks).length/\J17 (true,0,(Lt.Read.mk (Lt.Program.mk a0_r.P.SSA a0_r.P.Classes a0_r.P.Globals a0_r.P.Externs (a0_r.P.Funcs.set z6.toNat (Lt.Func.mk (z2.Name) (z2.Result) (z2.Params) (z2.Vars) ((z2.Blocks).set z7.toNat (Lt.Block.mk (z1.Name) (z1.Phis) (z1.Code) (Lt.Term.mk 3 (((Lt.aT z15 false).1).getD 0 default) [] 0)))))) 9 a0_r.Long))) else (J25 ())) else (J25 ()))) (fun v26=>aa (α:=Unit) (fun J29=>aa (α:=Bool) (fun J31=>z12/\if (decide ((a1_l.getD 0 default)=[116,114,97,112]))=true then (J31 z24) else (J31 false)) (fun v32=>if v32=true then (z11/\if ((Lt.aD (a1_l.getD 1 default)).2)=true then (z6.toNat<a0_r.P.Funcs.length/\z7.toNat < (z2.Blocks).length/\J17 (true,0,(Lt.Read.mk (Lt.Program.mk a0_r.P.SSA a0_r.P.Classes a0_r.P.Globals a0_r.P.Externs (a0_r.P.Funcs.set z6.toNat (Lt.Func.mk (z2.Name) (z2.Result) (z2.Params) (z2.Vars) ((z2.Blocks).set z7.toNat (Lt.Block.mk (z1.Name) (z1.Phis) (z1.Code) (Lt.Term.mk 4 (Lt.Arg.mk 0 ([]:List UInt8) 0) [] ((Lt.aD (a1_l.getD 1 default)).1))))))) 9 a0_r.Long))) else (J29 ())) else (J29 ()))) (fun v30=>J17 (true,3,(Lt.Read.mk a0_r.P 9 a0_r.Long)))))))) (fun v18=>KK ((v18.1,v18.2.1),v18.2.2))))))))) else (KK ((false,0),a0_r)))
def wa (a0_r:Lt.Read) (a1_l:List (List UInt8)) (KK:((Int)×Lt.Read)->Prop):Prop:=
 have z5:=(IntKind.i64.wrap ((a0_r.P.Funcs.length:Int) - 1)); have z2:=(a0_r.P.Funcs.getD z5.toNat default); have z3:=(IntKind.i64.wrap (((z2.Blocks).length:Int) - 1)); have z9:=((0:Int)<=z3/\z3 < (((z2.Blocks).length:Nat):Int)); have z8:=(z2.Blocks).getD z3.toNat default; aa (α:=List (List UInt8)×Lt.Instr) (fun J1=>aa (α:=Bool) (fun J3=>(a1_l.length<=4611686018427387904->if (decide (2 < (a1_l.length:Int)))=true then (((0:Int)<=1/\1<a1_l.length)/\J3 (decide ((a1_l.getD 1 default)=[61]))) else (J3 false))) (fun v4=>if v4=true then (((0:Int)<=0/\0<a1_l.length)/\if (!(Lt.dy [(a1_l.getD 0 default)]))=true then (KK (3,a0_r)) else (((0:Int)<=0/\0<a1_l.length)/\(0:Int)<=2/\(2<=a1_l.length/\a1_l.length<=a1_l.length)/\J1 (((a1_l.drop 2).take (a1_l.length - 2)),(Lt.Instr.mk 0 (a1_l.getD 0 default) ([]:List UInt8) [] [] [])))) else (J1 (a1_l,(Lt.Instr.mk 0 ([]:List UInt8) ([]:List UInt8) [] [] []))))) (fun v2=>have z14:=(v2.1.drop 3).take (v2.1.length - 3); have z10:=([(v2.1.getD 1 default)]:List (List UInt8)); have z6:=Lt.sOp (v2.1.getD 0 default); have z13:=(!(((Lt.rOf (z6.1)).1).Dst==(!decide (v2.2.Dst=([]:List UInt8))))); ((0:Int)<=0/\0<v2.1.length)/\aa (α:=Bool) (fun J5=>if (decide (5<=a0_r.Where))=true then (if (!(decide (a0_r.Where<=8)))=true then (J5 true) else (if (!(z6.2))=true then (J5 true) else (J5 z13))) else (if (!false)=true then (J5 true) else (if (!(z6.2))=true then (J5 true) else (J5 z13)))) (fun v6=>if v6=true then (KK (3,a0_r)) else (aa (α:=List (List UInt8)×Lt.Instr) (fun J7=>aa (α:=Bool) (fun J9=>if (decide (z6.1=26))=true then (J9 true) else (J9 (decide (z6.1=27)))) (fun v10=>if v10=true then ((v2.1.length<=4611686018427387904->if (decide ((v2.1.length:Int) < 3))=true then (KK (3,a0_r)) else (((0:Int)<=2/\2<v2.1.length)/\((0:Int)<=1/\1<v2.1.length)/\(([]:List (List UInt8)).length+z10.length<=4611686018427387904/\(([]:List (List UInt8)).length+z10.length)*16<=140737488355328)/\(0:Int)<=3/\(3<=v2.1.length/\v2.1.length<=v2.1.length)/\(z10.length+z14.length<=4611686018427387904/\(z10.length+z14.length)*16<=140737488355328)/\J7 ((z10++z14),(Lt.Instr.mk (z6.1) v2.2.Dst (v2.1.getD 2 default) [] [] []))))) else (if (((Lt.rOf (z6.1)).1).Named)=true then ((v2.1.length<=4611686018427387904->if (decide ((v2.1.length:Int) < 2))=true then (KK (3,a0_r)) else (((0:Int)<=1/\1<v2.1.length)/\(0:Int)<=2/\(2<=v2.1.length/\v2.1.length<=v2.1.length)/\J7 (((v2.1.drop 2).take (v2.1.length - 2)),(Lt.Instr.mk (z6.1) v2.2.Dst (v2.1.getD 1 default) [] [] []))))) else ((0:Int)<=1/\(1<=v2.1.length/\v2.1.length<=v2.1.length)/\J7 (((v2.1.drop 1).take (v2.1.length - 1)),(Lt.Instr.mk (z6.1) v2.2.Dst v2.2.Name [] [] [])))))) (fun v8=>have z11:=(((Lt.aT v8.1 false).1).length:Int); have z7:=([(Lt.Instr.mk v8.2.Op v8.2.Dst v8.2.Name ((Lt.aT v8.1 false).1) [] [])]:List Lt.Instr); have z12:=(z8.Code).length+z7.length<=4611686018427387904/\((z8.Code).length+z7.length)*112<=140737488355328; have z4:=(Lt.Read.mk (Lt.Program.mk a0_r.P.SSA a0_r.P.Classes a0_r.P.Globals a0_r.P.Externs (a0_r.P.Funcs.set z5.toNat (Lt.Func.mk (z2.Name) (z2.Result) (z2.Params) (z2.Vars) ((z2.Blocks).set z3.toNat (Lt.Block.mk (z8.Name) (z8.Phis) ((z8.Code)++z7) (Lt.Term.mk ((z8.End).Kind) ((z8.End).A) ((z8.End).To) ((z8.End).N))))))) a0_r.Where (IntKind.i64.wrap (a0_r.Long+1))); (Lt.bU v8.1 false)/\aa (α:=Bool) (fun J11=>if (!((Lt.aT v8.1 false).2))=true then (J11 true) else (if (((Lt.rOf (z6.1)).1).Named)=true then (if (!(Lt.dy [v8.2.Name]))=true then (J11 true) else (if (decide (z11 < ((Lt.rOf (z6.1)).1).Least))=true then (J11 true) else (J11 (decide (((Lt.rOf (z6.1)).1).Most<z11))))) else (if (decide (z11 < ((Lt.rOf (z6.1)).1).Least))=true then (J11 true) else (J11 (decide (((Lt.rOf (z6.1)).1).Most<z11)))))) (fun v12=>if v12=true then (KK (3,a0_r)) else (if (decide (1024<=a0_r.Long))=true then (KK (2,a0_r)) else ((a0_r.P.Funcs.length<=4611686018427387904->((0:Int)<=z5/\z5 < ((a0_r.P.Funcs.length:Nat):Int))/\((z2.Blocks).length<=4611686018427387904->aa (α:=Lt.Read) (fun J13=>have z1:=(z12/\z9/\z5.toNat<a0_r.P.Funcs.length/\z3.toNat < (z2.Blocks).length/\z5.toNat=z5.toNat/\z3.toNat=z3.toNat/\J13 z4); ((z9/\z1/\z1)/\(z9/\z12/\z9/\z5.toNat<a0_r.P.Funcs.length/\z3.toNat < (z2.Blocks).length/\z5.toNat=z5.toNat/\z3.toNat=z3.toNat/\J13 z4))/\(z9/\(z1/\z1)/\(z1/\(z1/\z1))/\(z1/\z1))/\(z9/\z1/\z1)) (fun v14=>aa (α:=Lt.Read) (fun J15=>aa (α:=Bool) (fun J17=>if (decide (z6.1=31))=true then (J17 true) else (J17 (decide (z6.1=34)))) (fun v18=>if v18=true then (J15 (Lt.Read.mk v14.P 7 v14.Long)) else (J15 (Lt.Read.mk v14.P 6 v14.Long)))) (fun v16=>KK (0,v16))))))))))))
def xn (a0_r:Lt.Read) (a1_l:List (List UInt8)) (a2_first:Bool) (KK:((Int)×Lt.Read)->Prop):Prop:=
 have z1:=Lt.Read.mk (((Lt.bD a0_r a1_l).2).P) (((Lt.bD a0_r a1_l).2).Where) (((Lt.bD a0_r a1_l).2).Long); aa (α:=Bool) (fun J1=>(a1_l.length<=4611686018427387904->if (decide (2 < (a1_l.length:Int)))=true then (((0:Int)<=1/\1<a1_l.length)/\J1 (decide ((a1_l.getD 1 default)=[61]))) else (J1 false))) (fun v2=>if v2=true then ((Lt.dj a0_r a1_l)/\KK (((Lt.bt a0_r a1_l).1),(Lt.Read.mk (((Lt.bt a0_r a1_l).2).P) (((Lt.bt a0_r a1_l).2).Where) (((Lt.bt a0_r a1_l).2).Long)))) else (((0:Int)<=0/\0<a1_l.length)/\if (decide ((a1_l.getD 0 default)=[115,115,97]))=true then (aa (α:=Bool) (fun J3=>if (!a2_first)=true then (J3 true) else (J3 (!decide ((a1_l.length:Int)=1)))) (fun v4=>if v4=true then (KK (3,a0_r)) else (KK (0,(Lt.Read.mk (Lt.Program.mk true a0_r.P.Classes a0_r.P.Globals a0_r.P.Externs a0_r.P.Funcs) a0_r.Where a0_r.Long))))) else ((Lt.dj a0_r a1_l)/\aa (α:=Bool×Int×Lt.Read) (fun J5=>if (!((Lt.bD a0_r a1_l).1.1))=true then ((Lt.dj z1 a1_l)/\J5 ((Lt.bH z1 a1_l).1.1,(Lt.bH z1 a1_l).1.2,(Lt.Read.mk (((Lt.bH z1 a1_l).2).P) (((Lt.bH z1 a1_l).2).Where) (((Lt.bH z1 a1_l).2).Long)))) else (J5 ((Lt.bD a0_r a1_l).1.1,(Lt.bD a0_r a1_l).1.2,z1))) (fun v6=>have z2:=Lt.bf v6.2.2 a1_l; aa (α:=Bool×Int×Lt.Read) (fun J7=>if (!v6.1)=true then ((Lt.dj v6.2.2 a1_l)/\J7 (z2.1.1,z2.1.2,(Lt.Read.mk ((z2.2).P) ((z2.2).Where) ((z2.2).Long)))) else (J7 (v6.1,v6.2.1,v6.2.2))) (fun v8=>aa (α:=Int×Lt.Read) (fun J9=>if (!v8.1)=true then ((Lt.dj v8.2.2 a1_l)/\J9 ((Lt.bt v8.2.2 a1_l).1,(Lt.Read.mk (((Lt.bt v8.2.2 a1_l).2).P) (((Lt.bt v8.2.2 a1_l).2).Where) (((Lt.bt v8.2.2 a1_l).2).Long)))) else (J9 (v8.2.1,v8.2.2))) (fun v10=>KK (v10.1,v10.2)))))))
def xc (a0_s:List UInt8) (KK:(List Lt.RLine×Int×Int)->Prop):Prop:=
 (a0_s.length<=4611686018427387904->if (decide (4194304 < (a0_s.length:Int)))=true then (KK ([],0,2)) else (ba (α:=List Lt.RLine×List (List UInt8)×List UInt8×Int×Bool×Bool×Int) (fun R1 v2=>have z3:=([(a0_s.getD v2.2.2.2.2.2.2.toNat 0)]:List UInt8); have z2:=(((a0_s.getD v2.2.2.2.2.2.2.toNat 0).toNat:Nat):Int); have z1:=((0:Int)<=v2.2.2.2.2.2.2/\v2.2.2.2.2.2.2.toNat<a0_s.length); (a0_s.length<=4611686018427387904->if (decide (v2.2.2.2.2.2.2<=(a0_s.length:Int)))=true then (aa (α:=List Lt.RLine×List (List UInt8)×List UInt8×Int×Bool×Bool) (fun J3=>aa (α:=Bool) (fun J5=>(a0_s.length<=4611686018427387904->if (decide (v2.2.2.2.2.2.2=(a0_s.length:Int)))=true then (J5 true) else (z1/\J5 (decide (z2=(((10:UInt8).toNat:Nat):Int)))))) (fun v6=>aa (α:=Bool) (fun J7=>aa (α:=Bool) (fun J9=>if (!v6)=true then (z1/\J9 (decide (z2=(((59:UInt8).toNat:Nat):Int)))) else (J9 false)) (fun v10=>if v10=true then (J7 true) else (J7 v2.2.2.2.2.1))) (fun v8=>aa (α:=List (List UInt8)×List UInt8×Bool) (fun J11=>aa (α:=Bool) (fun J13=>if v6=true then (J13 true) else (if v8=true then (J13 true) else (z1/\if (decide (z2=(((32:UInt8).toNat:Nat):Int)))=true then (J13 true) else (z1/\J13 (decide (z2=(((9:UInt8).toNat:Nat):Int))))))) (fun v14=>if v14=true then (aa (α:=List (List UInt8)) (fun J15=>(v2.2.2.1.length<=4611686018427387904->if (decide (0 < (v2.2.2.1.length:Int)))=true then ((v2.2.1.length+([v2.2.2.1]:List (List UInt8)).length<=4611686018427387904/\(v2.2.1.length+([v2.2.2.1]:List (List UInt8)).length)*16<=140737488355328)/\J15 (v2.2.1++([v2.2.2.1]:List (List UInt8)))) else (J15 v2.2.1))) (fun v16=>J11 (v16,[],v2.2.2.2.2.2.1))) else (aa (α:=Bool) (fun J17=>if v2.2.2.2.2.2.1=true then (J17 true) else (z1/\if (decide (z2 < (((33:UInt8).toNat:Nat):Int)))=true then (J17 true) else (z1/\J17 (decide ((((126:UInt8).toNat:Nat):Int)<z2))))) (fun v18=>z1/\(v2.2.2.1.length+z3.length<=4611686018427387904/\(v2.2.2.1.length+z3.length)*1<=140737488355328)/\J11 (v2.2.1,(v2.2.2.1++z3),v18))))) (fun v12=>have z4:=([(Lt.RLine.mk v2.2.2.2.1 v12.1)]:List Lt.RLine); if v6=true then (if v12.2.2=true then (KK ([],v2.2.2.2.1,3)) else (aa (α:=List Lt.RLine) (fun J19=>(v12.1.length<=4611686018427387904->if (decide (0 < (v12.1.length:Int)))=true then ((v2.1.length+z4.length<=4611686018427387904/\(v2.1.length+z4.length)*32<=140737488355328)/\J19 (v2.1++z4)) else (J19 v2.1))) (fun v20=>J3 (v20,[],v12.2.1,(IntKind.i64.wrap (v2.2.2.2.1+1)),false,v12.2.2)))) else (J3 (v2.1,v12.1,v12.2.1,v2.2.2.2.1,v8,v12.2.2)))))) (fun v4=>R1 (v4.1,v4.2.1,v4.2.2.1,v4.2.2.2.1,v4.2.2.2.2.1,v4.2.2.2.2.2,(IntKind.i64.wrap (v2.2.2.2.2.2.2+1))))) else (KK (v2.1,0,0)))) ([],[],[],1,false,false,0)))
def wb (a0_s:List UInt8) (KK:(Lt.Program×Int×Int)->Prop):Prop:=
 have z2:=Lt.Program.mk false [] [] [] []; if (!decide ((Lt.bV a0_s).2.2=0))=true then (KK (z2,(Lt.bV a0_s).2.1,(Lt.bV a0_s).2.2)) else (ba (α:=Int×Lt.Read) (fun R1 v2=>have z3:=((Lt.bV a0_s).1).getD v2.1.toNat default; have z1:=Lt.aO v2.2 (z3.Words) (decide (v2.1=0)); (((Lt.bV a0_s).1).length<=4611686018427387904->if (decide (v2.1 < (((Lt.bV a0_s).1).length:Int)))=true then (((0:Int)<=v2.1/\v2.1.toNat < ((Lt.bV a0_s).1).length)/\(Lt.wV v2.2 (z3.Words) (decide (v2.1=0)))/\if (!decide (z1.1=0))=true then (((0:Int)<=v2.1/\v2.1.toNat < ((Lt.bV a0_s).1).length)/\KK (z2,z3.N,z1.1)) else (R1 ((IntKind.i64.wrap (v2.1+1)),(Lt.Read.mk ((z1.2).P) ((z1.2).Where) ((z1.2).Long))))) else (aa (α:=Bool) (fun J3=>if (decide (v2.2.Where<=2))=true then (J3 (!true)) else (J3 (!(decide (v2.2.Where=9))))) (fun v4=>if v4=true then (KK (z2,0,3)) else (KK (v2.2.P,0,0)))))) (0,(Lt.Read.mk z2 0 0)))
end Go.Am
end

section
namespace Go.Am
open Go
def Uf (a0_op:Int) (KK:(Lt.Form×Bool)->Prop):Prop:=
 aa (α:=Bool) (fun J1=>if (decide (1<=a0_op))=true then (J1 (decide (a0_op<=21))) else (J1 false)) (fun v2=>if v2=true then (KK ((Lt.Form.mk (Lt.nth (32::97::100::100::32::115::117::98::32::109::117::108::32::100::105::118::32::114::101::109::32::97::110::100::32::111::114::32::120::111::114::32::115::104::108::32::115::104::114::32::101::113::32::110::101::32::108::116::32::108::101::32::102::97::100::100::32::102::115::117::98::32::102::109::117::108::32::102::100::105::118::32::102::101::113::32::102::108::116::32::102::108::101::32::([]:List UInt8)) a0_op) true false 2 2),true)) else (aa (α:=Bool) (fun J3=>if (decide (22<=a0_op))=true then (J3 (decide (a0_op<=24))) else (J3 false)) (fun v4=>if v4=true then (KK ((Lt.Form.mk (Lt.nth [32,105,116,111,102,32,102,116,111,105,32,109,111,118,32] (IntKind.i64.wrap (a0_op - 21))) true false 1 1),true)) else (if (decide (a0_op=25))=true then (KK ((Lt.Form.mk [110,101,119] true true 0 8),true)) else (if (decide (a0_op=26))=true then (KK ((Lt.Form.mk [108,111,97,100] true true 1 1),true)) else (if (decide (a0_op=27))=true then (KK ((Lt.Form.mk [115,116,111,114,101] false true 2 2),true)) else (if (decide (a0_op=28))=true then (KK ((Lt.Form.mk [115,97,109,101] true false 2 2),true)) else (if (decide (a0_op=29))=true then (KK ((Lt.Form.mk [103,108,111,97,100] true true 0 0),true)) else (if (decide (a0_op=30))=true then (KK ((Lt.Form.mk [103,115,116,111,114,101] false true 1 1),true)) else (if (decide (a0_op=31))=true then (KK ((Lt.Form.mk [99,97,108,108] true true 0 8),true)) else (if (decide (a0_op=32))=true then (KK ((Lt.Form.mk [101,120,116] true true 0 8),true)) else (if (decide (a0_op=33))=true then (KK ((Lt.Form.mk [111,117,116] false false 1 1),true)) else (if (decide (a0_op=34))=true then (KK ((Lt.Form.mk [103,117,97,114,100] false false 0 0),true)) else (KK ((Lt.Form.mk ([]:List UInt8) false false 0 0),false)))))))))))))))
def J0 (a0_op:Int) (KK:(Lt.RForm×Bool)->Prop):Prop:=
 have z1:=gw.getD a0_op.toNat default; have z4:=Lt.RForm.mk z1 false (decide (a0_op<=32)) 0 0; have z3:=Lt.RForm.mk z1 (!decide (a0_op=34)) true 0 0; have z2:=Lt.RForm.mk z1 false true 0 0; aa (α:=Bool) (fun J1=>if (decide (a0_op < 1))=true then (J1 true) else (J1 (decide (34<a0_op)))) (fun v2=>if v2=true then (KK ((Lt.RForm.mk ([]:List UInt8) false false 0 0),false)) else (aa (α:=Lt.RForm) (fun J3=>((0:Int)<=a0_op/\a0_op < ((35:Nat):Int))/\a0_op.toNat<gw.length/\if (!decide (a0_op=27))=true then (if (!decide (a0_op=30))=true then (if (!decide (a0_op=33))=true then (if (decide (a0_op=25))=true then (J3 z3) else (if (decide (a0_op=26))=true then (J3 z3) else (if (decide (a0_op=27))=true then (J3 z3) else (if (decide (29<=a0_op))=true then (J3 (Lt.RForm.mk z1 (!decide (a0_op=34)) (decide (a0_op<=32)) 0 0)) else (J3 (Lt.RForm.mk z1 (!decide (a0_op=34)) false 0 0)))))) else (if (decide (a0_op=25))=true then (J3 z2) else (if (decide (a0_op=26))=true then (J3 z2) else (if (decide (a0_op=27))=true then (J3 z2) else (if (decide (29<=a0_op))=true then (J3 z4) else (J3 (Lt.RForm.mk z1 false false 0 0))))))) else (if (decide (a0_op=25))=true then (J3 z2) else (if (decide (a0_op=26))=true then (J3 z2) else (if (decide (a0_op=27))=true then (J3 z2) else (if (decide (29<=a0_op))=true then (J3 z4) else (J3 (Lt.RForm.mk z1 false false 0 0))))))) else (if (decide (a0_op=25))=true then (J3 z2) else (if (decide (a0_op=26))=true then (J3 z2) else (if (decide (a0_op=27))=true then (J3 z2) else (if (decide (29<=a0_op))=true then (J3 z4) else (J3 (Lt.RForm.mk z1 false false 0 0))))))) (fun v4=>aa (α:=Lt.RForm) (fun J5=>aa (α:=Bool) (fun J7=>if (decide (a0_op=22))=true then (J7 (decide (a0_op=22))) else (if (decide (a0_op=23))=true then (J7 (decide (a0_op=23))) else (if (decide (a0_op=24))=true then (J7 (decide (a0_op=24))) else (if (decide (a0_op=26))=true then (J7 (decide (a0_op=26))) else (if (decide (a0_op=30))=true then (J7 (decide (a0_op=30))) else (J7 (decide (a0_op=33)))))))) (fun v8=>if v8=true then (J5 (Lt.RForm.mk v4.Word v4.Dst v4.Named 1 1)) else (aa (α:=Bool) (fun J9=>if (decide (a0_op=25))=true then (J9 (decide (a0_op=25))) else (if (decide (a0_op=31))=true then (J9 (decide (a0_op=31))) else (J9 (decide (a0_op=32))))) (fun v10=>if v10=true then (J5 (Lt.RForm.mk v4.Word v4.Dst v4.Named v4.Least 8)) else (aa (α:=Bool) (fun J11=>if (decide (a0_op=29))=true then (J11 (decide (a0_op=29))) else (J11 (decide (a0_op=34)))) (fun v12=>if v12=true then (J5 (Lt.RForm.mk v4.Word v4.Dst v4.Named v4.Least 0)) else (J5 (Lt.RForm.mk v4.Word v4.Dst v4.Named 2 2)))))))) (fun v6=>KK (v6,true)))))
def Iw (a0_a:Lt.Program) (a1_b:Lt.Program) (KK:Bool->Prop):Prop:=
 aa (α:=Bool) (fun J1=>if (!(a0_a.SSA==a1_b.SSA))=true then (J1 true) else (if (!decide ((a0_a.Classes.length:Int)=(a1_b.Classes.length:Int)))=true then (J1 true) else (if (!(Lt.fy a0_a.Globals a1_b.Globals))=true then (J1 true) else (if (!decide ((a0_a.Externs.length:Int)=(a1_b.Externs.length:Int)))=true then (J1 true) else (J1 (!decide ((a0_a.Funcs.length:Int)=(a1_b.Funcs.length:Int)))))))) (fun v2=>if v2=true then (KK false) else (ba (α:=Int) (fun R3 v4=>(a0_a.Classes.length<=4611686018427387904->if (decide (v4 < (a0_a.Classes.length:Int)))=true then (aa (α:=Bool) (fun J5=>((0:Int)<=v4/\v4.toNat<a0_a.Classes.length)/\((0:Int)<=v4/\v4.toNat<a1_b.Classes.length)/\if (!decide ((a0_a.Classes.getD v4.toNat default).Name=(a1_b.Classes.getD v4.toNat default).Name))=true then (J5 true) else (((0:Int)<=v4/\v4.toNat<a0_a.Classes.length)/\((0:Int)<=v4/\v4.toNat<a1_b.Classes.length)/\J5 (!(Lt.fy ((a0_a.Classes.getD v4.toNat default).Fields) ((a1_b.Classes.getD v4.toNat default).Fields))))) (fun v6=>if v6=true then (KK false) else (R3 (IntKind.i64.wrap (v4+1))))) else (ba (α:=Int) (fun R7 v8=>(a0_a.Externs.length<=4611686018427387904->if (decide (v8 < (a0_a.Externs.length:Int)))=true then (((0:Int)<=v8/\v8.toNat<a0_a.Externs.length)/\((0:Int)<=v8/\v8.toNat<a1_b.Externs.length)/\if (!(decide ((a0_a.Externs.getD v8.toNat default).Name=(a1_b.Externs.getD v8.toNat default).Name)&&decide ((a0_a.Externs.getD v8.toNat default).N=(a1_b.Externs.getD v8.toNat default).N)))=true then (KK false) else (R7 (IntKind.i64.wrap (v8+1)))) else (ba (α:=Int) (fun R9 v10=>(a0_a.Funcs.length<=4611686018427387904->if (decide (v10 < (a0_a.Funcs.length:Int)))=true then (((0:Int)<=v10/\v10.toNat<a0_a.Funcs.length)/\((0:Int)<=v10/\v10.toNat<a1_b.Funcs.length)/\if (!(Lt.ml (a0_a.Funcs.getD v10.toNat default) (a1_b.Funcs.getD v10.toNat default)))=true then (KK false) else (R9 (IntKind.i64.wrap (v10+1)))) else (KK true))) 0))) 0))) 0))
def Jm (a0_s:List UInt8) (KK:Bool->Prop):Prop:=
 aa (α:=Bool) (fun J1=>if (decide (a0_s=([]:List UInt8)))=true then (J1 true) else (if (decide (16 < (a0_s.length:Int)))=true then (J1 true) else (((0:Int)<=0/\0<a0_s.length)/\if (!(Lt.letter (a0_s.getD 0 0)))=true then (J1 true) else (J1 (Lt.kept a0_s))))) (fun v2=>if v2=true then (KK false) else ((a0_s.length<=4611686018427387904->ba (α:=Int) (fun R3 v4=>if (decide (v4 < (a0_s.length:Int)))=true then (aa (α:=Bool) (fun J5=>((0:Int)<=v4/\v4.toNat<a0_s.length)/\if (!(Lt.letter (a0_s.getD v4.toNat 0)))=true then (((0:Int)<=v4/\v4.toNat<a0_s.length)/\J5 (!(Lt.fh (a0_s.getD v4.toNat 0)))) else (J5 false)) (fun v6=>if v6=true then (KK false) else (R3 (IntKind.i64.wrap (v4+1))))) else (KK true)) 0)))
def On (a0_list:List UInt8) (a1_n:Int) (KK:(List UInt8)->Prop):Prop:=
 ba (α:=Int×Int×Int) (fun R1 v2=>(a0_list.length<=4611686018427387904->if (decide (v2.2.2 < (a0_list.length:Int)))=true then (aa (α:=Int×Int) (fun J3=>((0:Int)<=v2.2.2/\v2.2.2.toNat<a0_list.length)/\if (!decide ((((a0_list.getD v2.2.2.toNat 0).toNat:Nat):Int)=(((32:UInt8).toNat:Nat):Int)))=true then (J3 (v2.1,v2.2.1)) else (if (decide ((IntKind.i64.wrap (v2.1 - 1))=0))=true then ((0:Int)<=(IntKind.i64.wrap (v2.2.1+1))/\(0:Int)<=v2.2.2/\((IntKind.i64.wrap (v2.2.1+1)).toNat<=v2.2.2.toNat/\v2.2.2.toNat<=a0_list.length)/\KK ((a0_list.drop (IntKind.i64.wrap (v2.2.1+1)).toNat).take (v2.2.2.toNat - (IntKind.i64.wrap (v2.2.1+1)).toNat))) else (J3 ((IntKind.i64.wrap (v2.1 - 1)),v2.2.2)))) (fun v4=>R1 (v4.1,v4.2,(IntKind.i64.wrap (v2.2.2+1))))) else (KK ([]:List UInt8)))) (a1_n,0,1)
def o5 (a0_a:List Lt.Var) (a1_b:List Lt.Var) (KK:Bool->Prop):Prop:=
 (a0_a.length<=4611686018427387904->(a1_b.length<=4611686018427387904->if (!decide ((a0_a.length:Int)=(a1_b.length:Int)))=true then (KK false) else (ba (α:=Int) (fun R1 v2=>(a0_a.length<=4611686018427387904->if (decide (v2 < (a0_a.length:Int)))=true then (((0:Int)<=v2/\v2.toNat<a0_a.length)/\((0:Int)<=v2/\v2.toNat<a1_b.length)/\if (!(decide ((a0_a.getD v2.toNat default).Name=(a1_b.getD v2.toNat default).Name)&&decide ((a0_a.getD v2.toNat default).Type_=(a1_b.getD v2.toNat default).Type_)))=true then (KK false) else (R1 (IntKind.i64.wrap (v2+1)))) else (KK true))) 0)))
def pF (a0_a:Lt.Func) (a1_b:Lt.Func) (KK:Bool->Prop):Prop:=
 aa (α:=Bool) (fun J1=>if (!decide (a0_a.Name=a1_b.Name))=true then (J1 true) else (if (!decide (a0_a.Result=a1_b.Result))=true then (J1 true) else (if (!(Lt.fy a0_a.Params a1_b.Params))=true then (J1 true) else (if (!(Lt.fy a0_a.Vars a1_b.Vars))=true then (J1 true) else (J1 (!decide ((a0_a.Blocks.length:Int)=(a1_b.Blocks.length:Int)))))))) (fun v2=>if v2=true then (KK false) else (ba (α:=Int) (fun R3 v4=>have z2:=a1_b.Blocks.getD v4.toNat default; have z1:=a0_a.Blocks.getD v4.toNat default; (a0_a.Blocks.length<=4611686018427387904->if (decide (v4 < (a0_a.Blocks.length:Int)))=true then (((0:Int)<=v4/\v4.toNat<a0_a.Blocks.length)/\((0:Int)<=v4/\v4.toNat<a1_b.Blocks.length)/\if (!(Lt.kF (Lt.Block.mk (z1.Name) (z1.Phis) (z1.Code) (Lt.Term.mk ((z1.End).Kind) ((z1.End).A) ((z1.End).To) ((z1.End).N))) (Lt.Block.mk (z2.Name) (z2.Phis) (z2.Code) (Lt.Term.mk ((z2.End).Kind) ((z2.End).A) ((z2.End).To) ((z2.End).N)))))=true then (KK false) else (R3 (IntKind.i64.wrap (v4+1)))) else (KK true))) 0))
def Il (a0_n:Int) (KK:(List UInt8)->Prop):Prop:=
 aa (α:=List UInt8) (fun J1=>ba (α:=List UInt8×Int) (fun R3 v4=>(10:Int)≠0/\(([(UInt8.ofNat (IntKind.u8.wrap (IntKind.u64.wrap (48+(Int.tmod v4.2 10)))).toNat)]:List UInt8).length+v4.1.length<=4611686018427387904/\(([(UInt8.ofNat (IntKind.u8.wrap (IntKind.u64.wrap (48+(Int.tmod v4.2 10)))).toNat)]:List UInt8).length+v4.1.length)*1<=140737488355328)/\(10:Int)≠0/\if (decide ((IntKind.u64.wrap (Int.tdiv v4.2 10))=0))=true then (J1 (([(UInt8.ofNat (IntKind.u8.wrap (IntKind.u64.wrap (48+(Int.tmod v4.2 10)))).toNat)]:List UInt8)++v4.1)) else (R3 ((([(UInt8.ofNat (IntKind.u8.wrap (IntKind.u64.wrap (48+(Int.tmod v4.2 10)))).toNat)]:List UInt8)++v4.1),(IntKind.u64.wrap (Int.tdiv v4.2 10))))) ([],(Lt.zH a0_n))) (fun v2=>if (decide (a0_n < 0))=true then ([45].length+v2.length<=4611686018427387904/\KK ([45]++v2)) else (KK v2))
def BF (a0_a:Lt.Arg) (KK:(List UInt8)->Prop):Prop:=
 if (!(Lt.fX a0_a))=true then (KK ([]:List UInt8)) else (if (decide (a0_a.Kind=1))=true then (KK a0_a.S) else (if (decide (a0_a.Kind=2))=true then ((Lt.gJ a0_a.N)/\KK (Lt.pU a0_a.N)) else (if (decide (a0_a.Kind=3))=true then (KK (Lt.jR a0_a.N)) else (if (decide (a0_a.Kind=4))=true then (KK [110,117,108,108]) else ((Lt.gJ a0_a.N)/\[35].length+(Lt.pU a0_a.N).length<=4611686018427387904/\KK ([35]++(Lt.pU a0_a.N)))))))
def we (a0_c:UInt8) (KK:Bool->Prop):Prop:=
 aa (α:=Bool) (fun J1=>if (decide ((((97:UInt8).toNat:Nat):Int)<=((a0_c.toNat:Nat):Int)))=true then (if (decide (((a0_c.toNat:Nat):Int)<=(((122:UInt8).toNat:Nat):Int)))=true then (J1 true) else (if (decide ((((65:UInt8).toNat:Nat):Int)<=((a0_c.toNat:Nat):Int)))=true then (if (decide (((a0_c.toNat:Nat):Int)<=(((90:UInt8).toNat:Nat):Int)))=true then (J1 true) else (J1 (decide (((a0_c.toNat:Nat):Int)=(((95:UInt8).toNat:Nat):Int))))) else (J1 (decide (((a0_c.toNat:Nat):Int)=(((95:UInt8).toNat:Nat):Int)))))) else (if (decide ((((65:UInt8).toNat:Nat):Int)<=((a0_c.toNat:Nat):Int)))=true then (if (decide (((a0_c.toNat:Nat):Int)<=(((90:UInt8).toNat:Nat):Int)))=true then (J1 true) else (J1 (decide (((a0_c.toNat:Nat):Int)=(((95:UInt8).toNat:Nat):Int))))) else (J1 (decide (((a0_c.toNat:Nat):Int)=(((95:UInt8).toNat:Nat):Int)))))) (fun v2=>KK v2)
def Jj (a0_s:List UInt8) (KK:Bool->Prop):Prop:=
 aa (α:=Bool) (fun J1=>if (decide (a0_s=[110,117,108,108]))=true then (J1 true) else (if (decide (a0_s=[105,110,116]))=true then (J1 true) else (J1 (decide (a0_s=[102,108,111,97,116]))))) (fun v2=>KK v2)
def mY (a0_c:UInt8) (KK:Bool->Prop):Prop:=
 if (decide ((((48:UInt8).toNat:Nat):Int)<=((a0_c.toNat:Nat):Int)))=true then (KK (decide (((a0_c.toNat:Nat):Int)<=(((57:UInt8).toNat:Nat):Int)))) else (KK false)
def mK (a0_a:Lt.Block) (a1_b:Lt.Block) (KK:Bool->Prop):Prop:=
 aa (α:=Bool) (fun J1=>if (!decide (a0_a.Name=a1_b.Name))=true then (J1 true) else (if (!decide ((a0_a.Phis.length:Int)=(a1_b.Phis.length:Int)))=true then (J1 true) else (if (!decide ((a0_a.Code.length:Int)=(a1_b.Code.length:Int)))=true then (J1 true) else (if (!decide (a0_a.End.Kind=a1_b.End.Kind))=true then (J1 true) else (if (!(decide (a0_a.End.A.Kind=a1_b.End.A.Kind)&&(decide (a0_a.End.A.S=a1_b.End.A.S)&&decide (a0_a.End.A.N=a1_b.End.A.N))))=true then (J1 true) else (if (!decide (a0_a.End.N=a1_b.End.N))=true then (J1 true) else (J1 (!decide ((a0_a.End.To.length:Int)=(a1_b.End.To.length:Int)))))))))) (fun v2=>if v2=true then (KK false) else (ba (α:=Int) (fun R3 v4=>(a0_a.End.To.length<=4611686018427387904->if (decide (v4 < (a0_a.End.To.length:Int)))=true then (((0:Int)<=v4/\v4.toNat<a0_a.End.To.length)/\((0:Int)<=v4/\v4.toNat<a1_b.End.To.length)/\if (!decide ((a0_a.End.To.getD v4.toNat default)=(a1_b.End.To.getD v4.toNat default)))=true then (KK false) else (R3 (IntKind.i64.wrap (v4+1)))) else (ba (α:=Int) (fun R5 v6=>have z5:=((0:Int)<=v6/\v6.toNat<a1_b.Phis.length); have z4:=a1_b.Phis.getD v6.toNat default; have z3:=((0:Int)<=v6/\v6.toNat<a0_a.Phis.length); have z1:=(a0_a.Phis.getD v6.toNat default).Ins; (a0_a.Phis.length<=4611686018427387904->if (decide (v6 < (a0_a.Phis.length:Int)))=true then (aa (α:=Bool) (fun J7=>z3/\z5/\if (!decide ((a0_a.Phis.getD v6.toNat default).Dst=z4.Dst))=true then (J7 true) else (z3/\z5/\J7 (!decide ((z1.length:Int)=((z4.Ins).length:Int))))) (fun v8=>if v8=true then (KK false) else (ba (α:=Int) (fun R9 v10=>have z6:=z1.getD v10.toNat default; have z2:=(z4.Ins).getD v10.toNat default; z3/\(z1.length<=4611686018427387904->if (decide (v10 < (z1.length:Int)))=true then (z3/\((0:Int)<=v10/\v10.toNat<z1.length)/\z5/\((0:Int)<=v10/\v10.toNat < (z4.Ins).length)/\if (!(decide (z6.Block=z2.Block)&&(decide ((z6.A).Kind=(z2.A).Kind)&&(decide ((z6.A).S=(z2.A).S)&&decide ((z6.A).N=(z2.A).N)))))=true then (KK false) else (R9 (IntKind.i64.wrap (v10+1)))) else (R5 (IntKind.i64.wrap (v6+1))))) 0))) else (ba (α:=Int) (fun R11 v12=>(a0_a.Code.length<=4611686018427387904->if (decide (v12 < (a0_a.Code.length:Int)))=true then (((0:Int)<=v12/\v12.toNat<a0_a.Code.length)/\((0:Int)<=v12/\v12.toNat<a1_b.Code.length)/\if (!(Lt.kG (a0_a.Code.getD v12.toNat default) (a1_b.Code.getD v12.toNat default)))=true then (KK false) else (R11 (IntKind.i64.wrap (v12+1)))) else (KK true))) 0))) 0))) 0))
def Bg (a0_n:Int) (KK:Int->Prop):Prop:=
 if (decide (a0_n < 0))=true then (KK (IntKind.u64.wrap (0 - (IntKind.u64.wrap a0_n)))) else (KK (IntKind.u64.wrap a0_n))
def vo (a0_a:Lt.Arg) (KK:Bool->Prop):Prop:=
 have z2:=decide (a0_a.Kind=4); have z1:=decide (a0_a.Kind=5); if (decide (a0_a.Kind=1))=true then (if (Lt.az a0_a.S)=true then (KK (decide (a0_a.N=0))) else (KK false)) else (aa (α:=Bool) (fun J1=>if (decide (a0_a.Kind < 1))=true then (J1 true) else (if (decide (5<a0_a.Kind))=true then (J1 true) else (J1 (!decide (a0_a.S=([]:List UInt8)))))) (fun v2=>if v2=true then (KK false) else (aa (α:=Bool) (fun J3=>if (decide (a0_a.Kind=2))=true then ((J3 true)/\(J3 true)) else (if (decide (a0_a.Kind=3))=true then ((if (decide ((Lt.bi a0_a.N)=a0_a.N))=true then (J3 true) else (if z2=true then (if (decide (a0_a.N=0))=true then (J3 true) else (if z1=true then (if (decide (0<=a0_a.N))=true then (J3 (decide (a0_a.N<=999))) else (J3 false)) else (J3 false))) else (if z1=true then (if (decide (0<=a0_a.N))=true then (J3 (decide (a0_a.N<=999))) else (J3 false)) else (J3 false))))/\(if (decide ((Lt.bi a0_a.N)=a0_a.N))=true then (J3 true) else (if z2=true then (if (decide (a0_a.N=0))=true then (J3 true) else (if z1=true then (if (decide (0<=a0_a.N))=true then (J3 (decide (a0_a.N<=999))) else (J3 false)) else (J3 false))) else (if z1=true then (if (decide (0<=a0_a.N))=true then (J3 (decide (a0_a.N<=999))) else (J3 false)) else (J3 false))))) else ((if z2=true then (if (decide (a0_a.N=0))=true then (J3 true) else (if z1=true then (if (decide (0<=a0_a.N))=true then (J3 (decide (a0_a.N<=999))) else (J3 false)) else (J3 false))) else (if z1=true then (if (decide (0<=a0_a.N))=true then (J3 (decide (a0_a.N<=999))) else (J3 false)) else (J3 false)))/\(if z2=true then (if (decide (a0_a.N=0))=true then (J3 true) else (if z1=true then (if (decide (0<=a0_a.N))=true then (J3 (decide (a0_a.N<=999))) else (J3 false)) else (J3 false))) else (if z1=true then (if (decide (0<=a0_a.N))=true then (J3 (decide (a0_a.N<=999))) else (J3 false)) else (J3 false)))))) (fun v4=>KK v4))))
def IF (a0_n:Int) (KK:(List UInt8)->Prop):Prop:=
 ba (α:=Int×List UInt8×Int) (fun R1 v2=>if (decide (v2.2.2 < 16))=true then ((16:Int)≠0/\aa (α:=UInt8) (fun J3=>if (decide ((((UInt8.ofNat (IntKind.u8.wrap (Int.tmod v2.1 16)).toNat).toNat:Nat):Int) < (((10:UInt8).toNat:Nat):Int)))=true then (J3 (UInt8.ofNat (IntKind.u8.wrap ((((UInt8.ofNat (IntKind.u8.wrap (Int.tmod v2.1 16)).toNat).toNat:Nat):Int)+(((48:UInt8).toNat:Nat):Int))).toNat)) else (J3 (UInt8.ofNat (IntKind.u8.wrap ((((UInt8.ofNat (IntKind.u8.wrap (Int.tmod v2.1 16)).toNat).toNat:Nat):Int)+(((87:UInt8).toNat:Nat):Int))).toNat))) (fun v4=>(([v4]:List UInt8).length+v2.2.1.length<=4611686018427387904/\(([v4]:List UInt8).length+v2.2.1.length)*1<=140737488355328)/\(16:Int)≠0/\R1 ((IntKind.u64.wrap (Int.tdiv v2.1 16)),(([v4]:List UInt8)++v2.2.1),(IntKind.i64.wrap (v2.2.2+1))))) else ([48,102].length+v2.2.1.length<=4611686018427387904/\KK ([48,102]++v2.2.1))) ((IntKind.u64.wrap (Lt.bi a0_n)),[],0)
def m5 (a0_a:Lt.Instr) (a1_b:Lt.Instr) (KK:Bool->Prop):Prop:=
 aa (α:=Bool) (fun J1=>if (!decide (a0_a.Op=a1_b.Op))=true then (J1 true) else (if (!decide (a0_a.Dst=a1_b.Dst))=true then (J1 true) else (if (!decide (a0_a.Name=a1_b.Name))=true then (J1 true) else (if (!(Lt.kn a0_a.Args a1_b.Args))=true then (J1 true) else (if (!decide ((a0_a.Frames.length:Int)=(a1_b.Frames.length:Int)))=true then (J1 true) else (J1 (!decide ((a0_a.Objs.length:Int)=(a1_b.Objs.length:Int))))))))) (fun v2=>if v2=true then (KK false) else (ba (α:=Int) (fun R3 v4=>have z2:=a1_b.Frames.getD v4.toNat default; have z1:=a0_a.Frames.getD v4.toNat default; (a0_a.Frames.length<=4611686018427387904->if (decide (v4 < (a0_a.Frames.length:Int)))=true then (((0:Int)<=v4/\v4.toNat<a0_a.Frames.length)/\((0:Int)<=v4/\v4.toNat<a1_b.Frames.length)/\aa (α:=Bool) (fun J5=>if (!decide (z1.Func=z2.Func))=true then (J5 true) else (if (!decide (z1.Block=z2.Block))=true then (J5 true) else (if (!decide (z1.At=z2.At))=true then (J5 true) else (J5 (!decide (((z1.Vars).length:Int)=((z2.Vars).length:Int))))))) (fun v6=>if v6=true then (KK false) else (ba (α:=Int) (fun R7 v8=>have z4:=(z2.Vars).getD v8.toNat default; have z3:=(z1.Vars).getD v8.toNat default; ((z1.Vars).length<=4611686018427387904->if (decide (v8 < ((z1.Vars).length:Int)))=true then (((0:Int)<=v8/\v8.toNat < (z1.Vars).length)/\((0:Int)<=v8/\v8.toNat < (z2.Vars).length)/\if (!(decide (z3.Name=z4.Name)&&(decide ((z3.A).Kind=(z4.A).Kind)&&(decide ((z3.A).S=(z4.A).S)&&decide ((z3.A).N=(z4.A).N)))))=true then (KK false) else (R7 (IntKind.i64.wrap (v8+1)))) else (R3 (IntKind.i64.wrap (v4+1))))) 0))) else (ba (α:=Int) (fun R9 v10=>(a0_a.Objs.length<=4611686018427387904->if (decide (v10 < (a0_a.Objs.length:Int)))=true then (aa (α:=Bool) (fun J11=>((0:Int)<=v10/\v10.toNat<a0_a.Objs.length)/\((0:Int)<=v10/\v10.toNat<a1_b.Objs.length)/\if (!decide ((a0_a.Objs.getD v10.toNat default).Class=(a1_b.Objs.getD v10.toNat default).Class))=true then (J11 true) else (((0:Int)<=v10/\v10.toNat<a0_a.Objs.length)/\((0:Int)<=v10/\v10.toNat<a1_b.Objs.length)/\J11 (!(Lt.kn ((a0_a.Objs.getD v10.toNat default).Vals) ((a1_b.Objs.getD v10.toNat default).Vals))))) (fun v12=>if v12=true then (KK false) else (R9 (IntKind.i64.wrap (v10+1))))) else (KK true))) 0))) 0))
def BT (a0_n:Int) (KK:Int->Prop):Prop:=
 aa (α:=Bool) (fun J1=>if (decide ((IntKind.i64.wrap ((BitVec.ofInt IntKind.i64.bits a0_n &&& BitVec.ofInt IntKind.i64.bits 9218868437227405312).toNat:Nat))=9218868437227405312))=true then (J1 (!decide ((IntKind.i64.wrap ((BitVec.ofInt IntKind.i64.bits a0_n &&& BitVec.ofInt IntKind.i64.bits 4503599627370495).toNat:Nat))=0))) else (J1 false)) (fun v2=>if v2=true then (KK 9221120237041090560) else (KK a0_n))
def Bj (a0_s:List UInt8) (KK:Bool->Prop):Prop:=
 ba (α:=Int) (fun R1 v2=>have z1:=(((a0_s.getD v2.toNat 0).toNat:Nat):Int); have z3:=(decide (z1 < (((97:UInt8).toNat:Nat):Int))); have z2:=(decide ((((122:UInt8).toNat:Nat):Int)<z1)); (a0_s.length<=4611686018427387904->if (decide (v2 < (a0_s.length:Int)))=true then (((0:Int)<=v2/\v2.toNat<a0_s.length)/\aa (α:=Bool) (fun J3=>if (decide ((((48:UInt8).toNat:Nat):Int)<=z1))=true then (J3 (decide (z1<=(((57:UInt8).toNat:Nat):Int)))) else (J3 false)) (fun v4=>aa (α:=Bool) (fun J5=>if v4=true then (if (!(decide (0<v2)))=true then (if (!decide (z1=(((95:UInt8).toNat:Nat):Int)))=true then (if (decide (z1 < (((65:UInt8).toNat:Nat):Int)))=true then (if z3=true then (J5 true) else (J5 z2)) else (if (decide ((((90:UInt8).toNat:Nat):Int)<z1))=true then (if z3=true then (J5 true) else (J5 z2)) else (J5 false))) else (J5 false)) else (J5 false)) else (if (!false)=true then (if (!decide (z1=(((95:UInt8).toNat:Nat):Int)))=true then (if (decide (z1 < (((65:UInt8).toNat:Nat):Int)))=true then (if z3=true then (J5 true) else (J5 z2)) else (if (decide ((((90:UInt8).toNat:Nat):Int)<z1))=true then (if z3=true then (J5 true) else (J5 z2)) else (J5 false))) else (J5 false)) else (J5 false))) (fun v6=>if v6=true then (KK false) else (R1 (IntKind.i64.wrap (v2+1)))))) else (aa (α:=Bool) (fun J7=>(a0_s.length<=4611686018427387904->if (decide (1<=(a0_s.length:Int)))=true then (if (decide ((a0_s.length:Int)<=16))=true then (if (!decide (a0_s=[110,117,108,108]))=true then (if (!decide (a0_s=[105,110,116]))=true then (J7 (!decide (a0_s=[102,108,111,97,116]))) else (J7 false)) else (J7 false)) else (J7 false)) else (J7 false))) (fun v8=>KK v8)))) 0
def xz (a0_n:Int) (KK:Int->Prop):Prop:=
 if (Lt.oH a0_n)=true then (KK 9221120237041090560) else (KK a0_n)
def oT (a0_a:List Lt.Arg) (a1_b:List Lt.Arg) (KK:Bool->Prop):Prop:=
 (a0_a.length<=4611686018427387904->(a1_b.length<=4611686018427387904->if (!decide ((a0_a.length:Int)=(a1_b.length:Int)))=true then (KK false) else (ba (α:=Int) (fun R1 v2=>(a0_a.length<=4611686018427387904->if (decide (v2 < (a0_a.length:Int)))=true then (((0:Int)<=v2/\v2.toNat<a0_a.length)/\((0:Int)<=v2/\v2.toNat<a1_b.length)/\if (!(decide ((a0_a.getD v2.toNat default).Kind=(a1_b.getD v2.toNat default).Kind)&&(decide ((a0_a.getD v2.toNat default).S=(a1_b.getD v2.toNat default).S)&&decide ((a0_a.getD v2.toNat default).N=(a1_b.getD v2.toNat default).N))))=true then (KK false) else (R1 (IntKind.i64.wrap (v2+1)))) else (KK true))) 0)))
def xJ (a0_n:Int) (KK:Bool->Prop):Prop:=
 (9223372036854775808:Int)≠0/\KK (decide (9218868437227405312 < (Int.tmod (IntKind.u64.wrap a0_n) 9223372036854775808)))
def JG (a0_n:Int) (KK:Int->Prop):Prop:=
 KK (IntKind.i64.wrap a0_n)
end Go.Am
end

section
namespace Go.Am
open Go
theorem ifk {c:Prop} [Decidable c] {A B:Prop} (h1:c->A) (h2:¬ c->B):if c then A else B:=by
 by_cases hc:c
 ·rw [if_pos hc]; exact h1 hc
 ·rw [if_neg hc]; exact h2 hc
theorem kk {α:Type} {KK:α->Prop} {a b:α} (h:KK a) (e:a=b):KK b:=e ▸ h
theorem Qm (s:List UInt8) (KK:Bool->Prop) (h:KK (Lt.kept s)):Jj s KK:=by
 unfold Jj; (try simp only [ac,aj,aq,jval,bor,band,bnand,bimp,and_self]); unfold Lt.kept at h; simpa only [Bool.or_assoc] using h
theorem GR (c:UInt8) (KK:Bool->Prop) (h:KK (Lt.letter c)):we c KK:=by
 unfold we; (try simp only [ac,aj,aq,jval,bor,band,bnand,bimp,and_self]);refine kk h ?_;unfold Lt.letter Lt.Bn
 grind
theorem yy (c:UInt8) (KK:Bool->Prop) (h:KK (Lt.fh c)):mY c KK:=by
 unfold mY; (try simp only [ac,aj,aq,jval,bor,band,bnand,bimp,and_self]); exact h
theorem MU (n:Int) (KK:Int->Prop) (h:KK (Lt.Plain n)):BT n KK:=by
 unfold BT; (try simp only [ac,aj,aq,jval,bor,band,bnand,bimp,and_self]); unfold Lt.Plain at h; exact h
theorem QN (s:List UInt8) (KK:Bool->Prop) (h:KK (Lt.Name s)):Jm s KK:=by
 unfold Jm; (try simp only [ac,aj,aq,jval,bor,band,bnand,bimp,and_self,fv,lk,lD]);have hn:¬ s=[]->0<s.length:=by cases s <;> simp
 refine ⟨fun h1 h2=>⟨Int.le_refl _,by grind⟩,?_⟩;split
 ·refine kk h ?_;unfold Lt.Name; grind
 ·intro hl;refine Dc (α:=UInt8) s hl Lt.iS true KK _ (fun R i hi ih hF=>?_) (fun R h=>?_) (kk h ?_)
  ·have hd:s.getD i 0=s.getD i default:=rfl
   simp only [fj hi,if_true,Int.toNat_natCast,hd];unfold Lt.iS at ih hF;refine ⟨fun _=>⟨We i,hi⟩,fun _ _=>⟨We i,hi⟩,?_⟩
   grind
  ·simp only [gF,V9,if_false]; exact ⟨False.elim,False.elim,h⟩
  ·unfold Lt.Name; grind
theorem SU (l:List UInt8) (n:Int) (KK:List UInt8->Prop) (h:KK (Lt.nth l n)):On l n KK:=by
 unfold On; (try simp only [ac,aj,aq,ay,aV,jval,bor,band,bnand,bimp,and_self]);unfold Lt.nth at h;by_cases hl:l.length<=LEN
 ·refine bJ _ (l.length+1) (fun k x=>∃ (n:Int) (f i:Nat),x=(n,(f:Int),(i:Int))/\i=k+1/\f<i/\f<=l.length/\KK (Lt.M0 l (l.length+1-k) n f i)) (fun R k x hk hP hR=>?_) (fun R x hP=>?_) _ ⟨n,0,1,rfl,by omega,by omega,by omega,h⟩
  ·obtain ⟨n,f,i,rfl,hi1,hf,hf2,h⟩:=hP;intro _;by_cases hi:i<l.length
   ·simp only [fj hi,if_true,Int.toNat_natCast];refine ⟨⟨We i,hi⟩,?_⟩;rw [show l.length+1-k=(l.length+1 - (k+1))+1 by omega] at h;simp only [Lt.M0,hi,if_true] at h;have w1:IntKind.i64.wrap ((i:Int)+1)=((i+1:Nat):Int):=aQ (by unfold LEN at hl; omega)
    have w2:IntKind.i64.wrap ((f:Int)+1)=((f+1:Nat):Int):=aQ (by unfold LEN at hl; omega)
    rw [w1,w2];dsimp +instances only [Int.toNat_natCast]
    split
    ·rename_i hc;have hc':¬ (((l.getD i 0).toNat:Nat):Int)=32:=by simpa using hc
     rw [if_neg hc'] at h;exact hR _ ⟨n,f,i+1,rfl,by omega,by omega,by omega,h⟩
    ·rename_i hc;have hc':(((l.getD i 0).toNat:Nat):Int)=32:=by simpa using hc
     rw [if_pos hc'] at h;split
     ·rename_i hz;have hz':IntKind.i64.wrap (n - 1)=0:=by simpa using hz
      rw [if_pos hz'] at h;exact ⟨We _,We _,⟨by omega,by omega⟩,h⟩
     ·rename_i hz;have hz':¬ IntKind.i64.wrap (n - 1)=0:=by simpa using hz
      rw [if_neg hz'] at h;exact hR _ ⟨_,i,i+1,rfl,by omega,by omega,by omega,h⟩
   ·have hf:decide ((i:Int) < (l.length:Int))=false:=by simp; omega
    simp only [hf,V9,if_false];rw [show l.length+1-k=(l.length+1 - (k+1))+1 by omega] at h;simp only [Lt.M0,hi,if_false] at h;exact h
  ·obtain ⟨n,f,i,rfl,hi1,hf,hf2,h⟩:=hP;intro _;have hf:decide ((i:Int) < (l.length:Int))=false:=by simp; omega
   simp only [hf,V9,if_false];rw [show l.length+1 - (l.length+1)=0 by omega] at h;exact h
 ·exact ⟨1,fun h=>absurd h hl⟩
theorem UD (op:Int) (KK:Lt.Form×Bool->Prop) (h:KK (Lt.Of op)):Uf op KK:=by
 unfold Uf; (try simp only [ac,aj,aq,jval,bor,band,bnand,bimp,and_self]);refine kk h ?_;unfold Lt.Of Lt.two;simp only [V7,decide_eq_true_eq]
end Go.Am
end

section
namespace Go.Am
open Go
theorem dU {n:Int} (h1:-9223372036854775808<=n) (h2:n < 9223372036854775808):IntKind.i64.wrap n=n:=by
 simp only [IntKind.wrap,IntKind.signed,IntKind.bits];simp;omega
theorem da {n:Nat} (h:n < 10):Lt.digs n=[UInt8.ofNat (48+n)]:=by
 rw [Lt.digs,if_pos h]
theorem iY {n:Nat} (h:¬ n < 10):Lt.digs n=Lt.digs (n / 10)++[UInt8.ofNat (48+n % 10)]:=by
 rw [Lt.digs,if_neg h]
theorem yb:∀ (k n:Nat),n < 10 ^ (k+1)->(Lt.digs n).length<=k+1
 | 0,n,h=>by rw [da (by omega)]; simp
 | k+1,n,h=>by
  by_cases h10:n < 10
  ·rw [da h10]; simp
  ·rw [iY h10];have:=yb k (n / 10) (by rw [Nat.pow_succ] at h; omega)
   simp only [WA,Wp,W0];omega
theorem pz {n:Int} (h:Lt.inR n):(Lt.aS n).length<=20:=by
 unfold Lt.inR at h;have:=yb 18 n.natAbs (by omega)
 unfold Lt.aS;simp only [WA];split <;> simp <;> omega
theorem bL {n:Nat} (h:n < 18446744073709551616):IntKind.u64.wrap (n:Int)=(n:Int):=by
 simp only [IntKind.wrap,IntKind.signed,IntKind.bits];simp;omega
theorem IG (n:Int):(Lt.oZ n).length=18:=by simp [Lt.oZ]
end Go.Am
end

section
namespace Go.Am
open Go
end Go.Am
end

section
namespace Go.Am
open Go
theorem Si (op:Int):(Lt.Of op).1.Most<=8:=by
 unfold Lt.Of;simp only [apply_ite Prod.fst,apply_ite Lt.Form.Most]
 repeat' split
 all_goals omega
theorem PY {op:Int} (h:op=26\/op=27):1<=(Lt.Of op).1.Least:=by
 rcases h with rfl | rfl <;> decide
structure InstrOk (i:Lt.Instr):Prop where
 args:i.Args.length<=8
 frames:i.Frames.length<=16
 objs:i.Objs.length<=99
 fr:∀ f∈i.Frames,Lt.frame f=true
 ob:∀ o∈i.Objs,Lt.virt o=true
 least:i.Op=26\/i.Op=27->1<=i.Args.length
 aok:Lt.mT i.Args false=true
 of:(Lt.Of i.Op).2=true
 dst:(Lt.Of i.Op).1.Dst=!decide (i.Dst=[])
 nm:(Lt.Of i.Op).1.Named=!decide (i.Name=[])
 dstN:(Lt.Of i.Op).1.Dst=true->Lt.Name i.Dst=true
 nmN:(Lt.Of i.Op).1.Named=true->Lt.Name i.Name=true
 lo:(Lt.Of i.Op).1.Least<=(i.Args.length:Int)
 hi:(i.Args.length:Int)<=(Lt.Of i.Op).1.Most
 none:i.Op≠31/\i.Op≠34->i.Frames=[]/\i.Objs=[]
theorem DV {i:Lt.Instr} (h:Lt.instr i=true):InstrOk i:=by
 unfold Lt.instr at h;simp only [V7,decide_eq_true_eq,beq_iff_eq,WH,Xx] at h;obtain ⟨⟨⟨⟨⟨⟨h1,h2⟩,h3⟩,h4⟩,h5⟩,⟨⟨⟨h6,h7⟩,h8⟩,h9⟩,h10⟩,h11⟩:=h;have hm:=Si i.Op
 have hfo:(∀ f∈i.Frames,Lt.frame f=true)/\(∀ o∈i.Objs,Lt.virt o=true):=by
  split at h11
  ·simp only [V7,decide_eq_true_eq] at h11;rw [h11.1,h11.2]; simp
  ·simpa [Wj] using h11
 refine ⟨by omega,h9,h10,hfo.1,hfo.2,fun ho=>?_,h8,h1,h2,h3,fun hd=>?_,fun hd=>?_,h6,h7,fun ho=>?_⟩
 ·have:=PY ho
  omega
 ·rcases h4 with h4 | h4
  ·rw [h4] at hd; cases hd
  ·simpa using h4
 ·rcases h5 with h5 | h5
  ·rw [h5] at hd; cases hd
  ·simpa using h5
 ·rw [if_pos ho] at h11;simpa using h11
def longs (l:List Lt.Block):Nat:=(l.map fun b=>b.Phis.length+b.Code.length).sum
theorem zI:∀ (l:List Lt.Block) (n:Nat),n<=1024->Lt.blocks l n=true->n+longs l<=1024/\∀ b∈l,Lt.block b=true
 | [],n,hn,_=>⟨by simp [longs]; exact hn,by simp⟩
 | b::r,n,hn,h=>by
  simp only [Lt.blocks,V7,decide_eq_true_eq] at h;obtain ⟨⟨h1,h2⟩,h3⟩:=h;obtain ⟨k1,k2⟩:=zI r _ h1 h3;refine ⟨?_,?_⟩
  ·simp only [longs,List.map_cons,List.sum_cons] at k1 ⊢; omega
  ·intro x hx;rcases Wk.1 hx with rfl | hx
   ·exact h2
   ·exact k2 x hx
structure FuncOk (f:Lt.Func):Prop where
 name:Lt.Name f.Name=true
 res:Lt.kind f.Result=true
 params:Lt.typed f.Params 6=true
 vars:Lt.typed f.Vars 1024=true
 ne:f.Blocks≠[]
 len:f.Blocks.length<=256
 long:longs f.Blocks<=1024
 bl:∀ b∈f.Blocks,Lt.block b=true
theorem RM {f:Lt.Func} (h:Lt.cm f=true):FuncOk f:=by
 unfold Lt.cm at h;simp only [V7,decide_eq_true_eq,WH,decide_eq_false_iff_not] at h;obtain ⟨⟨⟨⟨⟨⟨h1,h2⟩,h3⟩,h4⟩,h5⟩,h6⟩,h7⟩:=h;obtain ⟨k1,k2⟩:=zI _ 0 (by omega) h7;exact ⟨h1,h2,h3,h4,h5,h6,by omega,k2⟩
end Go.Am
end

section
namespace Go.Am
open Go
theorem uf {a:Lt.Arg} (h:Lt.bj a=true):(a.Kind=1/\Lt.Name a.S=true/\a.N=0)\/(a.Kind=2/\a.S=[])\/(a.Kind=3/\a.S=[]/\Lt.Plain a.N=a.N)\/(a.Kind=4/\a.S=[]/\a.N=0)\/(a.Kind=5/\a.S=[]/\0<=a.N/\a.N<=999):=by
 unfold Lt.bj at h;split at h
 ·rename_i h1; simp only [V7,decide_eq_true_eq] at h; exact .inl ⟨h1,h⟩
 ·split at h
  ·rename_i h1; simp only [V7,decide_eq_true_eq] at h; exact .inr (.inl ⟨h1,h⟩)
  ·split at h
   ·rename_i h1; simp only [V7,decide_eq_true_eq] at h; exact .inr (.inr (.inl ⟨h1,h⟩))
   ·split at h
    ·rename_i h1; simp only [V7,decide_eq_true_eq] at h; exact .inr (.inr (.inr (.inl ⟨h1,h⟩)))
    ·split at h
     ·rename_i h1; simp only [V7,decide_eq_true_eq] at h; exact .inr (.inr (.inr (.inr ⟨h1,h.1.1,h.1.2,h.2⟩)))
     ·cases h
end Go.Am
end

section
namespace Go.Am
open Go
theorem LL {α:Type} [Inhabited α] [DecidableEq α] (a b:List α) (hl:a.length<=LEN) (hlen:a.length=b.length) (rest:Bool) (KK:Bool->Prop) (body:(Int->Prop)->Int->Prop)
  (hs:∀ R i,i<a.length->(a.getD i default=b.getD i default->R (IntKind.i64.wrap ((i:Int)+1)))->(a.getD i default≠b.getD i default->KK false)->body R (i:Int))
  (he:∀ R,KK rest->body R (a.length:Int)) (h:KK (decide (a=b)&&rest)):ba body 0:=by
 refine bJ body a.length (fun i x=>x=(i:Int)/\KK (decide (a.drop i=b.drop i)&&rest)) (fun R i x hi hx ih=>?_) (fun R x hx=>?_) _ ⟨rfl,by simpa using h⟩
 ·obtain ⟨rfl,h⟩:=hx;have hb:i<b.length:=by omega
  rw [Wm hi,Wm hb] at h;have ea:a.getD i default=a[i]:=by rw [List.getD,V8 hi]; rfl
  have eb:b.getD i default=b[i]:=by rw [List.getD,V8 hb]; rfl
  refine hs _ i hi (fun e=>?_) (fun e=>?_)
  ·refine ih _ ⟨aQ (by unfold LEN at hl; omega),?_⟩;rw [ea,eb] at e;simp only [e,List.cons.injEq,true_and] at h;exact h
  ·rw [ea,eb] at e;simp only [List.cons.injEq,e,false_and,decide_false,WO] at h;exact h
 ·obtain ⟨rfl,h⟩:=hx;rw [Xd,hlen,Xd] at h;exact he _ (by simpa using h)
theorem bQ {α:Type} [Inhabited α] [DecidableEq α] (a b:List α) (hlen:a.length=b.length) (rest:Bool) (KK:Bool->Prop) (body:(Int->Prop)->Int->Prop)
  (hs:∀ R i,a.length<=LEN->i<a.length->(a.getD i default=b.getD i default->R (IntKind.i64.wrap ((i:Int)+1)))->(a.getD i default≠b.getD i default->KK false)->body R (i:Int))
  (he:∀ R,KK rest->body R (a.length:Int)) (h:KK (decide (a=b)&&rest)):ba (fun R v=>a.length<=4611686018427387904->body R v) 0:=by
 by_cases hl:a.length<=LEN
 ·exact LL a b hl hlen rest KK _ (fun R i hi h1 h2 _=>hs R i hl hi h1 h2) (fun R h _=>he R h) h
 ·exact ⟨1,fun h=>absurd h hl⟩
theorem Up (x y:Lt.Var):(decide (x.Name=y.Name)&&decide (x.Type_=y.Type_))=decide (x=y):=by
 obtain ⟨a,b⟩:=x; obtain ⟨c,d⟩:=y;by_cases h1:a=c <;> by_cases h2:b=d <;> simp [h1,h2]
theorem A8 (x y:Lt.Arg):(decide (x.Kind=y.Kind)&&(decide (x.S=y.S)&&decide (x.N=y.N)))=decide (x=y):=by
 obtain ⟨a,b,c⟩:=x; obtain ⟨d,e,f⟩:=y;by_cases h1:a=d <;> by_cases h2:b=e <;> by_cases h3:c=f <;> simp [h1,h2,h3]
theorem Rb (x y:Lt.Bind):(decide (x.Name=y.Name)&&(decide (x.A.Kind=y.A.Kind)&&(decide (x.A.S=y.A.S)&&decide (x.A.N=y.A.N))))=decide (x=y):=by
 rw [A8];obtain ⟨a,b⟩:=x; obtain ⟨c,d⟩:=y;by_cases h1:a=c <;> by_cases h2:b=d <;> simp [h1,h2]
theorem Vg (x y:Lt.In):(decide (x.Block=y.Block)&&(decide (x.A.Kind=y.A.Kind)&&(decide (x.A.S=y.A.S)&&decide (x.A.N=y.A.N))))=decide (x=y):=by
 rw [A8];obtain ⟨a,b⟩:=x; obtain ⟨c,d⟩:=y;by_cases h1:a=c <;> by_cases h2:b=d <;> simp [h1,h2]
theorem Mn (x y:Lt.Extern):(decide (x.Name=y.Name)&&decide (x.N=y.N))=decide (x=y):=by
 obtain ⟨a,b⟩:=x; obtain ⟨c,d⟩:=y;by_cases h1:a=c <;> by_cases h2:b=d <;> simp [h1,h2]
theorem ob2 {α β:Type} {a:List α} {b:List β} {i:Nat} (h:i<a.length) (e:a.length=b.length):(0:Int)<=(i:Int)/\i<b.length:=⟨We i,by omega⟩
theorem Ca (a b:List Lt.Var) (KK:Bool->Prop) (h:KK (Lt.fy a b)):o5 a b KK:=by
 unfold o5; (try simp only [ac,aj,aq,jval,bor,band,bnand,bimp,and_self]);intro _ _;unfold Lt.fy at h;refine ifk (fun hc=>kk h (by grind)) (fun hc=>?_);have hlen:a.length=b.length:=by grind
 refine bQ a b hlen true KK _ (fun R i hl hi ih hF=>?_) (fun R h=>?_) (kk h (by simp))
 ·simp only [fj hi,if_true,Int.toNat_natCast]
  try dsimp +instances only [Int.toNat_natCast]
  refine ⟨⟨We i,hi⟩,ob2 hi hlen,?_⟩;rw [Up]
  grind
 ·simp only [gF,V9,if_false]; exact h
theorem BH (a b:List Lt.Arg) (KK:Bool->Prop) (h:KK (Lt.kn a b)):oT a b KK:=by
 unfold oT; (try simp only [ac,aj,aq,jval,bor,band,bnand,bimp,and_self]);intro _ _;unfold Lt.kn at h;refine ifk (fun hc=>kk h (by grind)) (fun hc=>?_);have hlen:a.length=b.length:=by grind
 refine bQ a b hlen true KK _ (fun R i hl hi ih hF=>?_) (fun R h=>?_) (kk h (by simp))
 ·simp only [fj hi,if_true,Int.toNat_natCast]
  try dsimp +instances only [Int.toNat_natCast]
  refine ⟨⟨We i,hi⟩,ob2 hi hlen,?_⟩;rw [A8]
  grind
 ·simp only [gF,V9,if_false]; exact h
theorem yw (a b:Lt.Instr) (KK:Bool->Prop) (h:KK (Lt.kG a b)):m5 a b KK:=by
 unfold m5; dsimp only; (try simp only [ac,aj,aq,jval,bor,band,bnand,bimp,and_self]);unfold Lt.kG at h;unfold Lt.kn;refine ifk (fun hc=>kk h (by grind)) (fun hc=>?_);simp only [Wq,WH,decide_eq_false_iff_not,not_or,Wy,decide_eq_true_eq,Classical.not_not] at hc;obtain ⟨h1,h2,h3,h4,h5,h6⟩:=hc;have e:decide (a=b)=(decide (a.Frames=b.Frames)&&(decide (a.Objs=b.Objs)&&true)):=by
  obtain ⟨a1,a2,a3,a4,a5,a6⟩:=a; obtain ⟨b1,b2,b3,b4,b5,b6⟩:=b;dsimp only at h1 h2 h3 h4;subst h1; subst h2; subst h3; subst h4;by_cases g1:a5=b5 <;> by_cases g2:a6=b6 <;> simp [g1,g2]
 rw [e] at h;have hlF:a.Frames.length=b.Frames.length:=by omega
 have hlO:a.Objs.length=b.Objs.length:=by omega
 refine bQ a.Frames b.Frames hlF _ KK _ (fun R i hl hi ih hF=>?_) (fun R h=>?_) h
 ·simp only [fj hi,if_true,Int.toNat_natCast]
  try dsimp +instances only [Int.toNat_natCast]
  refine ⟨⟨We i,hi⟩,ob2 hi hlF,?_⟩;generalize a.Frames.getD i default=x at ih hF ⊢;generalize b.Frames.getD i default=y at ih hF ⊢;refine ifk (fun hc=>hF (by grind)) (fun hc=>?_);have hlV:x.Vars.length=y.Vars.length:=by grind
  refine bQ x.Vars y.Vars hlV true (fun b=>if b=true then R (IntKind.i64.wrap ((i:Int)+1)) else KK false) _ (fun R2 j hl hj ih2 hF2=>?_) (fun R2 h=>?_) ?_
  ·simp only [fj hj,if_true,Int.toNat_natCast]
   try dsimp +instances only [Int.toNat_natCast]
   refine ⟨⟨We j,hj⟩,ob2 hj hlV,?_⟩;rw [Rb];simp only [V9,if_false] at hF2
   grind
  ·simp only [gF,V9,if_false]; simpa using h
  ·refine ifk (fun hv=>ih ?_) (fun hv=>hF ?_)
   ·obtain ⟨x1,x2,x3,x4⟩:=x; obtain ⟨y1,y2,y3,y4⟩:=y; grind
   ·grind
 ·simp only [gF,V9,if_false];refine bQ a.Objs b.Objs hlO _ KK _ (fun R i hl hi ih hF=>?_) (fun R h=>?_) h
  ·simp only [fj hi,if_true,Int.toNat_natCast]
   try dsimp +instances only [Int.toNat_natCast]
   refine ⟨⟨We i,hi⟩,ob2 hi hlO,?_⟩;have o1:(0:Int)<=(i:Int)/\i<a.Objs.length:=⟨We i,hi⟩
   have o2:=ob2 hi hlO
   simp only [o1,o2,and_self,true_and]; (try simp only [ac,aj,aq,jval,bor,band,bnand,bimp,and_self]);generalize a.Objs.getD i default=x at ih hF ⊢;generalize b.Objs.getD i default=y at ih hF ⊢;obtain ⟨x1,x2⟩:=x; obtain ⟨y1,y2⟩:=y
   grind
  ·simp only [gF,V9,if_false]; exact h
theorem yz (a b:Lt.Block) (KK:Bool->Prop) (h:KK (Lt.kF a b)):mK a b KK:=by
 unfold mK; dsimp only; (try simp only [ac,aj,aq,jval,bor,band,bnand,bimp,and_self]);unfold Lt.kF at h;rw [A8];refine ifk (fun hc=>kk h (by grind)) (fun hc=>?_);simp only [Wq,WH,decide_eq_false_iff_not,not_or,Wy,decide_eq_true_eq,Classical.not_not] at hc;obtain ⟨h1,h2,h3,h4,h5,h6,h7⟩:=hc;have e:decide (a=b)=(decide (a.End.To=b.End.To)&&(decide (a.Phis=b.Phis)&&(decide (a.Code=b.Code)&&true))):=by
  obtain ⟨a1,a2,a3,⟨a4,a5,a6,a7⟩⟩:=a; obtain ⟨b1,b2,b3,⟨b4,b5,b6,b7⟩⟩:=b;dsimp only at h1 h4 h5 h6;subst h1; subst h4; subst h5; subst h6;by_cases g1:a2=b2 <;> by_cases g2:a3=b3 <;> by_cases g3:a6=b6 <;> simp [g1,g2,g3]
 rw [e] at h;have hlT:a.End.To.length=b.End.To.length:=by omega
 have hlP:a.Phis.length=b.Phis.length:=by omega
 have hlC:a.Code.length=b.Code.length:=by omega
 refine bQ a.End.To b.End.To hlT _ KK _ (fun R i hl hi ih hF=>?_) (fun R h=>?_) h
 ·simp only [fj hi,if_true,Int.toNat_natCast]
  try dsimp +instances only [Int.toNat_natCast]
  refine ⟨⟨We i,hi⟩,ob2 hi hlT,?_⟩
  grind
 ·simp only [gF,V9,if_false];refine bQ a.Phis b.Phis hlP _ KK _ (fun R i hl hi ih hF=>?_) (fun R h=>?_) h
  ·simp only [fj hi,if_true,Int.toNat_natCast]
   try dsimp +instances only [Int.toNat_natCast]
   have o1:(0:Int)<=(i:Int)/\i<a.Phis.length:=⟨We i,hi⟩
   have o2:=ob2 hi hlP
   simp only [o1,o2,and_self,true_and]; (try simp only [ac,aj,aq,jval,bor,band,bnand,bimp,and_self]);generalize a.Phis.getD i default=x at ih hF ⊢;generalize b.Phis.getD i default=y at ih hF ⊢;obtain ⟨x1,x2⟩:=x; obtain ⟨y1,y2⟩:=y;dsimp only;refine ifk (fun hc=>hF (by grind)) (fun hc=>?_);have hlV:x2.length=y2.length:=by grind
   refine bQ x2 y2 hlV true (fun b=>if b=true then R (IntKind.i64.wrap ((i:Int)+1)) else KK false) _ (fun R2 j hl hj ih2 hF2=>?_) (fun R2 h=>?_) ?_
   ·simp only [fj hj,if_true,Int.toNat_natCast]
    try dsimp +instances only [Int.toNat_natCast]
    have p1:(0:Int)<=(j:Int)/\j<x2.length:=⟨We j,hj⟩
    have p2:=ob2 hj hlV
    simp only [p1,p2,and_self,true_and];rw [Vg];simp only [V9,if_false] at hF2
    grind
   ·simp only [gF,V9,if_false]; simpa using h
   ·exact ifk (fun hv=>ih (by grind)) (fun hv=>hF (by grind))
  ·simp only [gF,V9,if_false];refine bQ a.Code b.Code hlC _ KK _ (fun R i hl hi ih hF=>?_) (fun R h=>?_) h
   ·simp only [fj hi,if_true,Int.toNat_natCast]
    try dsimp +instances only [Int.toNat_natCast]
    refine ⟨⟨We i,hi⟩,ob2 hi hlC,?_⟩;unfold Lt.kG
    grind
   ·simp only [gF,V9,if_false]; exact h
theorem Cm (a b:Lt.Func) (KK:Bool->Prop) (h:KK (Lt.ml a b)):pF a b KK:=by
 unfold pF; dsimp only; (try simp only [ac,aj,aq,jval,bor,band,bnand,bimp,and_self]);unfold Lt.ml at h;unfold Lt.fy;refine ifk (fun hc=>kk h (by grind)) (fun hc=>?_);simp only [Wq,WH,decide_eq_false_iff_not,not_or,Wy,decide_eq_true_eq,Classical.not_not] at hc;obtain ⟨h1,h2,h3,h4,h5⟩:=hc;have e:decide (a=b)=(decide (a.Blocks=b.Blocks)&&true):=by
  obtain ⟨a1,a2,a3,a4,a5⟩:=a; obtain ⟨b1,b2,b3,b4,b5⟩:=b;dsimp only at h1 h2 h3 h4;subst h1; subst h2; subst h3; subst h4;by_cases g1:a5=b5 <;> simp [g1]
 rw [e] at h;have hlB:a.Blocks.length=b.Blocks.length:=by omega
 refine bQ a.Blocks b.Blocks hlB _ KK _ (fun R i hl hi ih hF=>?_) (fun R h=>?_) h
 ·simp only [fj hi,if_true,Int.toNat_natCast]
  try dsimp +instances only [Int.toNat_natCast]
  refine ⟨⟨We i,hi⟩,ob2 hi hlB,?_⟩;generalize a.Blocks.getD i default=x at ih hF ⊢;generalize b.Blocks.getD i default=y at ih hF ⊢;obtain ⟨x1,x2,x3,⟨x4,x5,x6,x7⟩⟩:=x; obtain ⟨y1,y2,y3,⟨y4,y5,y6,y7⟩⟩:=y;unfold Lt.kF;dsimp only
  grind
 ·simp only [gF,V9,if_false]; exact h
theorem OI (a b:Lt.Program) (KK:Bool->Prop) (h:KK (Lt.Same a b)):Iw a b KK:=by
 unfold Iw; (try simp only [ac,aj,aq,jval,bor,band,bnand,bimp,and_self]);unfold Lt.Same at h;unfold Lt.fy Lt.ml;refine ifk (fun hc=>kk h (by grind)) (fun hc=>?_);simp only [Wq,WH,decide_eq_false_iff_not,not_or,Wy,decide_eq_true_eq,Classical.not_not,beq_iff_eq] at hc;obtain ⟨h1,h2,h3,h4,h5⟩:=hc;have e:decide (a=b)=(decide (a.Classes=b.Classes)&&(decide (a.Externs=b.Externs)&&(decide (a.Funcs=b.Funcs)&&true))):=by
  obtain ⟨a1,a2,a3,a4,a5⟩:=a; obtain ⟨b1,b2,b3,b4,b5⟩:=b;dsimp only at h1 h3;subst h1; subst h3;by_cases g1:a2=b2 <;> by_cases g2:a4=b4 <;> by_cases g3:a5=b5 <;> simp [g1,g2,g3]
 rw [e] at h;have hlC:a.Classes.length=b.Classes.length:=by omega
 have hlE:a.Externs.length=b.Externs.length:=by omega
 have hlF:a.Funcs.length=b.Funcs.length:=by omega
 refine bQ a.Classes b.Classes hlC _ KK _ (fun R i hl hi ih hF=>?_) (fun R h=>?_) h
 ·simp only [fj hi,if_true,Int.toNat_natCast]
  try dsimp +instances only [Int.toNat_natCast]
  have o1:(0:Int)<=(i:Int)/\i<a.Classes.length:=⟨We i,hi⟩
  have o2:=ob2 hi hlC
  simp only [o1,o2,and_self,true_and]; (try simp only [ac,aj,aq,jval,bor,band,bnand,bimp,and_self]);generalize a.Classes.getD i default=x at ih hF ⊢;generalize b.Classes.getD i default=y at ih hF ⊢;obtain ⟨x1,x2⟩:=x; obtain ⟨y1,y2⟩:=y
  grind
 ·simp only [gF,V9,if_false];refine bQ a.Externs b.Externs hlE _ KK _ (fun R i hl hi ih hF=>?_) (fun R h=>?_) h
  ·simp only [fj hi,if_true,Int.toNat_natCast]
   try dsimp +instances only [Int.toNat_natCast]
   refine ⟨⟨We i,hi⟩,ob2 hi hlE,?_⟩;rw [Mn]
   grind
  ·simp only [gF,V9,if_false];refine bQ a.Funcs b.Funcs hlF _ KK _ (fun R i hl hi ih hF=>?_) (fun R h=>?_) h
   ·simp only [fj hi,if_true,Int.toNat_natCast]
    try dsimp +instances only [Int.toNat_natCast]
    refine ⟨⟨We i,hi⟩,ob2 hi hlF,?_⟩
    grind
   ·simp only [gF,V9,if_false]; exact h
end Go.Am
end

section
namespace Go.Am
open Go
end Go.Am
end

section
namespace Go.Am
open Go
theorem MW (n:Int) (KK:Int->Prop) (h:KK (Lt.zH n)):Bg n KK:=by
 unfold Bg; (try simp only [ac,aj,aq,jval,bor,band,bnand,bimp,and_self]);refine kk h ?_;unfold Lt.zH; grind
theorem PK {n:Int} (h:Lt.inR n):Lt.zH n=(n.natAbs:Int):=by
 unfold Lt.inR at h;unfold Lt.zH;simp only [IntKind.wrap,IntKind.signed,IntKind.bits];split <;> simp <;> omega
theorem Ov (n:Int) (hp:Lt.gJ n) (KK:List UInt8->Prop) (h:KK (Lt.pU n)):Il n KK:=by
 unfold Lt.gJ at hp;unfold Il; (try simp only [ac,aj,aq,jval,bor,band,bnand,bimp,and_self]);rw [PK hp];have hdl:=yb 18 n.natAbs (by unfold Lt.inR at hp; omega)
 unfold Lt.inR at hp;intro J hJ;have hj:J (Lt.digs n.natAbs):=by
  refine hJ _ ?_;unfold Lt.pU Lt.aS at h;refine ifk (fun hc=>⟨?_,kk h ?_⟩) (fun hc=>kk h ?_)
  ·simp only [Wp,W0]; omega
  ·rw [if_pos (by simpa using hc)]
  ·rw [if_neg (by simpa using hc)]; rfl
 have step:∀ (m:Nat) (acc:List UInt8) (R:List UInt8×Int->Prop),m<=9223372036854775808->Lt.digs m++acc=Lt.digs n.natAbs->(¬ m < 10->R (UInt8.ofNat (48+m % 10)::acc,((m / 10:Nat):Int))) ->
   (10:Int)≠0/\(([UInt8.ofNat (IntKind.u8.wrap (IntKind.u64.wrap (48+Int.tmod (m:Int) 10))).toNat]:List UInt8).length+acc.length<=4611686018427387904/\(([UInt8.ofNat (IntKind.u8.wrap (IntKind.u64.wrap (48+Int.tmod (m:Int) 10))).toNat]:List UInt8).length+acc.length)*1<=140737488355328)/\(10:Int)≠0 /\
    if decide (IntKind.u64.wrap (Int.tdiv (m:Int) 10)=0)=true then J ([UInt8.ofNat (IntKind.u8.wrap (IntKind.u64.wrap (48+Int.tmod (m:Int) 10))).toNat]++acc)
    else R ([UInt8.ofNat (IntKind.u8.wrap (IntKind.u64.wrap (48+Int.tmod (m:Int) 10))).toNat]++acc,IntKind.u64.wrap (Int.tdiv (m:Int) 10)):=by
  intro m acc R hm e hR;have w:IntKind.u64.wrap (48+Int.tmod (m:Int) 10)=((48+m % 10:Nat):Int):=by
   rw [show (48+Int.tmod (m:Int) 10)=((48+m % 10:Nat):Int) from rfl];exact bL (by omega)
  have w2:UInt8.ofNat (IntKind.u8.wrap ((48+m % 10:Nat):Int)).toNat=UInt8.ofNat (48+m % 10):=by
   simp only [IntKind.wrap,IntKind.signed,IntKind.bits]
   congr 1
   simp;omega
  have w3:IntKind.u64.wrap (Int.tdiv (m:Int) 10)=((m / 10:Nat):Int):=by
   rw [show Int.tdiv (m:Int) 10=((m / 10:Nat):Int) from rfl];exact bL (by omega)
  have el:=congrArg List.length e
  rw [WA] at el;rw [w,w2,w3];refine ⟨by decide,⟨by simp only [Wp,W0]; omega,by simp only [Wp,W0]; omega⟩,by decide,?_⟩;refine ifk (fun hc=>?_) (fun hc=>?_)
  ·have h10:m < 10:=by
    simp only [decide_eq_true_eq] at hc; omega
   rw [da h10] at e;rw [Xn h10];rw [e]; exact hj
  ·exact hR (by simp only [decide_eq_true_eq] at hc; omega)
 refine bJ _ 20 (fun i x=>∃ (m:Nat) (acc:List UInt8),x=(acc,(m:Int))/\m < 10 ^ (20-i)/\m<=9223372036854775808/\Lt.digs m++acc=Lt.digs n.natAbs) (fun R i x hi hP hR=>?_) (fun R x hP=>?_) _ ⟨n.natAbs,[],rfl,by omega,by omega,by simp⟩
 ·obtain ⟨m,acc,rfl,hm,hm2,e⟩:=hP;refine step m acc R hm2 e (fun h10=>hR _ ⟨m / 10,_,rfl,?_,by omega,?_⟩)
  ·rw [show 20-i=(20 - (i+1))+1 by omega,Nat.pow_succ] at hm;omega
  ·rw [iY h10] at e;rw [<- e]; simp
 ·obtain ⟨m,acc,rfl,hm,hm2,e⟩:=hP;exact step m acc R hm2 e (fun h10=>absurd hm (by omega))
theorem u8w (y:Int):(((UInt8.ofNat (IntKind.u8.wrap y).toNat).toNat:Nat):Int)=IntKind.u8.wrap y:=by
 simp only [IntKind.wrap,IntKind.signed,IntKind.bits,UInt8.toNat_ofNat'];simp;omega
theorem P1 (n:Int) (KK:List UInt8->Prop) (h:KK (Lt.jR n)):IF n KK:=by
 unfold IF; (try simp only [ac,aj,aq,jval,bor,band,bnand,bimp,and_self]);unfold Lt.jR at h;have hb:∀ x:Int,(if decide ((((UInt8.ofNat (IntKind.u8.wrap (Int.tmod x 16)).toNat).toNat:Nat):Int) < (((10:UInt8).toNat:Nat):Int))=true then UInt8.ofNat (IntKind.u8.wrap ((((UInt8.ofNat (IntKind.u8.wrap (Int.tmod x 16)).toNat).toNat:Nat):Int)+(((48:UInt8).toNat:Nat):Int))).toNat
   else UInt8.ofNat (IntKind.u8.wrap ((((UInt8.ofNat (IntKind.u8.wrap (Int.tmod x 16)).toNat).toNat:Nat):Int)+(((87:UInt8).toNat:Nat):Int))).toNat)=Lt.Oa x:=by
  intro x;rw [u8w];have e10:(((10:UInt8).toNat:Nat):Int)=10:=rfl
  have e48:(((48:UInt8).toNat:Nat):Int)=48:=rfl
  have e87:(((87:UInt8).toNat:Nat):Int)=87:=rfl
  rw [e10,e48,e87];unfold Lt.Oa;by_cases hc:IntKind.u8.wrap (Int.tmod x 16) < 10
  ·rw [if_pos (by simpa using hc),if_pos hc]
  ·rw [if_neg (by simpa using hc),if_neg hc]
 refine bJ _ 16 (fun i x=>∃ (y:Int) (acc:List UInt8),x=(y,acc,(i:Int))/\acc.length=i/\Lt.g9 (16-i) y acc=Lt.g9 16 (IntKind.u64.wrap (Lt.bi n)) []) (fun R i x hi hP hR=>?_) (fun R x hP=>?_) _ ⟨_,[],rfl,rfl,rfl⟩
 ·obtain ⟨y,acc,rfl,hl,e⟩:=hP;have hd:decide ((i:Int) < 16)=true:=by simp; omega
  dsimp only;rw [hb,if_pos hd];refine ⟨by decide,⟨by simp only [Wp,W0]; omega,by simp only [Wp,W0]; omega⟩,by decide,hR _ ⟨_,_,by rw [aQ (by omega)],by simp [hl],?_⟩⟩;rw [show 16-i=(16 - (i+1))+1 by omega,Lt.g9] at e;exact e
 ·obtain ⟨y,acc,rfl,hl,e⟩:=hP;have hd:decide (((16:Nat):Int) < 16)=false:=by decide
  dsimp only;rw [if_neg (by rw [hd]; exact Bool.false_ne_true)];refine ⟨by simp only [Wp,W0]; omega,?_⟩;rw [show 16 - 16=0 from rfl,Lt.g9] at e;rw [e]; exact h
theorem Ii (n:Int) (KK:Bool->Prop) (h:KK (Lt.oH n)):xJ n KK:=by
 unfold xJ; (try simp only [ac,aj,aq,jval,bor,band,bnand,bimp,and_self]);exact ⟨by decide,h⟩
theorem G1 (n:Int) (KK:Int->Prop) (h:KK (Lt.bi n)):xz n KK:=by
 unfold xz; (try simp only [ac,aj,aq,jval,bor,band,bnand,bimp,and_self]); exact h
theorem GY (a:Lt.Arg) (KK:Bool->Prop) (h:KK (Lt.fX a)):vo a KK:=by
 unfold vo; dsimp only; (try simp only [ac,aj,aq,jval,bor,band,bnand,bimp,and_self]);refine kk h ?_;unfold Lt.fX;obtain ⟨k,s,n⟩:=a;dsimp only;by_cases k1:k=1
 ·subst k1; simp
 by_cases k2:k=2
 ·subst k2; by_cases hs:s=[] <;> simp [hs]
 by_cases k3:k=3
 ·subst k3; by_cases hs:s=[] <;> simp [hs]
 by_cases k4:k=4
 ·subst k4; by_cases hs:s=[] <;> simp [hs]
 by_cases k5:k=5
 ·subst k5; by_cases hs:s=[] <;> simp [hs,Bool.and_assoc]
 have:k < 1\/5<k:=by omega
 have e:(decide (k < 1)||decide (5<k))=true:=by simpa using this
 grind
theorem MF (s:List UInt8) (KK:Bool->Prop) (h:KK (Lt.az s)):Bj s KK:=by
 unfold Bj; dsimp only; (try simp only [ac,aj,aq,jval,bor,band,bnand,bimp,and_self]);by_cases hl:s.length<=LEN
 rotate_left
 ·exact ⟨1,fun h=>absurd h hl⟩
 refine bJ _ s.length (fun i x=>x=(i:Int)/\∀ j,j<i->Lt.lj j (s.getD j 0)=true) (fun R i x hi hP hR=>?_) (fun R x hP=>?_) _ ⟨rfl,by omega⟩
 ·obtain ⟨rfl,hP⟩:=hP;simp only [fj hi,if_true,Int.toNat_natCast]
  try dsimp +instances only [Int.toNat_natCast]
  intro _;refine ⟨⟨We i,hi⟩,?_⟩;have key:Lt.lj i (s.getD i 0)=true->R (IntKind.i64.wrap ((i:Int)+1)):=fun hc=>hR _ ⟨by rw [aQ (by unfold LEN at hl; omega)],fun j hj=>by
   by_cases e:j=i
   ·rw [e]; exact hc
   ·exact hP j (by omega)⟩
  have key2:Lt.lj i (s.getD i 0)=false->KK false:=fun hc=>by
   have:Lt.az s=false:=by
    unfold Lt.az;rw [Xx];refine .inl ?_;rw [List.all_eq_false];exact ⟨i,by simpa using hi,by rw [hc]; exact Bool.false_ne_true⟩
   rw [this] at h; exact h
  unfold Lt.lj at key key2;clear hP hR h;generalize s.getD i 0=c at key key2 ⊢;have e48:(((48:UInt8).toNat:Nat):Int)=48:=rfl
  have e57:(((57:UInt8).toNat:Nat):Int)=57:=rfl
  have e95:(((95:UInt8).toNat:Nat):Int)=95:=rfl
  have e65:(((65:UInt8).toNat:Nat):Int)=65:=rfl
  have e90:(((90:UInt8).toNat:Nat):Int)=90:=rfl
  have e97:(((97:UInt8).toNat:Nat):Int)=97:=rfl
  have e122:(((122:UInt8).toNat:Nat):Int)=122:=rfl
  simp only [e48,e57,e95,e65,e90,e97,e122];generalize ((c.toNat:Nat):Int)=z at key key2 ⊢
  grind
 ·obtain ⟨rfl,hP⟩:=hP;intro _;simp only [gF,V9,if_false];intro _;refine kk h ?_;have:(List.range s.length).all (fun i=>Lt.lj i (s.getD i 0))=true:=by
   rw [Wj];intro j hj;exact hP j (by simpa using hj)
  unfold Lt.az;rw [this,Wv];simp only [Bool.and_assoc]
theorem Mc (a:Lt.Arg) (hp:Lt.jV a) (KK:List UInt8->Prop) (h:KK (Lt.mJ a)):BF a KK:=by
 unfold BF; (try simp only [ac,aj,aq,jval,bor,band,bnand,bimp,and_self]); unfold Lt.mJ at h;unfold Lt.jV Lt.Arg.ok at hp;have hq:Lt.gJ a.N:=hp
 have:=pz hp
 have e:(35::Lt.pU a.N).length<=4611686018427387904:=by simp only [Wp,Lt.pU]; omega
 grind
theorem RW (n:Int) (KK:Lt.RForm×Bool->Prop) (h:KK (Lt.rOf n)):J0 n KK:=by
 by_cases hr:n < 1\/34<n
 ·unfold J0 Lt.rOf at *;rw [if_pos hr] at h;simp only [ac,jval,bor];rw [if_pos (by simpa using hr)];exact h
 ·have:n=1\/n=2\/n=3\/n=4\/n=5\/n=6\/n=7\/n=8\/n=9\/n=10\/n=11\/n=12\/n=13\/n=14\/n=15\/n=16\/n=17\/n=18\/n=19\/n=20\/n=21\/n=22\/n=23\/n=24\/n=25\/n=26\/n=27\/n=28\/n=29\/n=30\/n=31\/n=32\/n=33\/n=34:=by omega
  rcases this with rfl | rfl | rfl | rfl | rfl | rfl | rfl | rfl | rfl | rfl | rfl | rfl | rfl | rfl | rfl | rfl | rfl | rfl | rfl | rfl | rfl | rfl | rfl | rfl | rfl | rfl | rfl | rfl | rfl | rfl | rfl | rfl | rfl | rfl
  all_goals
   simp [Lt.rOf] at h;simp [J0,ac,gw];exact h
end Go.Am
end

section
namespace Go.Am
open Go
end Go.Am
end

section
namespace Go.Am
open Go
theorem qB {α:Type} {P:Prop} {body:(α->Prop)->α->Prop} {x:α} (h:P->ba body x):ba (fun R v=>P->body R v) x:=by
 by_cases hp:P
 ·have e:(fun (R:α->Prop) (v:α)=>P->body R v)=body:=by
   funext R v
   exact propext ⟨fun h=>h hp,fun h _=>h⟩
  rw [e]; exact h hp
 ·exact ⟨1,fun h=>absurd h hp⟩
theorem MB (n:Int) (KK:Int->Prop) (h:KK (Lt.pJ n)):JG n KK:=h
theorem Jo (n most:Int) (KK:Int->Prop) (h:KK (Lt.bN n most)):uX n most KK:=by
 unfold uX;unfold Lt.bN at h;refine ifk (fun hc=>?_) (fun hc=>?_)
 ·simpa [show most<=n by simpa using hc] using h
 ·simpa [show ¬ most<=n by simpa using hc] using h
theorem L3 (w:List UInt8) (KK:Bool->Prop) (h:KK (Lt.iI w)):BM w KK:=by
 unfold BM; (try simp only [ac,aj,aq,ay,aV,jval,bor,band,bnand,bimp,and_self]);refine kk h ?_;unfold Lt.iI
 grind
theorem GZ (l:List (List UInt8)) (KK:Bool->Prop) (h:KK (Lt.dy l)):wA l KK:=by
 unfold wA;refine qB (fun hl=>Dc l hl Lt.az true KK _ (fun R i hi ih hF=>?_) (fun R h=>?_) (kk h (by unfold Lt.dy; simp)))
 ·simp only [fj hi,if_true,Int.toNat_natCast];refine ⟨⟨We i,hi⟩,?_⟩
  grind
 ·simp only [gF,V9,if_false]; exact h
theorem G0 (l:List (List UInt8)) (KK:Bool->Prop) (h:KK (Lt.bM l)):xD l KK:=by
 unfold xD; (try simp only [ac,aj,aq,jval,bor,band,bnand,bimp,and_self,fv,lk,lD]);refine fun hl=>⟨fun hc=>⟨Int.le_refl 0 |> fun _=>by decide,by grind⟩,?_⟩
 refine ⟨fun _ _=>⟨by decide,by grind⟩,kk h ?_⟩;unfold Lt.bM Lt.dy;have d:(default:List UInt8)=[]:=rfl
 grind
theorem Sf (w:List UInt8) (KK:Int×Bool->Prop) (h:KK (Lt.sOp w)):OE w KK:=by
 unfold OE;have hg:gw.length=35:=rfl
 have key:∀ k i,i+k=35->KK (Lt.Cf w (gw.drop i) (i:Int))->lR (fun (R1:Int->Prop) v2=>if (decide (v2<=34))=true then (((0:Int)<=v2/\v2 < ((35:Nat):Int))/\v2.toNat<gw.length/\if (decide ((gw.getD v2.toNat default)=w))=true then (KK (v2,true)) else (R1 (IntKind.i64.wrap (v2+1)))) else (KK (0,false))) (k+1) (i:Int):=by
  intro k;induction k with
  | zero=>
   intro i hi h;have e:i=35:=by omega
   subst e;exact h
  | succ k ih=>
   intro i hi h;have hlt:i<gw.length:=by omega
   rw [Wm hlt] at h;have e:gw.getD i default=gw[i]:=by rw [List.getD,V8 hlt]; rfl
   rw [<- e] at h;show (if (decide ((i:Int)<=34))=true then _ else _)
   rw [if_pos (by simp; omega)];simp only [Int.toNat_natCast];refine ⟨⟨by omega,by omega⟩,hlt,?_⟩;simp only [Lt.Cf] at h;refine ifk (fun hc=>?_) (fun hc=>?_)
   ·rw [if_pos (by simpa using hc)] at h; exact h
   ·rw [if_neg (by simpa using hc)] at h;rw [aQ (by omega)];exact ih (i+1) (by omega) (by simpa using h)
 exact ⟨35,key 34 1 rfl h⟩
theorem fL {α β:Type} (f:β->α->β) (b:β) (l:List α) (x:α):(l++[x]).foldl f b=f (l.foldl f b) x:=by simp
theorem M4 (s:List UInt8) (i:Nat) (hi:i<s.length) (h30:i < 30) :
  (if s.getD 0 0=45 then ((s.take (i+1)).drop 1).foldl Lt.gq 0 else (s.take (i+1)).foldl Lt.gq 0) =
  (if i=0/\s.getD 0 0=45 then (if s.getD 0 0=45 then ((s.take i).drop 1).foldl Lt.gq 0 else (s.take i).foldl Lt.gq 0)
   else Lt.gq (if s.getD 0 0=45 then ((s.take i).drop 1).foldl Lt.gq 0 else (s.take i).foldl Lt.gq 0) (s.getD i 0)):=by
 have e:s.take (i+1)=s.take i++[s.getD i 0]:=dZ s hi
 by_cases h45:s.getD 0 0=45
 ·simp only [h45,if_true,and_true];cases i with
  | zero=>simp
  | succ i=>
   rw [if_neg (by omega),e];have hl:1<=(s.take (i+1)).length:=by rw [Xc]; omega
   rw [List.drop_append_of_le_length hl,fL]
 ·simp only [h45,if_false,and_false];rw [e,fL]
theorem kI (n:Int):Lt.inR (Lt.pJ n):=by
 have:=wf_wrap (k:=.i64) n
 simp only [Lit.wf,V7,decide_eq_true_eq] at this;have h1:IntKind.i64.min=-9223372036854775808:=by decide
 have h2:IntKind.i64.max=9223372036854775807:=by decide
 rw [h1,h2] at this;unfold Lt.inR Lt.pJ;omega
theorem OR (s:List UInt8) (KK:Int×Bool->Prop) (h:KK (Lt.aD s)):IR s KK:=by
 unfold IR; (try simp only [ac,aj,aq,jval,bor,band,bnand,bimp,and_self,fv,lk,lD]);refine qB (fun hl=>?_);have hb:∀ c:UInt8,decide ((((c.toNat:Nat):Int))=(((45:UInt8).toNat:Nat):Int))=decide (c=45):=fun c=>by
  by_cases hc:c=45
  ·subst hc; rfl
  ·have:c.toNat≠(45:UInt8).toNat:=fun e=>hc (UInt8.toNat_inj.1 e)
   simp only [hc,decide_false,decide_eq_false_iff_not]; omega
 simp only [hb];obtain ⟨g,hg0,hgs,hge⟩:∃ g:Nat->Int,g 0=0/\(∀ i,i<s.length->i < 30->g (i+1)=if i=0/\s.getD 0 0=45 then g i else Lt.gq (g i) (s.getD i 0))/\g (min s.length 30)=Lt.Al s:=by
  refine ⟨fun i=>if s.getD 0 0=45 then ((s.take i).drop 1).foldl Lt.gq 0 else (s.take i).foldl Lt.gq 0,by simp,fun i h1 h2=>M4 s i h1 h2,?_⟩;have e:s.take (min s.length 30)=s.take 30:=by
   rcases Nat.le_total s.length 30 with h | h
   ·rw [Nat.min_eq_left h,XQ,Wu h]
   ·rw [Nat.min_eq_right h]
  simp only [e]; rfl
 refine PZ (min s.length 30) (by unfold LEN; omega) g _ (fun R i hi hR=>?_) (fun R=>?_) hg0
 ·have h1:i<s.length:=by omega
  have h2:i < 30:=by omega
  have e:=hgs i h1 h2
  have hi30:decide ((i:Int) < 30)=true:=by simp; omega
  have hi0:decide ((i:Int)=0)=decide (i=0):=by simp
  simp only [fj h1,if_true,Wv,hi30,Int.toNat_natCast,hi0];refine ⟨fun _ _=>⟨by decide,by omega⟩,fun _ _=>⟨We i,h1⟩,?_⟩;rw [e] at hR;refine kk hR ?_;by_cases hi0:i=0 <;> by_cases h45:s.getD 0 0=45 <;> simp [hi0,h45,Lt.gq]
 ·have hend:(decide (((min s.length 30:Nat):Int) < (s.length:Int))&&decide (((min s.length 30:Nat):Int) < 30))=false:=by
   rw [Xx];rcases Nat.le_total s.length 30 with h | h
   ·left; simp; omega
   ·right; simp; omega
  simp only [hend,V9,if_false];refine ⟨fun h=>h.elim,fun h=>h.elim,fun _=>⟨fun hc=>⟨by decide,by simpa using hc⟩,?_⟩⟩;have e2:(if (decide (0 < (s.length:Int))&&decide (s.getD 0 0=45))=true then IntKind.u64.wrap (0-g (min s.length 30)) else g (min s.length 30))=(if s.getD 0 0=45 then IntKind.u64.wrap (0-Lt.Al s) else Lt.Al s):=by
   rw [hge];cases s with
   | nil=>simp
   | cons a r=>simp
  rw [e2];refine ⟨kI _,?_⟩;refine kk h ?_;unfold Lt.aD Lt.D9
  grind
end Go.Am
end

section
namespace Go.Am
open Go
theorem Iu (s:List UInt8) {i:Nat} (h:i+2<s.length):(s.drop 2).take (i+1)=(s.drop 2).take i++[s.getD (i+2) 0]:=by
 have h1:i < (s.drop 2).length:=by rw [Wi]; omega
 have e:(s.drop 2).getD i default=s.getD (i+2) 0:=by
  rw [List.getD,List.getD,Wt,Nat.add_comm]; rfl
 rw [dZ _ h1,e]
theorem Oe (s:List UInt8) (KK:Int×Bool->Prop) (h:KK (Lt.eD s)):GT s KK:=by
 unfold GT; (try simp only [ac,aj,aq,jval,bor,band,bnand,bimp,and_self,fv,lk,lD]);refine fun hl=>ifk (fun hc=>?_) (fun hc=>?_)
 ·refine kk h ?_;have:¬ s.length=18:=by simp only [WH,decide_eq_false_iff_not] at hc; omega
  unfold Lt.eD;rw [if_neg (by simp [this])]
 ·have h18:s.length=18:=by simp only [WH,decide_eq_false_iff_not,Decidable.not_not] at hc; omega
  refine bJ _ 16 (fun i x=>x=(((s.drop 2).take i).foldl Lt.wO 0,((i+2:Nat):Int))) (fun R i x hi hx hR=>?_) (fun R x hx=>?_) _ rfl
  ·subst hx;have h1:i+2<s.length:=by omega
   have e:=Iu s h1
   have hc:(decide (((i+2:Nat):Int) < 18))=true:=by simp; omega
   simp only [hc,if_true,Int.toNat_natCast];refine ⟨fun _=>⟨We _,h1⟩,fun _=>by decide,?_⟩;refine hR _ ?_;rw [e,fL,aQ (by omega)];simp [Lt.wO];omega
  ·subst hx;simp only [show (decide (((16+2:Nat):Int) < 18))=false from rfl,V9,if_false];refine ⟨fun h=>h.elim,fun h=>h.elim,kk h ?_⟩;unfold Lt.eD Lt.yZ;simp only [h18,true_and]
   grind
theorem JD:Lt.inR 0:=by unfold Lt.inR; omega
theorem Le (s:List UInt8):Lt.inR (Lt.aD s).1:=by
 unfold Lt.aD; split
 ·exact kI _
 ·exact JD
theorem QZ (s:List UInt8):Lt.inR (Lt.eD s).1:=by
 unfold Lt.eD; split
 ·exact kI _
 ·exact JD
theorem VE (c w:Bool) (A B:Prop):(if c=true then (if w=true then A else B) else B)=(if (c&&w)=true then A else B):=by
 cases c <;> cases w <;> rfl
theorem Pk (s:List UInt8) (KK:Lt.Arg×Bool->Prop) (h:KK (Lt.cM s)):Is s KK:=by
 have hp:∀ k n,Lt.inR n->Lt.jV ⟨k,[],n⟩:=fun _ _ h=>h
 have hp1:Lt.jV ⟨1,s,0⟩:=JD
 have n1:=hp 2 _ (Le s)
 have n2:=hp 3 _ (QZ s)
 have n3:=hp 5 _ (Le (s.drop 1))
 have n4:=hp 4 _ JD
 unfold Is; dsimp only;intro J1 hJ1 hl;have hJ:=hJ1 (s.drop 1) ?_
 ·cases s with
  | nil=>exact hJ
  | cons a r=>
   rw [if_pos (by simp)];refine ⟨by decide,⟨by simp,by simp⟩,?_⟩;simpa using hJ
 ·have b0:((0:Int)<=0/\(0:Int) < ((5:Nat):Int))=True:=by decide
  have b1:((0:Int)<=1/\(1:Int) < ((5:Nat):Int))=True:=by decide
  have b2:((0:Int)<=2/\(2:Int) < ((5:Nat):Int))=True:=by decide
  have b3:((0:Int)<=3/\(3:Int) < ((5:Nat):Int))=True:=by decide
  have b4:((0:Int)<=4/\(4:Int) < ((5:Nat):Int))=True:=by decide
  simp only [ac,aj,aV,ay,b0,b1,b2,b3,b4,show (decide ((0:Int) < 5))=true from rfl,show (decide ((1:Int) < 5))=true from rfl,show (decide ((2:Int) < 5))=true from rfl,show (decide ((3:Int) < 5))=true from rfl,show (decide ((4:Int) < 5))=true from rfl,show (decide ((5:Int) < 5))=false from rfl,if_true,V9,if_false,hp1,n1,n2,n3,n4,true_and,VE];unfold Lt.cM Lt.qO at h;simpa only [apply_ite KK] using h
end Go.Am
end

section
namespace Go.Am
open Go
theorem MG (l:List (List UInt8)) (objs:Bool) (hp:Lt.bU l objs) (KK:List Lt.Arg×Bool->Prop) (h:KK (Lt.aT l objs)):Bu l objs KK:=by
 unfold Bu; (try simp only [ac,aj,aq,jval,bor,band,bnand,bimp,and_self]);have hr:l.length<=1099511627776:=hp
 refine qB (fun hl=>?_);refine bJ _ l.length (fun i x=>x=((l.take i).map (fun w=>(Lt.cM w).1),(i:Int))/\(l.take i).all (Lt.bZ objs)=true) (fun R i x hlt hx hR=>?_) (fun R x hx=>?_) _ ⟨rfl,rfl⟩
 ·obtain ⟨rfl,hh⟩:=hx;simp only [fj hlt,if_true,Int.toNat_natCast];refine ⟨⟨We i,hlt⟩,?_⟩;refine ifk (fun hc=>?_) (fun hc=>?_)
  ·refine kk h ?_;have hn:l.all (Lt.bZ objs)=false:=by
    rw [List.all_eq_false];refine ⟨_,iH l hlt,?_⟩;unfold Lt.bZ
    grind
   unfold Lt.aT; rw [hn]; rfl
  ·refine ⟨⟨?_,?_⟩,?_⟩
   ·simp only [Wc,Xc,Wf]; omega
   ·simp only [Wc,Xc,Wf]; omega
   ·have e:=dZ l hlt
    refine hR _ ⟨?_,?_⟩
    ·rw [aQ (by omega),e,Xb]; rfl
    ·rw [e,WU,hh];unfold Lt.bZ;simp only [Wl,Xh]
     grind
 ·obtain ⟨rfl,hh⟩:=hx;rw [XQ] at hh ⊢;unfold Lt.aT at h;rw [if_pos hh] at h;simp only [gF,V9,if_false];exact h
theorem vK (l:List (List UInt8)) {i:Nat} (h:i+1<l.length):(l.drop (i+1)).take (i+2 - (i+1))=[l.getD (i+1) default]:=by
 have e:i+2 - (i+1)=1:=by omega
 rw [e,Wm h,List.getD,V8 h]; rfl
theorem rW (w:List UInt8) (objs:Bool):Lt.aT [w] objs=if Lt.bZ objs w=true then ([(Lt.cM w).1],true) else ([],false):=by
 unfold Lt.aT;by_cases h:Lt.bZ objs w=true <;> simp [h]
theorem aR (w:List UInt8):Lt.dy [w]=Lt.az w:=by simp [Lt.dy]
theorem eI (v w:List UInt8):Lt.dy [v,w]=(Lt.az v&&Lt.az w):=by simp [Lt.dy]
theorem zK (objs:Bool):∀ (l:List (List UInt8)),l.length % 2=1->Lt.bk objs l=none
 | [],h=>by simp at h
 | [_],_=>rfl
 | a::b::r,h=>by
  have:=zK objs r (by simp only [Wp] at h; omega)
  rw [Lt.bk,this]; split <;> rfl
theorem Ih (l:List (List UInt8)) (f:Int) (objs:Bool) (hp:Lt.j5 l f objs) (KK:List Lt.Bind×Bool->Prop) (h:KK (Lt.al l f objs)):vA l f objs KK:=by
 obtain ⟨hr,hf0,hf4⟩:=hp;have hr:l.length<=1099511627776:=hr
 obtain ⟨n,rfl⟩:=XI hf0;unfold vA; dsimp only;rw [show ((n:Nat):Int)=(Int.ofNat n) from rfl] at *;have tm:∀ k:Nat,Int.tmod (k:Int) 2=((k % 2:Nat):Int):=fun k=>by rw [Int.tmod_eq_emod_of_nonneg (by omega)]; rfl
 intro J1 hJ1 hl;have hB:=hJ1 (decide ((l.length:Int)<Int.ofNat n)||!decide (Int.tmod (IntKind.i64.wrap ((l.length:Int)-Int.ofNat n)) 2=0)) ?_
 ·refine ifk (fun hc=>?_) (fun hc=>⟨by decide,?_⟩)
  ·rw [hc] at hB; exact hB
  ·rw [Wn.2 hc] at hB; exact hB
 simp only [ac,aj,aq,jval,bor,aR];refine ifk (fun hc=>?_) (fun hc=>?_)
 ·refine kk h ?_;unfold Lt.al;by_cases h1:(l.length:Int)<Int.ofNat n
  ·rw [if_pos h1]
  ·rw [if_neg h1];have h1:n<=l.length:=by simp at h1; omega
   have h2:(l.length-n) % 2=1:=by
    simp only [Wq,decide_eq_true_eq,WH,decide_eq_false_iff_not] at hc;rcases hc with hc | hc
    ·simp at hc; omega
    ·rw [wrap_i64 (by simp; omega) (by simp; omega)] at hc;rw [show ((l.length:Int)-Int.ofNat n)=((l.length-n:Nat):Int) from by simp; omega,tm] at hc;omega
   rw [show (Int.ofNat n).toNat=n from rfl,zK objs (l.drop n) (by rw [Wi]; exact h2)]
 ·simp only [Wq,decide_eq_true_eq,WH,decide_eq_false_iff_not,not_or,Decidable.not_not] at hc;obtain ⟨h1,h2⟩:=hc;have h1:n<=l.length:=by simp at h1; omega
  rw [wrap_i64 (by simp; omega) (by simp; omega)] at h2;rw [show ((l.length:Int)-Int.ofNat n)=((l.length-n:Nat):Int) from by simp; omega,tm] at h2;have h2:(l.length-n) % 2=0:=by omega
  obtain ⟨m,hm⟩:∃ m,l.length=n+2*m:=⟨(l.length-n) / 2,by omega⟩
  have hs:Lt.al l (Int.ofNat n) objs=match Lt.bk objs (l.drop n) with | some x=>(x,true) | none=>([],false):=by
   unfold Lt.al; rw [if_neg (by simp; omega)]; rfl
  refine bJ _ m (fun i x=>∃ acc:List Lt.Bind,x=(acc,((n+2*i:Nat):Int))/\acc.length<=i/\Lt.bk objs (l.drop n)=(Lt.bk objs (l.drop (n+2*i))).map (acc++·)) (fun R i x hi hx hR=>?_) (fun R x hx=>?_) _ ⟨[],rfl,by simp,by simp⟩
  ·obtain ⟨acc,rfl,ha,hx⟩:=hx;have h3:n+2*i+1<l.length:=by omega
   have h4:n+2*i<l.length:=by omega
   have w1:IntKind.i64.wrap (((n+2*i:Nat):Int)+1)=((n+2*i+1:Nat):Int):=aQ (by omega)
   have w2:IntKind.i64.wrap (((n+2*i:Nat):Int)+2)=((n+2*i+2:Nat):Int):=by rw [wrap_i64 (by omega) (by omega)]; rfl
   have hd:l.drop (n+2*i)=l.getD (n+2*i) default::l.getD (n+2*i+1) default::l.drop (n+2*(i+1)):=by
    rw [Wm h4,Wm h3];rw [List.getD,List.getD,V8 h4,V8 h3]; rfl
   simp only [w1,w2,fj h4,if_true,Int.toNat_natCast,vK l h3];rw [hd,Lt.bk] at hx;rw [rW];refine fun hl=>⟨by omega,by omega,⟨by omega,by omega⟩,?_,⟨by omega,h4⟩,?_⟩
   ·show 1<=Lt.room
    decide
   by_cases hh:(Lt.az (l.getD (n+2*i) default)&&Lt.bZ objs (l.getD (n+2*i+1) default))=true
   ·rw [if_pos hh] at hx;simp only [V7] at hh;rw [if_pos hh.2,hh.1];simp only [WE,Xg,V9,if_false];refine ⟨⟨by omega,h4⟩,⟨by decide,by simp⟩,⟨⟨by simp; omega,by simp; omega⟩,?_⟩⟩;refine hR _ ⟨_,rfl,by simp; omega,?_⟩;rw [hx];cases Lt.bk objs (l.drop (n+2*(i+1))) <;> simp
   ·rw [if_neg hh] at hx;rw [if_pos ?_]
    ·refine kk h ?_;rw [hs,hx]; rfl
    ·by_cases ha:Lt.bZ objs (l.getD (n+2*i+1) default)=true <;> grind
  ·obtain ⟨acc,rfl,ha,hx⟩:=hx;rw [<- hm] at hx ⊢;simp only [gF,V9,if_false];refine fun _=>kk h ?_
   rw [hs,hx,Xd];simp [Lt.bk]
end Go.Am
end

section
namespace Go.Am
open Go
theorem iZ {l:List (List UInt8)} (h:Lt.bM l=true):l.length=3:=by
 unfold Lt.bM at h;simp only [V7,decide_eq_true_eq] at h;exact h.1
theorem kC {l:List Lt.Var} {k:Nat} (h:Lt.typed l k=true):l.length<=k:=by
 unfold Lt.typed at h;simp only [V7,decide_eq_true_eq] at h;omega
theorem dM (n most:Int):(Lt.bN n most=0)=(n<most):=by
 unfold Lt.bN;by_cases h:most<=n <;> simp [h] <;> omega
theorem eB {n c:Nat} (h:n<=5000) (hc:c<=200):(n+1<=4611686018427387904/\(n+1)*c<=140737488355328)=True:=by
 have:(n+1)*c<=5001*200:=Nat.mul_le_mul (by omega) hc
 simp; omega
theorem jJ {l:List (List UInt8)} (h:1<l.length):((0:Int)<=1/\1<l.length)=True:=by simp [h]
theorem oV {l:List (List UInt8)} (h:2<l.length):((0:Int)<=2/\2<l.length)=True:=by simp [h]
theorem aK {α:Type} {l:List α} (h:l≠[]) (h8:l.length<=5000):IntKind.i64.wrap ((l.length:Int) - 1)=((l.length - 1:Nat):Int):=by
 have:0<l.length:=WK.2 h
 rw [wrap_i64 (by omega) (by omega)]; omega
theorem bv {α:Type} {l:List α} (h:l≠[]):(l.length - 1<l.length)=True:=by
 have:0<l.length:=WK.2 h
 simp; omega
theorem bu {α:Type} {l:List α} (h:l≠[]):((0:Int)<=((l.length - 1:Nat):Int)/\((l.length - 1:Nat):Int) < (l.length:Int))=True:=by
 have:0<l.length:=WK.2 h
 simp; omega
theorem Pf {α:Type} [Inhabited α] {l:List α} {p:α->Bool} (h:l.all p=true) (hn:l≠[]):p (l.getD (l.length - 1) default)=true:=by
 have:0<l.length:=WK.2 hn
 exact Wj.1 h _ (iH l (by omega))
theorem Gj (r:Lt.Read) (l:List (List UInt8)) (hp:Lt.dj r l) (KK:((Bool×Int)×Lt.Read)->Prop) (h:KK (Lt.bD r l)):vC r l KK:=by
 obtain ⟨hi,hl,hr⟩:=hp;have hr:l.length<=1099511627776:=hr
 have h0:0<l.length:=WK.2 hl
 obtain ⟨hw,⟨hc1,hc2,hc3⟩,⟨hg,hcl,hex⟩,h1,h2,h3⟩:=hi;have hg8:=kC (k:=8) hg
 have a1:=@eB r.P.Classes.length
 unfold vC; dsimp only;unfold Lt.bD at h;refine ⟨⟨by decide,h0⟩,?_⟩;refine ifk (fun hc=>?_) (fun hc=>?_)
 ·rw [if_pos (by simpa using hc)] at h;simp only [ac,aj,aq,aV,ay,jval,bor,band,bnand,bimp,and_self,fv,lk,lD,aR,WE,V9,if_false,dM];refine ⟨by grind,by grind,ifk (fun hb=>kk h ?_) (fun hb _=>⟨by grind,fun _=>⟨by simp; omega,by simp; omega⟩,kk h ?_⟩)⟩
  ·unfold Lt.eP; grind
  ·unfold Lt.eP Lt.bN; grind
 ·rw [if_neg (by simpa using hc)] at h;refine ifk (fun hc=>?_) (fun hc=>?_)
  ·rw [if_pos (by simpa using hc)] at h;simp only [ac,aj,aq,aV,ay,jval,bor,band,bnand,bimp,and_self,fv,lk,lD,aR,WE,V9,if_false,dM];refine ifk (fun hb=>kk h ?_) (fun hb=>?_)
   ·unfold Lt.fD; grind
   ·simp only [Wq,WH,decide_eq_false_iff_not,not_or,Decidable.not_not,Wy] at hb;have hne:=h1 hb.1
    have h3l:=iZ hb.2
    have hf:=kC (k:=8) (V7 _ _ ▸ Pf hcl hne:_/\_).2
    have hcc:r.P.Classes.length<=5000:=by omega
    simp only [aK hne hcc,bv hne,bu hne,Int.toNat_natCast,jJ (l:=l) (by omega),oV (l:=l) (by omega),implies_true,true_and,Wf,eB (show (r.P.Classes.getD (r.P.Classes.length - 1) default).Fields.length<=5000 by omega) (show 32<=200 by omega)];refine fun _ _=>kk h ?_
    unfold Lt.fD Lt.bN Lt.last
    grind
  rw [if_neg (by simpa using hc)] at h;refine ifk (fun hc=>?_) (fun hc=>?_)
  ·rw [if_pos (by simpa using hc)] at h;simp only [ac,aj,aq,aV,ay,jval,bor,band,bnand,bimp,and_self,fv,lk,lD,aR,WE,V9,if_false,dM];refine ifk (fun hb=>kk h ?_) (fun hb=>?_)
   ·unfold Lt.dB; grind
   ·have h3l:l.length=3:=iZ (by grind)
    simp only [jJ (l:=l) (by omega),oV (l:=l) (by omega),implies_true,true_and,Wf,eB (show r.P.Globals.length<=5000 by omega) (show 32<=200 by omega)];refine fun _=>kk h ?_
    unfold Lt.dB Lt.bN
    grind
  rw [if_neg (by simpa using hc)] at h;refine ifk (fun hc=>?_) (fun hc=>?_)
  ·rw [if_pos (by simpa using hc)] at h;simp only [ac,aj,aq,aV,ay,jval,bor,band,bnand,bimp,and_self,fv,lk,lD,aR,WE,V9,if_false,dM];refine ⟨by grind,by grind,by grind,ifk (fun hb=>kk h ?_) (fun hb=>?_)⟩
   ·unfold Lt.dg; grind
   ·have h3l:l.length=3:=by grind
    refine ifk (fun hb=>kk h ?_) (fun hb=>?_)
    ·unfold Lt.dg; grind
    simp only [jJ (l:=l) (by omega),oV (l:=l) (by omega),implies_true,true_and,Wf,eB (show r.P.Externs.length<=5000 by omega) (show 24<=200 by omega)];refine fun _=>kk h ?_
    unfold Lt.dg Lt.bN
    grind
  rw [if_neg (by simpa using hc)] at h;refine ifk (fun hc=>?_) (fun hc=>?_)
  ·rw [if_pos (by simpa using hc)] at h;simp only [ac,aj,aq,aV,ay,jval,bor,band,bnand,bimp,and_self,fv,lk,lD,aR,WE,V9,if_false,dM];refine ifk (fun hb=>kk h ?_) (fun hb=>?_)
   ·unfold Lt.iN; grind
   ·have h3l:l.length=3:=iZ (by grind)
    simp only [jJ (l:=l) (by omega),oV (l:=l) (by omega),implies_true,true_and,Wf,eB (show r.P.Funcs.length<=5000 by omega) (show 104<=200 by omega)];refine fun _=>kk h ?_
    unfold Lt.iN Lt.bN
    grind
  rw [if_neg (by simpa using hc)] at h;exact h
end Go.Am
end

section
namespace Go.Am
open Go
theorem ez {α:Type} [Inhabited α] (l:List α) (x:α):(l++[x]).getD ((l++[x]).length - 1) default=x:=by
 have:(l++[x]).length - 1=l.length:=by simp
 rw [this,List.getD,Xk (Wb _)]; simp
theorem QA {α:Type} (l:List α) (x y:α):(l++[x]).set ((l++[x]).length - 1) y=l++[y]:=by
 have:(l++[x]).length - 1=l.length:=by simp
 rw [this,List.set_append_right _ _ (Wb _)]; simp
theorem AT {α:Type} (l:List α) (x:α):l++[x]≠[]:=by simp
theorem Ob:∀ (l:List Lt.Block) (b:Lt.Block),b∈l->b.Phis.length+b.Code.length<=(l.map fun b=>b.Phis.length+b.Code.length).sum
 | [],_,h=>by simp at h
 | a::r,b,h=>by
  rcases Wk.1 h with rfl | h
  ·simp
  ·have:=Ob r b h
   simp only [List.map_cons,List.sum_cons]; omega
theorem cw {r:Lt.Read} (h:Lt.Inv r) (hw:3<=r.Where):r.P.Funcs≠[]/\Lt.mj r.curF r.Where r.Long/\r.curF.Params.length<=6/\r.curF.Vars.length<=1024/\r.curF.Blocks.length<=256:=by
 obtain ⟨_,_,_,_,_,h3⟩:=h;obtain ⟨fs,f,hf,_,hp⟩:=h3 hw;have e:r.curF=f:=by unfold Lt.Read.curF; rw [hf]; exact ez fs f
 rw [e];exact ⟨by rw [hf]; exact AT _ _,hp,kC (k:=6) hp.1.2.2.1,kC (k:=1024) hp.1.2.2.2,hp.2.1.1⟩
theorem eV {r:Lt.Read} (h:Lt.Inv r) (hw:5<=r.Where):r.curF.Blocks≠[]/\r.curB.Phis.length<=1024/\r.curB.Code.length<=1024/\r.curB.Code.all Lt.instr=true:=by
 obtain ⟨_,hp,_⟩:=cw h (by omega);obtain ⟨_,⟨_,h0,hn⟩,_,hb⟩:=hp;obtain ⟨bs,b,hb,_,hs,hb2,_⟩:=hb hw;have e:r.curB=b:=by unfold Lt.Read.curB; rw [hb]; exact ez bs b
 have:=Ob r.curF.Blocks b (by rw [hb]; simp)
 rw [e];exact ⟨by rw [hb]; exact AT _ _,by omega,by omega,hb2.2.2⟩
theorem nq {r:Lt.Read} (h:Lt.Inv r) (hw:6<=r.Where) (hw8:r.Where<=8):r.curB.Code≠[]/\r.curI.Frames.length<=16/\r.curI.Objs.length<=99:=by
 obtain ⟨_,hp,_⟩:=cw h (by omega);obtain ⟨_,⟨_,h0,hn⟩,_,hb⟩:=hp;obtain ⟨bs,b,hb,_,hs,hb2,_,hc⟩:=hb (by omega);obtain ⟨cs,c,hc,_⟩:=hc hw hw8;have e:r.curB=b:=by unfold Lt.Read.curB; rw [hb]; exact ez bs b
 have e2:r.curI=c:=by unfold Lt.Read.curI; rw [e,hc]; exact ez cs c
 have hi:Lt.instr c=true:=Wj.1 hb2.2.2 c (by rw [hc]; simp)
 unfold Lt.instr at hi;simp only [V7,decide_eq_true_eq] at hi;rw [e,e2];exact ⟨by rw [hc]; exact AT _ _,hi.1.2.1.2,hi.1.2.2⟩
theorem tN (objs:Bool):∀ (l:List (List UInt8)) (x:List Lt.Bind),Lt.bk objs l=some x->l.length=2*x.length
 | [],x,h=>by simp [Lt.bk] at h; subst h; rfl
 | [_],x,h=>by simp [Lt.bk] at h
 | a::b::r,x,h=>by
  rw [Lt.bk] at h;split at h
  ·cases hr:Lt.bk objs r with
   | none=>simp [hr] at h
   | some y=>
    have:=tN objs r y hr
    simp [hr] at h;subst h;simp only [Wp]; omega
  ·simp at h
theorem dk {l:List (List UInt8)} {f:Int} {objs:Bool} (h:(Lt.al l f objs).2=true) (h0:0<=f):(l.length:Int)=f+2*((Lt.al l f objs).1.length:Int):=by
 unfold Lt.al at h ⊢;split at h
 ·simp at h
 ·rename_i hlt;rw [if_neg hlt];split at h
  ·rename_i x hx;have:=tN _ _ _ hx
   rw [Wi] at this;simp only; omega
  ·simp at h
theorem Ja (r:Lt.Read) (l:List (List UInt8)) (hp:Lt.dj r l) (KK:((Bool×Int)×Lt.Read)->Prop) (h:KK (Lt.bH r l)):xQ r l KK:=by
 obtain ⟨hi,hl,hr⟩:=hp;have hr:l.length<=1099511627776:=hr
 have h0:0<l.length:=WK.2 hl
 have hi0:=hi
 obtain ⟨hw,⟨hc1,hc2,hc3⟩,⟨hg,hcl,hex⟩,h1,h2,h3⟩:=hi;unfold xQ; dsimp only;unfold Lt.bH at h;refine fun _=>ifk (fun hf=>?_) (fun hf=>?_)
 ·have hf:r.P.Funcs≠[]:=fun e=>by rw [e] at hf; simp at hf
  have hf8:r.P.Funcs.length<=5000:=by omega
  have ef:r.P.Funcs.getD (r.P.Funcs.length - 1) default=r.curF:=rfl
  refine fun _=>?_
  simp only [aK hf hf8,bv hf,bu hf,Int.toNat_natCast,true_and];refine ⟨⟨by decide,h0⟩,?_⟩;refine ifk (fun hc=>?_) (fun hc=>?_)
  ·rw [if_pos (by simpa using hc)] at h;simp only [ac,aj,aq,aV,ay,jval,bor,band,bnand,bimp,and_self,fv,lk,lD,aR,WE,V9,if_false,dM];refine ifk (fun hb=>kk h ?_) (fun hb=>?_)
   ·unfold Lt.eQ; grind
   ·have hw3:r.Where=3:=by grind
    have h3l:l.length=3:=iZ (by grind)
    obtain ⟨_,_,hp6,_⟩:=cw hi0 (by omega);simp only [ef,jJ (l:=l) (by omega),oV (l:=l) (by omega),implies_true,true_and,Wf,eB (show r.curF.Params.length<=5000 by omega) (show 32<=200 by omega)];refine fun _=>kk h ?_
    unfold Lt.eQ Lt.bN Lt.Read.func Lt.last;simp only [ef]
    grind
  rw [if_neg (by simpa using hc)] at h;refine ifk (fun hc=>?_) (fun hc=>?_)
  ·rw [if_pos (by simpa using hc)] at h;simp only [ac,aj,aq,aV,ay,jval,bor,band,bnand,bimp,and_self,fv,lk,lD,aR,WE,V9,if_false,dM];refine ifk (fun hb=>kk h ?_) (fun hb=>?_)
   ·unfold Lt.lu; grind
   ·have hw3:3<=r.Where:=by grind
    have h3l:l.length=3:=iZ (by grind)
    obtain ⟨_,_,_,hv6,_⟩:=cw hi0 (by omega);simp only [ef,jJ (l:=l) (by omega),oV (l:=l) (by omega),implies_true,true_and,Wf,eB (show r.curF.Vars.length<=5000 by omega) (show 32<=200 by omega)];refine fun _=>kk h ?_
    unfold Lt.lu Lt.bN Lt.Read.func Lt.last;simp only [ef]
    grind
  rw [if_neg (by simpa using hc)] at h;refine ifk (fun hc=>?_) (fun hc=>?_)
  ·rw [if_pos (by simpa using hc)] at h;simp only [ac,aj,aq,aV,ay,jval,bor,band,bnand,bimp,and_self,fv,lk,lD,aR,WE,V9,if_false,dM];refine ⟨by grind,by grind,by grind,ifk (fun hb=>kk h ?_) (fun hb=>?_)⟩
   ·unfold Lt.dS; grind
   ·have hw3:3<=r.Where:=by grind
    have h3l:l.length=2:=by grind
    obtain ⟨_,_,_,_,hb6⟩:=cw hi0 (by omega);simp only [ef,jJ (l:=l) (by omega),implies_true,true_and,Wf,eB (show r.curF.Blocks.length<=5000 by omega) (show 136<=200 by omega)];refine fun _=>kk h ?_
    unfold Lt.dS Lt.bN Lt.Read.func Lt.last;simp only [ef]
    grind
  rw [if_neg (by simpa using hc)] at h;refine ifk (fun hc=>?_) (fun hc=>?_)
  ·rw [if_pos (by simpa using hc)] at h;simp only [ac,aj,aq,aV,ay,jval,bor,band,bnand,bimp,and_self,fv,lk,lD,aR,WE,V9,if_false,dM];refine ⟨⟨by show l.length<=1099511627776; exact hr,by decide,by decide⟩,fun hw5 hok hne=>?_,?_⟩
   ·have:=dk (l:=l) (f:=2) (objs:=false) (by simpa using hok) (by decide)
    have:¬ (Lt.al l 2 false).1.length=0:=by simpa using hne
    exact ⟨by decide,by omega⟩
   refine ifk (fun hb=>kk h ?_) (fun hb=>?_)
   ·unfold Lt.l5; grind
   ·have hw5:r.Where=5:=by grind
    have hok:(Lt.al l 2 false).2=true:=by grind
    have hne:¬ (Lt.al l 2 false).1.length=0:=by
     intro e;rw [e] at hb;simp at hb
    have h3l:=dk (l:=l) (f:=2) (objs:=false) hok (by decide)
    have hlt:1<l.length:=by omega
    obtain ⟨_,_,_,_,hb6⟩:=cw hi0 (by omega);obtain ⟨hbn,hph,_⟩:=eV hi0 (by omega);refine fun _=>⟨fun _=>⟨by decide,hlt⟩,ifk (fun hb2=>kk h ?_) (fun hb2=>?_)⟩
    ·unfold Lt.l5; grind
    have h256:(Lt.al l 2 false).1.length<=256:=by
     simp only [Wq,decide_eq_true_eq,not_or] at hb2; omega
    have hl1024:r.Long < 1024:=by
     simp only [Wq,decide_eq_true_eq,not_or] at hb2; omega
    have hl0:0<=r.Long:=(cw hi0 (by omega)).2.1.2.1.2.1
    have wl:IntKind.i64.wrap (r.Long+1)=r.Long+1:=wrap_i64 (by omega) (by omega)
    have eb:r.curF.Blocks.getD (r.curF.Blocks.length - 1) default=r.curB:=rfl
    have hb5:r.curF.Blocks.length<=5000:=by omega
    simp only [ef,jJ (l:=l) hlt,true_and,aK hbn hb5,bv hbn,bu hbn,Int.toNat_natCast,eb,Wf,eB (show r.curB.Phis.length<=5000 by omega) (show 40<=200 by omega),wl];refine bJ _ (Lt.al l 2 false).1.length (fun i x=>x=((i:Int),⟨l.getD 1 default,((Lt.al l 2 false).1.take i).map fun x=>⟨x.Name,x.A⟩⟩)) (fun R i x hlt hx hR=>?_) (fun R x hx=>?_) _ rfl
    ·subst hx;simp only [fj hlt,if_true,Int.toNat_natCast];refine fun _=>⟨fun _=>⟨We i,hlt⟩,fun _=>⟨We i,hlt⟩,fun _=>⟨by simp; omega,by simp; omega⟩,?_⟩
     refine hR _ ?_;rw [aQ (by omega),dZ _ hlt,Xb]; rfl
    ·subst hx;simp only [gF,V9,if_false];refine fun _=>⟨fun h=>h.elim,fun h=>h.elim,fun h=>h.elim,fun _=>kk h ?_⟩
     rw [XQ];have hn:Lt.az (l.getD 1 default)=true:=by
      simp only [Wq,WH,not_or] at hb;simpa using hb.2.2.2
     have c1:(decide (r.Where=5)&&(Lt.al l 2 false).2&&!decide ((Lt.al l 2 false).1.length=0)&&Lt.az (l.getD 1 default))=true:=by
      rw [hn,hok,hw5,decide_eq_false hne]; rfl
     unfold Lt.l5 Lt.Read.block Lt.Read.func Lt.last;simp only [ef,eb];rw [c1,if_neg (by simp),if_neg (by omega)]
  rw [if_neg (by simpa using hc)] at h;exact h
 ·have hf:r.P.Funcs=[]:=by cases hh:r.P.Funcs with
   | nil=>rfl
   | cons a b=>rw [hh] at hf; simp at hf
  have hw2:r.Where<=2:=by
   apply Classical.byContradiction
   intro hw;exact (cw hi0 (by omega)).1 hf
  have n3:decide (r.Where=3)=false:=by simp; omega
  have n4:decide (r.Where=4)=false:=by simp; omega
  have n5:decide (r.Where=5)=false:=by simp; omega
  have n9:decide (r.Where=9)=false:=by simp; omega
  refine ⟨⟨by decide,h0⟩,?_⟩;simp only [n3,n4,n5,n9,Xf,if_true,ac];simp only [Lt.eQ,Lt.lu,Lt.dS,Lt.l5,n3,n4,n5,n9,WO,Xg,if_true] at h;have hpp:Lt.j5 l 2 false:=⟨by show l.length<=1099511627776; exact hr,by decide,by decide⟩
  grind
end Go.Am
end
