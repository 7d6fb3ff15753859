/-
  Part 11: AmLay · AmNiceY · AmNiceZ · AmG4 · AmG3 · AmG2 · AmG · AmN1 · AmN2 · AmN3 · AmN4 · AmN5 · AmN6 · AmN7 · AmN8 · AmN9 · AmS1 · AmS2 · AmS3 · AmS4 · AmS5 · AmS6 · AmS7 · AmS8 · AmS9.
-/
import Derived.Test.YtlikflolhhlgjaaGreatDoorBa10
import Derived.Shelf.Small.Strs
import Derived.Shelf.Small.Wraps
import Derived.Shelf.Strings.Cut
import Derived.Shelf.Strings.Prefix
import Derived.Shelf.Strings.Split
set_option linter.unusedSimpArgs false
set_option linter.unusedVariables false
set_option linter.unusedSectionVars false
set_option linter.unnecessarySimpa false
section
namespace Go.Proofs
open Go.Shelf
def Tryz.lays137_ren:Go.Shelf.Ren:=⟨fun | 137=>147 | 217=>127 | 266=>139 | n=>n,fun | 9=>9 | 5=>5 | 3=>3 | n=>n,fun | n=>n⟩
theorem Tryz.lays137:Go.Proofs.Lays.n137 Tryz.prog Tryz.lays137_ren:={
 mixed:=by kernel_rfl
 f137:=Tryz.func147.trans (congrArg some (by kernel_rfl))
 f217:=Tryz.func127.trans (congrArg some (by kernel_rfl))
 f266:=Tryz.func139.trans (congrArg some (by kernel_rfl))
 t3:=Tryz.underlying3
 a3:=Tryz.isAgg3
 z3:=Tryz.sizeOf3
 v3:=Tryz.zeroValue3
 t5:=Tryz.underlying5
 a5:=Tryz.isAgg5
 z5:=Tryz.sizeOf5
 v5:=Tryz.zeroValue5
 t9:=Tryz.underlying9
 a9:=Tryz.isAgg9
 z9:=Tryz.sizeOf9
 v9:=Tryz.zeroValue9 }
open Go.RowKit in
theorem Tryz.strings_IndexByte (s:ByteArray) (c:Int) (w:World) :
  Calls Tryz.prog 147 #[.string s,.int .u8 c] w fun e w'=>e=.returned (.int .i64 (Lib.indexByte s.data.toList c.toNat.toUInt8))/\w'=w:=Any.strings_IndexByte Tryz.lays137 s c w
def Tryz.lays103_ren:Go.Shelf.Ren:=⟨fun | 103=>146 | 210=>148 | 206=>149 | n=>n,fun | 9=>9 | 4=>4 | 24=>218 | 3=>3 | n=>n,fun | n=>n⟩
theorem Tryz.lays103:Go.Proofs.Lays.n103 Tryz.prog Tryz.lays103_ren:={
 mixed:=by kernel_rfl
 f103:=Tryz.func146.trans (congrArg some (by kernel_rfl))
 f206:=Tryz.func149.trans (congrArg some (by kernel_rfl))
 f210:=Tryz.func148.trans (congrArg some (by kernel_rfl))
 t3:=Tryz.underlying3
 a3:=Tryz.isAgg3
 z3:=Tryz.sizeOf3
 v3:=Tryz.zeroValue3
 t4:=Tryz.underlying4
 a4:=Tryz.isAgg4
 z4:=Tryz.sizeOf4
 v4:=Tryz.zeroValue4
 t9:=Tryz.underlying9
 a9:=Tryz.isAgg9
 z9:=Tryz.sizeOf9
 v9:=Tryz.zeroValue9
 t24:=Tryz.underlying218
 a24:=Tryz.isAgg218
 z24:=Tryz.sizeOf218
 v24:=Tryz.zeroValue218 }
open Go.RowKit in
theorem Tryz.strings_CutPrefix (s p:ByteArray) (w:World) :
  Calls Tryz.prog 146 #[.string s,.string p] w fun e w'=>e=.returned (.tuple #[.string ⟨(Lib.trimPrefix s.data.toList p.data.toList).toArray⟩,.bool (Lib.hasPrefix s.data.toList p.data.toList)])/\w'=w:=Any.strings_CutPrefix Tryz.lays103 s p w
def Tryz.lays145_ren:Go.Shelf.Ren:=⟨fun | 145=>32 | 220=>55 | 219=>102 | 217=>127 | 225=>128 | 224=>129 | 267=>130 | 266=>139 | 314=>140 | n=>n,fun | 9=>9 | 4=>4 | 59=>97 | 3=>3 | 5=>5 | 46=>198 | 146=>211 | 51=>210 | n=>n,fun | 1=>1 | n=>n⟩
theorem Tryz.lays145:Go.Proofs.Lays.n145 Tryz.prog Tryz.lays145_ren:={
 mixed:=by kernel_rfl
 f145:=Tryz.func32.trans (congrArg some (by kernel_rfl))
 f217:=Tryz.func127.trans (congrArg some (by kernel_rfl))
 f219:=Tryz.func102.trans (congrArg some (by kernel_rfl))
 f220:=Tryz.func55.trans (congrArg some (by kernel_rfl))
 f224:=Tryz.func129.trans (congrArg some (by kernel_rfl))
 f225:=Tryz.func128.trans (congrArg some (by kernel_rfl))
 f266:=Tryz.func139.trans (congrArg some (by kernel_rfl))
 f267:=Tryz.func130.trans (congrArg some (by kernel_rfl))
 f314:=Tryz.func140.trans (congrArg some (by kernel_rfl))
 t3:=Tryz.underlying3
 a3:=Tryz.isAgg3
 z3:=Tryz.sizeOf3
 v3:=Tryz.zeroValue3
 t4:=Tryz.underlying4
 a4:=Tryz.isAgg4
 z4:=Tryz.sizeOf4
 v4:=Tryz.zeroValue4
 t5:=Tryz.underlying5
 a5:=Tryz.isAgg5
 z5:=Tryz.sizeOf5
 v5:=Tryz.zeroValue5
 t9:=Tryz.underlying9
 a9:=Tryz.isAgg9
 z9:=Tryz.sizeOf9
 v9:=Tryz.zeroValue9
 t46:=Tryz.underlying198
 a46:=Tryz.isAgg198
 z46:=Tryz.sizeOf198
 v46:=Tryz.zeroValue198
 t51:=Tryz.underlying210
 a51:=Tryz.isAgg210
 z51:=Tryz.sizeOf210
 v51:=Tryz.zeroValue210
 t59:=Tryz.underlying97
 a59:=Tryz.isAgg97
 z59:=Tryz.sizeOf97
 v59:=Tryz.zeroValue97
 t146:=Tryz.underlying211
 a146:=Tryz.isAgg211
 z146:=Tryz.sizeOf211
 v146:=Tryz.zeroValue211
 g1:=by kernel_rfl }
open Go.RowKit Go.Lib in
theorem Tryz.strings_Cut (s sep:ByteArray) (m:Int) (w:World) (hs:s.size < 4294967281) (hm:w.cell? ⟨1,0,none⟩=some (.int .i64 m)) :
  Calls Tryz.prog 32 #[.string s,.string sep] w fun e w'=>e=.returned (.tuple #[.string ⟨(Lib.cut s.data.toList sep.data.toList).1.toArray⟩,.string ⟨(Lib.cut s.data.toList sep.data.toList).2.1.toArray⟩,.bool (Lib.cut s.data.toList sep.data.toList).2.2])/\∃ n,w'=w.drewN n:=Any.strings_Cut Tryz.lays145 s sep m w hs hm
def Tryz.lays146_ren:Go.Shelf.Ren:=⟨fun | 146=>31 | 221=>54 | 268=>99 | 138=>100 | 143=>101 | 195=>124 | 197=>125 | 218=>126 | 219=>102 | 260=>138 | 217=>127 | 225=>128 | 224=>129 | 267=>130 | 266=>139 | 314=>140 | n=>n,fun | 9=>9 | 31=>43 | 3=>3 | 4=>4 | 0=>0 | 105=>202 | 21=>21 | 5=>5 | 46=>198 | 119=>213 | 139=>216 | 138=>215 | 146=>211 | 51=>210 | n=>n,fun | 1=>1 | 3=>2 | 4=>3 | n=>n⟩
theorem Tryz.lays146:Go.Proofs.Lays.n146 Tryz.prog Tryz.lays146_ren:={
 mixed:=by kernel_rfl
 f138:=Tryz.func100.trans (congrArg some (by kernel_rfl))
 f143:=Tryz.func101.trans (congrArg some (by kernel_rfl))
 f146:=Tryz.func31.trans (congrArg some (by kernel_rfl))
 f195:=Tryz.func124.trans (congrArg some (by kernel_rfl))
 f197:=Tryz.func125.trans (congrArg some (by kernel_rfl))
 f217:=Tryz.func127.trans (congrArg some (by kernel_rfl))
 f218:=Tryz.func126.trans (congrArg some (by kernel_rfl))
 f219:=Tryz.func102.trans (congrArg some (by kernel_rfl))
 f221:=Tryz.func54.trans (congrArg some (by kernel_rfl))
 f224:=Tryz.func129.trans (congrArg some (by kernel_rfl))
 f225:=Tryz.func128.trans (congrArg some (by kernel_rfl))
 f260:=Tryz.func138.trans (congrArg some (by kernel_rfl))
 f266:=Tryz.func139.trans (congrArg some (by kernel_rfl))
 f267:=Tryz.func130.trans (congrArg some (by kernel_rfl))
 f268:=Tryz.func99.trans (congrArg some (by kernel_rfl))
 f314:=Tryz.func140.trans (congrArg some (by kernel_rfl))
 t0:=Tryz.underlying0
 a0:=Tryz.isAgg0
 z0:=Tryz.sizeOf0
 v0:=Tryz.zeroValue0
 t3:=Tryz.underlying3
 a3:=Tryz.isAgg3
 z3:=Tryz.sizeOf3
 v3:=Tryz.zeroValue3
 t4:=Tryz.underlying4
 a4:=Tryz.isAgg4
 z4:=Tryz.sizeOf4
 v4:=Tryz.zeroValue4
 t5:=Tryz.underlying5
 a5:=Tryz.isAgg5
 z5:=Tryz.sizeOf5
 v5:=Tryz.zeroValue5
 t9:=Tryz.underlying9
 a9:=Tryz.isAgg9
 z9:=Tryz.sizeOf9
 v9:=Tryz.zeroValue9
 t21:=Tryz.underlying21
 a21:=Tryz.isAgg21
 z21:=Tryz.sizeOf21
 v21:=Tryz.zeroValue21
 t31:=Tryz.underlying43
 a31:=Tryz.isAgg43
 z31:=Tryz.sizeOf43
 v31:=Tryz.zeroValue43
 t46:=Tryz.underlying198
 a46:=Tryz.isAgg198
 z46:=Tryz.sizeOf198
 v46:=Tryz.zeroValue198
 t51:=Tryz.underlying210
 a51:=Tryz.isAgg210
 z51:=Tryz.sizeOf210
 v51:=Tryz.zeroValue210
 t105:=Tryz.underlying202
 a105:=Tryz.isAgg202
 z105:=Tryz.sizeOf202
 v105:=Tryz.zeroValue202
 t119:=Tryz.underlying213
 a119:=Tryz.isAgg213
 z119:=Tryz.sizeOf213
 t138:=Tryz.underlying215
 a138:=Tryz.isAgg215
 z138:=Tryz.sizeOf215
 v138:=Tryz.zeroValue215
 t139:=Tryz.underlying216
 a139:=Tryz.isAgg216
 z139:=Tryz.sizeOf216
 v139:=Tryz.zeroValue216
 t146:=Tryz.underlying211
 a146:=Tryz.isAgg211
 z146:=Tryz.sizeOf211
 v146:=Tryz.zeroValue211
 g1:=by kernel_rfl
 g3:=by kernel_rfl
 g4:=by kernel_rfl }
open Go.RowKit Go.Lib in
theorem Tryz.strings_Split (s sep:ByteArray) (m:Int) (w:World) (hs:s.size < 4294967281) (hm:w.cell? ⟨1,0,none⟩=some (.int .i64 m)) (h1:1<=sep.size) :
  Calls Tryz.prog 31 #[.string s,.string sep] w fun e w'=>
   e=.returned (.slice (some ⟨w.heap.size,0,none⟩) (Lib.countB s sep+1) (Lib.countB s sep+1))/\w'=w.alloc (.cells ((Lib.splitB sep 0 (Lib.countB s sep) s).map Value.string).toArray 9):=Any.strings_Split Tryz.lays146 (by kernel_rfl) s sep m w hs hm h1
end Go.Proofs
end

section
namespace Lt
def gW (s:List UInt8) (c:UInt8):Int:=Go.Lib.indexByte s c
def l7 (s p:List UInt8):List UInt8×Bool:=(Go.Lib.trimPrefix s p,Go.Lib.hasPrefix s p)
def Vo (s p:List UInt8):List UInt8×List UInt8×Bool:=Go.Lib.cut s p
def ez (s p:List UInt8):List (List UInt8):=(Go.Lib.splitB ⟨p.toArray⟩ 0 (Go.Lib.countB ⟨s.toArray⟩ ⟨p.toArray⟩) ⟨s.toArray⟩).map (·.data.toList)
def Vx (s p:List UInt8):Prop:=s.length < 4294967281
def LL (s p:List UInt8):Prop:=s.length < 4294967281/\1<=p.length
end Lt
namespace Lt
open Go
def flt (n:Int):Value:=.iface 64 (.agg #[.int .i64 n])
def eH (s:List UInt8):Int×Bool:=aY s
def wu (s:List UInt8):Int×Bool:=iw s
def nU (s:List UInt8):Arg×Bool:=cm s
def iz (s:List UInt8):Arg×Bool:=if (iw s).2 then (⟨3,[],(iw s).1⟩,true) else if (aY s).2 then (⟨2,[],(aY s).1⟩,true) else (⟨0,[],0⟩,false)
def gO (l:List Int) (n:Int):Bool:=l.contains n
def cv (w:List UInt8):Except Value (List UInt8):=if Name w then .ok w else .error (flt 3)
def gD (w:List UInt8):Except Value (List UInt8):=if pg w then .ok w else .error (flt 3)
def nK (w:List UInt8) (least most:Int):Except Value Int:=if (aY w).2&&(decide (least<=(aY w).1)&&decide ((aY w).1<=most)) then .ok (aY w).1 else .error (flt 3)
def yB (w:List UInt8) (objs:Bool):Except Value Arg:=if dC objs w then .ok (cm w).1 else .error (flt 3)
def pF (l:List (List UInt8)) (objs:Bool):Except Value (List Arg):=if (dg l objs).2 then .ok (dg l objs).1 else .error (flt 3)
def yOp (w:List UInt8):Int×Bool:=sOp w
def Reader.abs (r:Reader):Read:=⟨r.p,if r.where_=0 then (if 0<=r.long then 9 else 2) else if r.where_=1 then 1 else r.where_+1,r.long⟩
def gE (r:Reader) (x:Int×Read) (w:Int):Except Value Unit×Reader:=
 if x.1=0 then (.ok (),⟨x.2.P,r.at_,w,r.first,x.2.Long⟩) else (.error (flt x.1),r)
def TG (r:Reader) (l:List (List UInt8)):Except Value Unit×Reader:=gE r (if (r.first&&decide (l.length=1))=false then (3,r.abs) else (0,{ r.abs with P:={ r.p with SSA:=true } })) r.where_
def BG (r:Reader) (l:List (List UInt8)):Except Value Unit×Reader:=gE r (dk r.abs l) 1
def Cw (r:Reader) (l:List (List UInt8)):Except Value Unit×Reader:=gE r (eE r.abs l) r.where_
def u9 (r:Reader) (l:List (List UInt8)):Except Value Unit×Reader:=gE r (da r.abs l) 0
def uf (r:Reader) (l:List (List UInt8)):Except Value Unit×Reader:=gE r (cY r.abs l) 0
def lV (r:Reader) (l:List (List UInt8)):Except Value Unit×Reader:=gE r (fp r.abs l) 2
def Ck (r:Reader) (l:List (List UInt8)):Except Value Unit×Reader:=gE r (eJ r.abs l) r.where_
def l8 (r:Reader) (l:List (List UInt8)):Except Value Unit×Reader:=gE r (ic r.abs l) 3
def Bz (r:Reader) (l:List (List UInt8)):Except Value Unit×Reader:=gE r (cR r.abs l) 4
def WT (r:Reader) (l:List (List UInt8)):Except Value Unit×Reader:=gE r (jD r.abs l) 4
def tH (r:Reader) (l:List (List UInt8)):Except Value Unit×Reader:=gE r (cz r.abs l) ((cz r.abs l).2.Where - 1)
def Bt (r:Reader) (l:List (List UInt8)):Except Value Unit×Reader:=gE r (sAt r.abs l) 6
def mY (r:Reader) (l:List (List UInt8)):Except Value Unit×Reader:=gE r (if r.abs.ins=false then (3,r.abs) else jB r.abs l) 7
def p9 (l:List (List UInt8)):Option Term:=if w0 l=ig\/w0 l=cu\/w0 l=nY then gJ l else if (decide (l.length=2)&&(aY (w1 l)).2)=true then some ⟨4,⟨0,[],0⟩,[],(aY (w1 l)).1⟩ else none
def CX (r:Reader) (l:List (List UInt8)):Except Value Unit×Reader:=gE r (if r.abs.ins=false then (3,r.abs) else match p9 l with | some t=>(0,{ r.abs.block (fun b=>{ b with End:=t }) with Where:=9 }) | none=>(3,r.abs)) 0
def rK (r:Reader) (l:List (List UInt8)):Except Value Unit×Reader:=
 if sEq l then tH r l
 else if w0 l=kB then TG r l else if w0 l=fw then BG r l else if w0 l=gR then Cw r l else if w0 l=fj then u9 r l
 else if w0 l=eu then uf r l else if w0 l=pi then lV r l else if w0 l=eh then Ck r l else if w0 l=oF then l8 r l
 else if w0 l=eI then Bz r l else if w0 l=t8 then WT r l else if w0 l=kAt then Bt r l else if w0 l=l6 then mY r l
 else if w0 l=ig\/w0 l=cu\/w0 l=nY\/w0 l=jg then CX r l else tH r l
def Reader.heads (r:Reader):Nat:=r.p.Classes.length+r.p.Globals.length+r.p.Externs.length
def yi (r:Reader) (l:List (List UInt8)):Except Value Unit×Reader:=match rK r l with
 | (.ok _,x)=>(.ok (),{ x with first:=false,long:=if r.heads<x.heads then -1 else x.long })
 | (.error v,x)=>(.error v,x)
def dM (s:List UInt8):Program×Int×Int:=bY s
def blank (c:UInt8):Bool:=decide (c=32)||decide (c=9)
def dy:List UInt8->List UInt8->List (List UInt8)->List (List UInt8)×Bool
 | [],w,out=>(if w=[] then out else out++[w],true)
 | c::r,w,out=>if blank c then dy r [] (if w=[] then out else out++[w]) else if c.toNat<=32\/126<c.toNat then ([],false) else dy r (w++[c]) out
def wC (s:List UInt8):Prop:=s.length<=room
def bK (s:List UInt8):List (List UInt8)×Bool:=dy s [] []
def fq (s:List UInt8):List Line×Int×Int:=((cZ s).1.map fun l=>⟨l.N,l.Words⟩,(cZ s).2.1,(cZ s).2.2)
def Reader.inv (r:Reader):Prop:=Inv r.abs/\(0<=r.where_/\r.where_<=7)/\(-1<=r.long/\r.long<=1024)/\(0<=r.long ↔ r.where_≠1/\r.abs.Where≠2)
def az (r:Reader) (l:List (List UInt8)):Prop:=r.inv/\l≠[]/\l.length<=room
end Lt
end

section
namespace Lt
open Go
def YS (p:Program) (_:List UInt8):Prop:=Bv p
def T7 (_:Program) (_:List UInt8):Bool:=true
end Lt
end

section
namespace Go.Am
open Go
def sy (a0_p:Lt.Program) (a1_s:List UInt8) (KK:Bool->Prop):Prop:=
 ab (α:=Bool) (fun J1=>if (!Lt.awake)=true then (J1 true) else ((Lt.GB a0_p 20000)/\if (!(Lt.Few a0_p 20000))=true then (J1 true) else (J1 (decide (100000 < (a1_s.length:Int)))))) (fun v2=>if v2=true then (KK Lt.awake) else ((Lt.iN a0_p)/\ab (α:=Unit) (fun J3=>if (decide ((Lt.aG a0_p).2=0))=true then (ab (α:=Bool) (fun J5=>if (!decide ((Lt.dM ((Lt.aG a0_p).1)).2.2=0))=true then (J5 true) else (J5 (!(Lt.Same a0_p ((Lt.dM ((Lt.aG a0_p).1)).1))))) (fun v6=>if v6=true then (KK false) else (J3 ()))) else (J3 ())) (fun v4=>if (!decide ((Lt.dM a1_s).2.2=0))=true then (KK true) else ((Lt.iN ((Lt.dM a1_s).1))/\(Lt.iN ((Lt.dM ((Lt.aG ((Lt.dM a1_s).1)).1)).1))/\ab (α:=Bool) (fun J7=>if (decide ((Lt.aG ((Lt.dM a1_s).1)).2=0))=true then (if (decide ((Lt.dM ((Lt.aG ((Lt.dM a1_s).1)).1)).2.2=0))=true then (if (decide ((Lt.aG ((Lt.dM ((Lt.aG ((Lt.dM a1_s).1)).1)).1)).2=0))=true then (if (Lt.Same ((Lt.dM a1_s).1) ((Lt.dM ((Lt.aG ((Lt.dM a1_s).1)).1)).1))=true then (J7 (decide ((Lt.aG ((Lt.dM a1_s).1)).1=(Lt.aG ((Lt.dM ((Lt.aG ((Lt.dM a1_s).1)).1)).1)).1))) else (J7 false)) else (J7 false)) else (J7 false)) else (J7 false)) (fun v8=>KK v8)))))
end Go.Am
end

section
namespace Go.Am
open Go
def CD (a0_s:List UInt8) (KK:(Int×Bool)->Prop):Prop:=
 ab (α:=Bool) (fun J1=>if (decide (a0_s=([]:List UInt8)))=true then (J1 true) else (J1 (decide (20 < (a0_s.length:Int))))) (fun v2=>if v2=true then (KK (0,false)) else (ab (α:=Int) (fun J3=>((0:Int)<=0/\0<a0_s.length)/\if (decide ((((a0_s.getD 0 0).toNat:Nat):Int)=(((45:UInt8).toNat:Nat):Int)))=true then (J3 1) else (J3 0)) (fun v4=>aB (α:=Int×Int) (fun R5 v6=>have z2:=((0:Int)<=v6.2/\v6.2.toNat<a0_s.length); have z1:=(((a0_s.getD v6.2.toNat 0).toNat:Nat):Int); (a0_s.length<=4611686018427387904->if (decide (v6.2 < (a0_s.length:Int)))=true then (ab (α:=Bool) (fun J7=>z2/\if (decide (z1 < (((48:UInt8).toNat:Nat):Int)))=true then (J7 true) else (z2/\J7 (decide ((((57:UInt8).toNat:Nat):Int)<z1)))) (fun v8=>if v8=true then (KK (0,false)) else (z2/\R5 ((IntKind.i64.wrap ((IntKind.i64.wrap (v6.1*10)) - (IntKind.i64.wrap (((UInt8.ofNat (IntKind.u8.wrap (z1 - (((48:UInt8).toNat:Nat):Int))).toNat).toNat:Nat):Int)))),(IntKind.i64.wrap (v6.2+1)))))) else (ab (α:=Int) (fun J9=>if (decide (v4=0))=true then (J9 (IntKind.i64.wrap (0-v6.1))) else (J9 v6.1)) (fun v10=>(Lt.gH v10)/\if (!decide ((Lt.ak v10)=a0_s))=true then (KK (0,false)) else (KK (v10,true)))))) (0,v4))))
def pK (a0_s:List UInt8) (KK:(Int×Bool)->Prop):Prop:=
 ab (α:=Bool) (fun J1=>if (!((Lt.l7 a0_s [48,102]).2))=true then (J1 true) else (J1 (!decide ((((Lt.l7 a0_s [48,102]).1).length:Int)=16)))) (fun v2=>if v2=true then (KK (0,false)) else ((((Lt.l7 a0_s [48,102]).1).length<=4611686018427387904->aB (α:=Int×Int) (fun R3 v4=>if (decide (v4.2 < (((Lt.l7 a0_s [48,102]).1).length:Int)))=true then (((0:Int)<=v4.2/\v4.2.toNat < ((Lt.l7 a0_s [48,102]).1).length)/\if (decide ((Lt.gW [48,49,50,51,52,53,54,55,56,57,97,98,99,100,101,102] (((Lt.l7 a0_s [48,102]).1).getD v4.2.toNat 0)) < 0))=true then (KK (0,false)) else ((0:Int)<=4/\R3 ((IntKind.u64.wrap ((BitVec.ofInt IntKind.u64.bits (IntKind.u64.wrap (v4.1*2 ^ (min (4:Int).toNat IntKind.u64.bits))) ||| BitVec.ofInt IntKind.u64.bits (IntKind.u64.wrap (Lt.gW [48,49,50,51,52,53,54,55,56,57,97,98,99,100,101,102] (((Lt.l7 a0_s [48,102]).1).getD v4.2.toNat 0)))).toNat:Nat)),(IntKind.i64.wrap (v4.2+1))))) else (if (!decide ((Lt.Plain (IntKind.i64.wrap v4.1))=(IntKind.i64.wrap v4.1)))=true then (KK (0,false)) else (KK ((IntKind.i64.wrap v4.1),true)))) (0,0))))
def nW (a0_s:List UInt8) (KK:(Lt.Arg×Bool)->Prop):Prop:=
 if ((Lt.wu a0_s).2)=true then (KK ((Lt.Arg.mk 3 ([]:List UInt8) ((Lt.wu a0_s).1)),true)) else (if (!((Lt.eH a0_s).2))=true then (KK ((Lt.Arg.mk 0 ([]:List UInt8) 0),false)) else (KK ((Lt.Arg.mk 2 ([]:List UInt8) ((Lt.eH a0_s).1)),true)))
def wk (a0_s:List UInt8) (KK:(Lt.Arg×Bool)->Prop):Prop:=
 if (decide (a0_s=([]:List UInt8)))=true then (KK ((Lt.Arg.mk 0 ([]:List UInt8) 0),false)) else (if (decide (a0_s=[110,117,108,108]))=true then (KK ((Lt.Arg.mk 4 ([]:List UInt8) 0),true)) else (if (Lt.Name a0_s)=true then (KK ((Lt.Arg.mk 1 a0_s 0),true)) else (((0:Int)<=0/\0<a0_s.length)/\if (decide ((((a0_s.getD 0 0).toNat:Nat):Int)=(((35:UInt8).toNat:Nat):Int)))=true then ((0:Int)<=1/\(1<=a0_s.length/\a0_s.length<=a0_s.length)/\ab (α:=Bool) (fun J1=>if (!((Lt.eH ((a0_s.drop 1).take (a0_s.length - 1))).2))=true then (J1 true) else (if (decide ((Lt.eH ((a0_s.drop 1).take (a0_s.length - 1))).1 < 0))=true then (J1 true) else (J1 (decide (999 < (Lt.eH ((a0_s.drop 1).take (a0_s.length - 1))).1))))) (fun v2=>if v2=true then (KK ((Lt.Arg.mk 0 ([]:List UInt8) 0),false)) else (KK ((Lt.Arg.mk 5 ([]:List UInt8) ((Lt.eH ((a0_s.drop 1).take (a0_s.length - 1))).1)),true)))) else (KK (((Lt.iz a0_s).1),(Lt.iz a0_s).2)))))
def Fv (a0_c:UInt8) (KK:Bool->Prop):Prop:=
 if (decide (((a0_c.toNat:Nat):Int)=(((32:UInt8).toNat:Nat):Int)))=true then (KK true) else (KK (decide (((a0_c.toNat:Nat):Int)=(((9:UInt8).toNat:Nat):Int))))
def Aq (a0_s:List UInt8) (KK:(List (List UInt8)×Bool)->Prop):Prop:=
 aB (α:=List (List UInt8)×Int×Int) (fun R1 v2=>have z2:=((0:Int)<=v2.2.2/\v2.2.2.toNat<a0_s.length); have z1:=([((a0_s.drop v2.2.1.toNat).take (v2.2.2.toNat-v2.2.1.toNat))]:List (List UInt8)); (a0_s.length<=4611686018427387904->if (decide (v2.2.2<=(a0_s.length:Int)))=true then (ab (α:=List (List UInt8)×Int) (fun J3=>ab (α:=Bool) (fun J5=>(a0_s.length<=4611686018427387904->if (decide (v2.2.2=(a0_s.length:Int)))=true then (J5 true) else (z2/\J5 (Lt.blank (a0_s.getD v2.2.2.toNat 0))))) (fun v6=>if v6=true then (ab (α:=List (List UInt8)) (fun J7=>if (decide (0<=v2.2.1))=true then ((0:Int)<=v2.2.1/\(0:Int)<=v2.2.2/\(v2.2.1.toNat<=v2.2.2.toNat/\v2.2.2.toNat<=a0_s.length)/\(v2.1.length+z1.length<=4611686018427387904/\(v2.1.length+z1.length)*16<=140737488355328)/\J7 (v2.1++z1)) else (J7 v2.1)) (fun v8=>J3 (v8,(-1)))) else (ab (α:=Bool) (fun J9=>z2/\if (decide ((((a0_s.getD v2.2.2.toNat 0).toNat:Nat):Int)<=(((32:UInt8).toNat:Nat):Int)))=true then (J9 true) else (z2/\J9 (decide ((((126:UInt8).toNat:Nat):Int) < (((a0_s.getD v2.2.2.toNat 0).toNat:Nat):Int))))) (fun v10=>if v10=true then (KK ([],false)) else (if (decide (v2.2.1 < 0))=true then (J3 (v2.1,v2.2.2)) else (J3 (v2.1,v2.2.1))))))) (fun v4=>R1 (v4.1,v4.2,(IntKind.i64.wrap (v2.2.2+1))))) else (KK (v2.1,true)))) ([],(-1),0)
def AT (a0_s:List UInt8) (KK:(List Lt.Line×Int×Int)->Prop):Prop:=
 (a0_s.length<=4611686018427387904->if (decide (4194304 < (a0_s.length:Int)))=true then (KK ([],0,2)) else ((Lt.LL a0_s [10])/\((Lt.ez a0_s [10]).length<=4611686018427387904->aB (α:=List Lt.Line×Int) (fun R1 v2=>have z1:=(Lt.Vo ((Lt.ez a0_s [10]).getD v2.2.toNat default) [59]).1; have z2:=([(Lt.Line.mk (IntKind.i64.wrap (v2.2+1)) ((Lt.bK z1).1))]:List Lt.Line); if (decide (v2.2 < ((Lt.ez a0_s [10]).length:Int)))=true then (ab (α:=List Lt.Line) (fun J3=>((0:Int)<=v2.2/\v2.2.toNat < (Lt.ez a0_s [10]).length)/\(Lt.Vx ((Lt.ez a0_s [10]).getD v2.2.toNat default) [59])/\(Lt.wC z1)/\if (!((Lt.bK z1).2))=true then (KK ([],(IntKind.i64.wrap (v2.2+1)),3)) else ((((Lt.bK z1).1).length<=4611686018427387904->if (decide (0 < (((Lt.bK z1).1).length:Int)))=true then ((v2.1.length+z2.length<=4611686018427387904/\(v2.1.length+z2.length)*32<=140737488355328)/\J3 (v2.1++z2)) else (J3 v2.1)))) (fun v4=>R1 (v4,(IntKind.i64.wrap (v2.2+1))))) else (KK (v2.1,0,0))) ([],0))))
def NJ (a0_l:List Int) (a1_n:Int) (KK:Bool->Prop):Prop:=
 (a0_l.length<=4611686018427387904->aB (α:=Int) (fun R1 v2=>if (decide (v2 < (a0_l.length:Int)))=true then (((0:Int)<=v2/\v2.toNat<a0_l.length)/\if (decide ((a0_l.getD v2.toNat default)=a1_n))=true then (KK true) else (R1 (IntKind.i64.wrap (v2+1)))) else (KK false)) 0)
def F8 (a0_w:List UInt8) (KK:(List UInt8)->Prop) (KP:Value->Prop):Prop:=
 if (!(Lt.Name a0_w))=true then (KP (Lt.flt 3)) else (KK a0_w)
def Gb (a0_w:List UInt8) (KK:(List UInt8)->Prop) (KP:Value->Prop):Prop:=
 ab (α:=Unit) (fun J1=>if (decide (a0_w=[105,110,116]))=true then (if (!true)=true then (KP (Lt.flt 3)) else (J1 ())) else (if (decide (a0_w=[102,108,111,97,116]))=true then (if (!true)=true then (KP (Lt.flt 3)) else (J1 ())) else (if (!(Lt.Name a0_w))=true then (KP (Lt.flt 3)) else (J1 ())))) (fun v2=>KK a0_w)
def vI (a0_w:List UInt8) (a1_least:Int) (a2_most:Int) (KK:Int->Prop) (KP:Value->Prop):Prop:=
 ab (α:=Unit) (fun J1=>if ((Lt.eH a0_w).2)=true then (if (decide (a1_least<=(Lt.eH a0_w).1))=true then (if (!(decide ((Lt.eH a0_w).1<=a2_most)))=true then (KP (Lt.flt 3)) else (J1 ())) else (if (!false)=true then (KP (Lt.flt 3)) else (J1 ()))) else (if (!false)=true then (KP (Lt.flt 3)) else (J1 ()))) (fun v2=>KK ((Lt.eH a0_w).1))
def Ma (a0_w:List UInt8) (a1_objs:Bool) (KK:Lt.Arg->Prop) (KP:Value->Prop):Prop:=
 ab (α:=Unit) (fun J1=>if ((Lt.nU a0_w).2)=true then (if a1_objs=true then (if (!true)=true then (KP (Lt.flt 3)) else (J1 ())) else (if (!(!decide (((Lt.nU a0_w).1).Kind=5)))=true then (KP (Lt.flt 3)) else (J1 ()))) else (if (!false)=true then (KP (Lt.flt 3)) else (J1 ()))) (fun v2=>KK ((Lt.nU a0_w).1))
def G6 (a0_l:List (List UInt8)) (a1_objs:Bool) (KK:(List Lt.Arg)->Prop) (KP:Value->Prop):Prop:=
 (a0_l.length<=4611686018427387904->aB (α:=List Lt.Arg×Int) (fun R1 v2=>if (decide (v2.2 < (a0_l.length:Int)))=true then (((0:Int)<=v2.2/\v2.2.toNat<a0_l.length)/\True/\exQ (Lt.yB (a0_l.getD v2.2.toNat default) a1_objs) (fun z3=>(v2.1.length+([z3]:List Lt.Arg).length<=4611686018427387904/\(v2.1.length+([z3]:List Lt.Arg).length)*32<=140737488355328)/\R1 ((v2.1++([z3]:List Lt.Arg)),(IntKind.i64.wrap (v2.2+1)))) (fun v=>KP v)) else (KK v2.1)) ([],0))
def TO (a0_w:List UInt8) (KK:(Int×Bool)->Prop):Prop:=
 aB (α:=Int) (fun R1 v2=>if (decide (v2<=34))=true then (if (decide (((Lt.Of v2).1).Word=a0_w))=true then (KK (v2,true)) else (R1 (IntKind.i64.wrap (v2+1)))) else (KK (0,false))) 1
def Mb (a0_r:Lt.Reader) (a1_l:List (List UInt8)) (KK:((Unit)×Lt.Reader)->Prop) (KP:Value->Lt.Reader->Prop):Prop:=
 ab (α:=Unit) (fun J1=>if a0_r.first=true then (if (!(decide ((a1_l.length:Int)=1)))=true then (KP (Lt.flt 3) a0_r) else (J1 ())) else (if (!false)=true then (KP (Lt.flt 3) a0_r) else (J1 ()))) (fun v2=>KK ((),(Lt.Reader.mk (Lt.Program.mk true a0_r.p.Classes a0_r.p.Globals a0_r.p.Externs a0_r.p.Funcs) a0_r.at_ a0_r.where_ a0_r.first a0_r.long)))
def zw (a0_r:Lt.Reader) (a1_l:List (List UInt8)) (KK:((Unit)×Lt.Reader)->Prop) (KP:Value->Lt.Reader->Prop):Prop:=
 if (!(Lt.gO [0,1] a0_r.where_))=true then (KP (Lt.flt 3) a0_r) else ((a1_l.length<=4611686018427387904->if (!(decide ((a1_l.length:Int)=2)))=true then (KP (Lt.flt 3) a0_r) else (((0:Int)<=1/\1<a1_l.length)/\True/\exQ (Lt.cv (a1_l.getD 1 default)) (fun z1=>(a0_r.p.Classes.length<=4611686018427387904->if (decide (8<=(a0_r.p.Classes.length:Int)))=true then (KP (Lt.flt 2) a0_r) else (ab (α:=Lt.Reader) (fun J2=>((a0_r.p.Classes.length+([(Lt.Class.mk z1 [])]:List Lt.Class).length<=4611686018427387904/\(a0_r.p.Classes.length+([(Lt.Class.mk z1 [])]:List Lt.Class).length)*40<=140737488355328)/\J2 (Lt.Reader.mk (Lt.Program.mk a0_r.p.SSA (a0_r.p.Classes++([(Lt.Class.mk z1 [])]:List Lt.Class)) a0_r.p.Globals a0_r.p.Externs a0_r.p.Funcs) a0_r.at_ a0_r.where_ a0_r.first a0_r.long))/\((a0_r.p.Classes.length+([(Lt.Class.mk z1 [])]:List Lt.Class).length<=4611686018427387904/\(a0_r.p.Classes.length+([(Lt.Class.mk z1 [])]:List Lt.Class).length)*40<=140737488355328)/\J2 (Lt.Reader.mk (Lt.Program.mk a0_r.p.SSA (a0_r.p.Classes++([(Lt.Class.mk z1 [])]:List Lt.Class)) a0_r.p.Globals a0_r.p.Externs a0_r.p.Funcs) a0_r.at_ a0_r.where_ a0_r.first a0_r.long))) (fun v3=>KK ((),(Lt.Reader.mk v3.p v3.at_ 1 v3.first v3.long)))))) (fun v=>KP v a0_r))))
def zY (a0_r:Lt.Reader) (a1_l:List (List UInt8)) (KK:((Unit)×Lt.Reader)->Prop) (KP:Value->Lt.Reader->Prop):Prop:=
 have z2:=(IntKind.i64.wrap ((a0_r.p.Classes.length:Int) - 1)); have z8:=(a0_r.p.Classes.getD z2.toNat default).Fields; if (!(Lt.gO [1] a0_r.where_))=true then (KP (Lt.flt 3) a0_r) else ((a1_l.length<=4611686018427387904->if (!(decide ((a1_l.length:Int)=3)))=true then (KP (Lt.flt 3) a0_r) else (ab (α:=Lt.Var) (fun J1=>((0:Int)<=1/\1<a1_l.length)/\((0:Int)<=2/\2<a1_l.length)/\(True/\exQ (Lt.cv (a1_l.getD 1 default)) (fun z5=>(True/\exQ (Lt.gD (a1_l.getD 2 default)) (fun z7=>J1 (Lt.Var.mk z5 z7)) (fun v=>KP v a0_r))/\(True/\exQ (Lt.gD (a1_l.getD 2 default)) (fun z6=>J1 (Lt.Var.mk z5 z6)) (fun v=>KP v a0_r))) (fun v=>KP v a0_r))/\(True/\exQ (Lt.cv (a1_l.getD 1 default)) (fun z3=>True/\exQ (Lt.gD (a1_l.getD 2 default)) (fun z4=>J1 (Lt.Var.mk z3 z4)) (fun v=>KP v a0_r)) (fun v=>KP v a0_r))) (fun v2=>have z1:=((z8.length+([v2]:List Lt.Var).length<=4611686018427387904/\(z8.length+([v2]:List Lt.Var).length)*32<=140737488355328)/\z2.toNat<a0_r.p.Classes.length/\z2.toNat=z2.toNat/\KK ((),(Lt.Reader.mk (Lt.Program.mk a0_r.p.SSA (a0_r.p.Classes.set z2.toNat (Lt.Class.mk ((a0_r.p.Classes.getD z2.toNat default).Name) (z8++([v2]:List Lt.Var)))) a0_r.p.Globals a0_r.p.Externs a0_r.p.Funcs) a0_r.at_ a0_r.where_ a0_r.first a0_r.long))); (a0_r.p.Classes.length<=4611686018427387904->((0:Int)<=z2/\z2 < ((a0_r.p.Classes.length:Nat):Int))/\(z8.length<=4611686018427387904->if (decide (8<=(z8.length:Int)))=true then (KP (Lt.flt 2) a0_r) else (z1/\z1)))))))
def xa (a0_r:Lt.Reader) (a1_l:List (List UInt8)) (KK:((Unit)×Lt.Reader)->Prop) (KP:Value->Lt.Reader->Prop):Prop:=
 if (!(Lt.gO [0,1] a0_r.where_))=true then (KP (Lt.flt 3) a0_r) else ((a1_l.length<=4611686018427387904->if (!(decide ((a1_l.length:Int)=3)))=true then (KP (Lt.flt 3) a0_r) else (ab (α:=Lt.Var) (fun J1=>((0:Int)<=1/\1<a1_l.length)/\((0:Int)<=2/\2<a1_l.length)/\(True/\exQ (Lt.cv (a1_l.getD 1 default)) (fun z5=>(True/\exQ (Lt.gD (a1_l.getD 2 default)) (fun z7=>J1 (Lt.Var.mk z5 z7)) (fun v=>KP v a0_r))/\(True/\exQ (Lt.gD (a1_l.getD 2 default)) (fun z6=>J1 (Lt.Var.mk z5 z6)) (fun v=>KP v a0_r))) (fun v=>KP v a0_r))/\(True/\exQ (Lt.cv (a1_l.getD 1 default)) (fun z3=>True/\exQ (Lt.gD (a1_l.getD 2 default)) (fun z4=>J1 (Lt.Var.mk z3 z4)) (fun v=>KP v a0_r)) (fun v=>KP v a0_r))) (fun v2=>(a0_r.p.Globals.length<=4611686018427387904->if (decide (8<=(a0_r.p.Globals.length:Int)))=true then (KP (Lt.flt 2) a0_r) else (ab (α:=Lt.Reader) (fun J8=>have z1:=((a0_r.p.Globals.length+([v2]:List Lt.Var).length<=4611686018427387904/\(a0_r.p.Globals.length+([v2]:List Lt.Var).length)*32<=140737488355328)/\J8 (Lt.Reader.mk (Lt.Program.mk a0_r.p.SSA a0_r.p.Classes (a0_r.p.Globals++([v2]:List Lt.Var)) a0_r.p.Externs a0_r.p.Funcs) a0_r.at_ a0_r.where_ a0_r.first a0_r.long)); z1/\z1) (fun v9=>KK ((),(Lt.Reader.mk v9.p v9.at_ 0 v9.first v9.long)))))))))
def wV (a0_r:Lt.Reader) (a1_l:List (List UInt8)) (KK:((Unit)×Lt.Reader)->Prop) (KP:Value->Lt.Reader->Prop):Prop:=
 have z2:=Lt.nK (a1_l.getD 2 default) 0 8; if (!(Lt.gO [0,1] a0_r.where_))=true then (KP (Lt.flt 3) a0_r) else ((a1_l.length<=4611686018427387904->if (!(decide ((a1_l.length:Int)=3)))=true then (KP (Lt.flt 3) a0_r) else (ab (α:=Lt.Extern) (fun J1=>((0:Int)<=1/\1<a1_l.length)/\((0:Int)<=2/\2<a1_l.length)/\(True/\exQ (Lt.cv (a1_l.getD 1 default)) (fun z5=>(True/\exQ z2 (fun z7=>J1 (Lt.Extern.mk z5 z7)) (fun v=>KP v a0_r))/\(True/\exQ z2 (fun z6=>J1 (Lt.Extern.mk z5 z6)) (fun v=>KP v a0_r))) (fun v=>KP v a0_r))/\(True/\exQ (Lt.cv (a1_l.getD 1 default)) (fun z3=>True/\exQ z2 (fun z4=>J1 (Lt.Extern.mk z3 z4)) (fun v=>KP v a0_r)) (fun v=>KP v a0_r))) (fun v2=>(a0_r.p.Externs.length<=4611686018427387904->if (decide (8<=(a0_r.p.Externs.length:Int)))=true then (KP (Lt.flt 2) a0_r) else (ab (α:=Lt.Reader) (fun J8=>have z1:=((a0_r.p.Externs.length+([v2]:List Lt.Extern).length<=4611686018427387904/\(a0_r.p.Externs.length+([v2]:List Lt.Extern).length)*24<=140737488355328)/\J8 (Lt.Reader.mk (Lt.Program.mk a0_r.p.SSA a0_r.p.Classes a0_r.p.Globals (a0_r.p.Externs++([v2]:List Lt.Extern)) a0_r.p.Funcs) a0_r.at_ a0_r.where_ a0_r.first a0_r.long)); z1/\z1) (fun v9=>KK ((),(Lt.Reader.mk v9.p v9.at_ 0 v9.first v9.long)))))))))
def pP (a0_r:Lt.Reader) (a1_l:List (List UInt8)) (KK:((Unit)×Lt.Reader)->Prop) (KP:Value->Lt.Reader->Prop):Prop:=
 if (!(Lt.gO [0,1] a0_r.where_))=true then (KP (Lt.flt 3) a0_r) else ((a1_l.length<=4611686018427387904->if (!(decide ((a1_l.length:Int)=3)))=true then (KP (Lt.flt 3) a0_r) else (ab (α:=Lt.Func) (fun J1=>((0:Int)<=1/\1<a1_l.length)/\((0:Int)<=2/\2<a1_l.length)/\(True/\exQ (Lt.cv (a1_l.getD 1 default)) (fun z5=>(True/\exQ (Lt.gD (a1_l.getD 2 default)) (fun z7=>J1 (Lt.Func.mk z5 z7 [] [] [])) (fun v=>KP v a0_r))/\(True/\exQ (Lt.gD (a1_l.getD 2 default)) (fun z6=>J1 (Lt.Func.mk z5 z6 [] [] [])) (fun v=>KP v a0_r))) (fun v=>KP v a0_r))/\(True/\exQ (Lt.cv (a1_l.getD 1 default)) (fun z3=>True/\exQ (Lt.gD (a1_l.getD 2 default)) (fun z4=>J1 (Lt.Func.mk z3 z4 [] [] [])) (fun v=>KP v a0_r)) (fun v=>KP v a0_r))) (fun v2=>have z2:=([(Lt.Func.mk v2.Name v2.Result [] [] [])]:List Lt.Func); (a0_r.p.Funcs.length<=4611686018427387904->if (decide (8<=(a0_r.p.Funcs.length:Int)))=true then (KP (Lt.flt 2) a0_r) else (ab (α:=Lt.Reader) (fun J8=>have z1:=((a0_r.p.Funcs.length+z2.length<=4611686018427387904/\(a0_r.p.Funcs.length+z2.length)*104<=140737488355328)/\J8 (Lt.Reader.mk (Lt.Program.mk a0_r.p.SSA a0_r.p.Classes a0_r.p.Globals a0_r.p.Externs (a0_r.p.Funcs++z2)) a0_r.at_ a0_r.where_ a0_r.first a0_r.long)); z1/\z1) (fun v9=>KK ((),(Lt.Reader.mk v9.p v9.at_ 2 v9.first 0)))))))))
def zG (a0_r:Lt.Reader) (a1_l:List (List UInt8)) (KK:((Unit)×Lt.Reader)->Prop) (KP:Value->Lt.Reader->Prop):Prop:=
 have z2:=(IntKind.i64.wrap ((a0_r.p.Funcs.length:Int) - 1)); have z8:=a0_r.p.Funcs.getD z2.toNat default; if (!(Lt.gO [2] a0_r.where_))=true then (KP (Lt.flt 3) a0_r) else ((a1_l.length<=4611686018427387904->if (!(decide ((a1_l.length:Int)=3)))=true then (KP (Lt.flt 3) a0_r) else (ab (α:=Lt.Var) (fun J1=>((0:Int)<=1/\1<a1_l.length)/\((0:Int)<=2/\2<a1_l.length)/\(True/\exQ (Lt.cv (a1_l.getD 1 default)) (fun z5=>(True/\exQ (Lt.gD (a1_l.getD 2 default)) (fun z7=>J1 (Lt.Var.mk z5 z7)) (fun v=>KP v a0_r))/\(True/\exQ (Lt.gD (a1_l.getD 2 default)) (fun z6=>J1 (Lt.Var.mk z5 z6)) (fun v=>KP v a0_r))) (fun v=>KP v a0_r))/\(True/\exQ (Lt.cv (a1_l.getD 1 default)) (fun z3=>True/\exQ (Lt.gD (a1_l.getD 2 default)) (fun z4=>J1 (Lt.Var.mk z3 z4)) (fun v=>KP v a0_r)) (fun v=>KP v a0_r))) (fun v2=>have z1:=(((z8.Params).length+([v2]:List Lt.Var).length<=4611686018427387904/\((z8.Params).length+([v2]:List Lt.Var).length)*32<=140737488355328)/\z2.toNat<a0_r.p.Funcs.length/\z2.toNat=z2.toNat/\KK ((),(Lt.Reader.mk (Lt.Program.mk a0_r.p.SSA a0_r.p.Classes a0_r.p.Globals a0_r.p.Externs (a0_r.p.Funcs.set z2.toNat (Lt.Func.mk (z8.Name) (z8.Result) ((z8.Params)++([v2]:List Lt.Var)) (z8.Vars) (z8.Blocks)))) a0_r.at_ a0_r.where_ a0_r.first a0_r.long))); (a0_r.p.Funcs.length<=4611686018427387904->((0:Int)<=z2/\z2 < ((a0_r.p.Funcs.length:Nat):Int))/\((z8.Params).length<=4611686018427387904->if (decide (6<=((z8.Params).length:Int)))=true then (KP (Lt.flt 2) a0_r) else (z1/\z1)))))))
def py (a0_r:Lt.Reader) (a1_l:List (List UInt8)) (KK:((Unit)×Lt.Reader)->Prop) (KP:Value->Lt.Reader->Prop):Prop:=
 have z2:=(IntKind.i64.wrap ((a0_r.p.Funcs.length:Int) - 1)); have z8:=a0_r.p.Funcs.getD z2.toNat default; if (!(Lt.gO [2,3] a0_r.where_))=true then (KP (Lt.flt 3) a0_r) else ((a1_l.length<=4611686018427387904->if (!(decide ((a1_l.length:Int)=3)))=true then (KP (Lt.flt 3) a0_r) else (ab (α:=Lt.Var) (fun J1=>((0:Int)<=1/\1<a1_l.length)/\((0:Int)<=2/\2<a1_l.length)/\(True/\exQ (Lt.cv (a1_l.getD 1 default)) (fun z5=>(True/\exQ (Lt.gD (a1_l.getD 2 default)) (fun z7=>J1 (Lt.Var.mk z5 z7)) (fun v=>KP v a0_r))/\(True/\exQ (Lt.gD (a1_l.getD 2 default)) (fun z6=>J1 (Lt.Var.mk z5 z6)) (fun v=>KP v a0_r))) (fun v=>KP v a0_r))/\(True/\exQ (Lt.cv (a1_l.getD 1 default)) (fun z3=>True/\exQ (Lt.gD (a1_l.getD 2 default)) (fun z4=>J1 (Lt.Var.mk z3 z4)) (fun v=>KP v a0_r)) (fun v=>KP v a0_r))) (fun v2=>(a0_r.p.Funcs.length<=4611686018427387904->((0:Int)<=z2/\z2 < ((a0_r.p.Funcs.length:Nat):Int))/\((z8.Vars).length<=4611686018427387904->if (decide (1024<=((z8.Vars).length:Int)))=true then (KP (Lt.flt 2) a0_r) else (ab (α:=Lt.Reader) (fun J8=>have z1:=(((z8.Vars).length+([v2]:List Lt.Var).length<=4611686018427387904/\((z8.Vars).length+([v2]:List Lt.Var).length)*32<=140737488355328)/\z2.toNat<a0_r.p.Funcs.length/\z2.toNat=z2.toNat/\J8 (Lt.Reader.mk (Lt.Program.mk a0_r.p.SSA a0_r.p.Classes a0_r.p.Globals a0_r.p.Externs (a0_r.p.Funcs.set z2.toNat (Lt.Func.mk (z8.Name) (z8.Result) (z8.Params) ((z8.Vars)++([v2]:List Lt.Var)) (z8.Blocks)))) a0_r.at_ a0_r.where_ a0_r.first a0_r.long)); z1/\z1) (fun v9=>KK ((),(Lt.Reader.mk v9.p v9.at_ 3 v9.first v9.long))))))))))
def zV (a0_r:Lt.Reader) (a1_l:List (List UInt8)) (KK:((Unit)×Lt.Reader)->Prop) (KP:Value->Lt.Reader->Prop):Prop:=
 have z2:=(IntKind.i64.wrap ((a0_r.p.Funcs.length:Int) - 1)); have z4:=a0_r.p.Funcs.getD z2.toNat default; ab (α:=Unit) (fun J1=>if (decide (a0_r.where_=2))=true then (if (!true)=true then (KP (Lt.flt 3) a0_r) else (J1 ())) else (if (decide (a0_r.where_=3))=true then (if (!true)=true then (KP (Lt.flt 3) a0_r) else (J1 ())) else (if (decide (a0_r.where_=0))=true then (if (decide (0<=a0_r.long))=true then (if (!(decide (0 < (a0_r.p.Funcs.length:Int))))=true then (KP (Lt.flt 3) a0_r) else (J1 ())) else (if (!false)=true then (KP (Lt.flt 3) a0_r) else (J1 ()))) else (if (!false)=true then (KP (Lt.flt 3) a0_r) else (J1 ()))))) (fun v2=>(a1_l.length<=4611686018427387904->if (!(decide ((a1_l.length:Int)=2)))=true then (KP (Lt.flt 3) a0_r) else (((0:Int)<=1/\1<a1_l.length)/\True/\exQ (Lt.cv (a1_l.getD 1 default)) (fun z3=>have z5:=([(Lt.Block.mk z3 [] [] (Lt.Term.mk 0 (Lt.Arg.mk 0 ([]:List UInt8) 0) [] 0))]:List Lt.Block); (a0_r.p.Funcs.length<=4611686018427387904->((0:Int)<=z2/\z2 < ((a0_r.p.Funcs.length:Nat):Int))/\((z4.Blocks).length<=4611686018427387904->if (decide (256<=((z4.Blocks).length:Int)))=true then (KP (Lt.flt 2) a0_r) else (ab (α:=Lt.Reader) (fun J4=>have z1:=(((z4.Blocks).length+z5.length<=4611686018427387904/\((z4.Blocks).length+z5.length)*136<=140737488355328)/\z2.toNat<a0_r.p.Funcs.length/\z2.toNat=z2.toNat/\J4 (Lt.Reader.mk (Lt.Program.mk a0_r.p.SSA a0_r.p.Classes a0_r.p.Globals a0_r.p.Externs (a0_r.p.Funcs.set z2.toNat (Lt.Func.mk (z4.Name) (z4.Result) (z4.Params) (z4.Vars) ((z4.Blocks)++z5)))) a0_r.at_ a0_r.where_ a0_r.first a0_r.long)); z1/\z1) (fun v5=>KK ((),(Lt.Reader.mk v5.p v5.at_ 4 v5.first v5.long))))))) (fun v=>KP v a0_r))))
def Ny (a0_r:Lt.Reader) (a1_l:List (List UInt8)) (KK:((Unit)×Lt.Reader)->Prop) (KP:Value->Lt.Reader->Prop):Prop:=
 have z5:=(IntKind.i64.wrap ((a0_r.p.Funcs.length:Int) - 1)); have z1:=(a0_r.p.Funcs.getD z5.toNat default); have z4:=(IntKind.i64.wrap (((z1.Blocks).length:Int) - 1)); have z6:=(z1.Blocks).getD z4.toNat default; if (!(Lt.gO [4] a0_r.where_))=true then (KP (Lt.flt 3) a0_r) else (ab (α:=Unit) (fun J1=>(a1_l.length<=4611686018427387904->if (decide (4<=(a1_l.length:Int)))=true then ((2:Int)≠0/\if (!(decide ((Int.tmod (a1_l.length:Int) 2)=0)))=true then (KP (Lt.flt 3) a0_r) else (J1 ())) else (if (!false)=true then (KP (Lt.flt 3) a0_r) else (J1 ())))) (fun v2=>((0:Int)<=1/\1<a1_l.length)/\True/\exQ (Lt.cv (a1_l.getD 1 default)) (fun z3=>aB (α:=Int×Lt.Phi) (fun R4 v5=>have z13:=Lt.yB (a1_l.getD (IntKind.i64.wrap (v5.1+1)).toNat default) false; have z2:=(((z6.Phis).length+([v5.2]:List Lt.Phi).length<=4611686018427387904/\((z6.Phis).length+([v5.2]:List Lt.Phi).length)*40<=140737488355328)/\z5.toNat<a0_r.p.Funcs.length/\z4.toNat < (z1.Blocks).length/\z5.toNat=z5.toNat/\z4.toNat=z4.toNat/\KK ((),(Lt.Reader.mk (Lt.Program.mk a0_r.p.SSA a0_r.p.Classes a0_r.p.Globals a0_r.p.Externs (a0_r.p.Funcs.set z5.toNat (Lt.Func.mk (z1.Name) (z1.Result) (z1.Params) (z1.Vars) ((z1.Blocks).set z4.toNat (Lt.Block.mk (z6.Name) ((z6.Phis)++([v5.2]:List Lt.Phi)) (z6.Code) (Lt.Term.mk ((z6.End).Kind) ((z6.End).A) ((z6.End).To) ((z6.End).N))))))) a0_r.at_ a0_r.where_ a0_r.first (IntKind.i64.wrap (a0_r.long+1))))); (a1_l.length<=4611686018427387904->if (decide (v5.1 < (a1_l.length:Int)))=true then (ab (α:=Lt.Phi) (fun J6=>((0:Int)<=v5.1/\v5.1.toNat<a1_l.length)/\((0:Int)<=(IntKind.i64.wrap (v5.1+1))/\(IntKind.i64.wrap (v5.1+1)).toNat<a1_l.length)/\(True/\exQ (Lt.cv (a1_l.getD v5.1.toNat default)) (fun z11=>True/\exQ z13 (fun z12=>have z14:=([(Lt.In.mk z11 z12)]:List Lt.In); (v5.2.Ins.length+z14.length<=4611686018427387904/\(v5.2.Ins.length+z14.length)*48<=140737488355328)/\J6 (Lt.Phi.mk v5.2.Dst (v5.2.Ins++z14))) (fun v=>KP v a0_r)) (fun v=>KP v a0_r))/\(True/\exQ (Lt.cv (a1_l.getD v5.1.toNat default)) (fun z8=>(True/\exQ z13 (fun z10=>have z15:=([(Lt.In.mk z8 z10)]:List Lt.In); (v5.2.Ins.length+z15.length<=4611686018427387904/\(v5.2.Ins.length+z15.length)*48<=140737488355328)/\J6 (Lt.Phi.mk v5.2.Dst (v5.2.Ins++z15))) (fun v=>KP v a0_r))/\(True/\exQ z13 (fun z9=>have z16:=([(Lt.In.mk z8 z9)]:List Lt.In); have z7:=((v5.2.Ins.length+z16.length<=4611686018427387904/\(v5.2.Ins.length+z16.length)*48<=140737488355328)/\J6 (Lt.Phi.mk v5.2.Dst (v5.2.Ins++z16))); z7/\z7) (fun v=>KP v a0_r))) (fun v=>KP v a0_r))) (fun v7=>R4 ((IntKind.i64.wrap (v5.1+2)),v7))) else ((v5.2.Ins.length<=4611686018427387904->if (decide (256<=(IntKind.i64.wrap ((v5.2.Ins.length:Int) - 1))))=true then (KP (Lt.flt 2) a0_r) else (if (decide (1024<=a0_r.long))=true then (KP (Lt.flt 2) a0_r) else ((a0_r.p.Funcs.length<=4611686018427387904->((0:Int)<=z5/\z5 < ((a0_r.p.Funcs.length:Nat):Int))/\((z1.Blocks).length<=4611686018427387904->((0:Int)<=z4/\z4 < (((z1.Blocks).length:Nat):Int))/\z2/\z2)))))))) (2,(Lt.Phi.mk z3 []))) (fun v=>KP v a0_r)))
def F9 (a0_r:Lt.Reader) (a1_l:List (List UInt8)) (KK:((Unit)×Lt.Reader)->Prop) (KP:Value->Lt.Reader->Prop):Prop:=
 have z6:=(IntKind.i64.wrap ((a0_r.p.Funcs.length:Int) - 1)); have z1:=(a0_r.p.Funcs.getD z6.toNat default); have z4:=(IntKind.i64.wrap (((z1.Blocks).length:Int) - 1)); have z8:=(z1.Blocks).getD z4.toNat default; if (!(Lt.gO [4,5,6,7] a0_r.where_))=true then (KP (Lt.flt 3) a0_r) else (ab (α:=List (List UInt8)×Lt.Instr) (fun J1=>ab (α:=Bool) (fun J3=>(a1_l.length<=4611686018427387904->if (decide (2 < (a1_l.length:Int)))=true then (((0:Int)<=1/\1<a1_l.length)/\J3 (decide ((a1_l.getD 1 default)=[61]))) else (J3 false))) (fun v4=>if v4=true then (((0:Int)<=0/\0<a1_l.length)/\True/\exQ (Lt.cv (a1_l.getD 0 default)) (fun z5=>(0:Int)<=2/\(2<=a1_l.length/\a1_l.length<=a1_l.length)/\J1 (((a1_l.drop 2).take (a1_l.length - 2)),(Lt.Instr.mk 0 z5 ([]:List UInt8) [] [] []))) (fun v=>KP v a0_r)) else (J1 (a1_l,(Lt.Instr.mk 0 ([]:List UInt8) ([]:List UInt8) [] [] []))))) (fun v2=>have z7:=Lt.yOp (v2.1.getD 0 default); have z3:=(v2.1.drop 1).take (v2.1.length - 1); have z11:=(z3.drop 0).take (1 - 0); ((0:Int)<=0/\0<v2.1.length)/\if (!(z7.2))=true then (KP (Lt.flt 3) a0_r) else (if (!(((Lt.Of (z7.1)).1).Dst==(!decide (v2.2.Dst=([]:List UInt8)))))=true then (KP (Lt.flt 3) a0_r) else ((0:Int)<=1/\(1<=v2.1.length/\v2.1.length<=v2.1.length)/\ab (α:=Lt.Instr) (fun J6=>ab (α:=Bool) (fun J8=>if (decide (z7.1=26))=true then (J8 true) else (J8 (decide (z7.1=27)))) (fun v9=>if v9=true then ((z3.length<=4611686018427387904->if (!(decide (2<=(z3.length:Int))))=true then (KP (Lt.flt 3) a0_r) else (((0:Int)<=1/\1<z3.length)/\True/\exQ (Lt.cv (z3.getD 1 default)) (fun z10=>(0:Int)<=1/\(0<=1/\1<=z3.length)/\(0:Int)<=2/\(2<=z3.length/\z3.length<=z3.length)/\(z11.length<=4611686018427387904->aB (α:=List Lt.Arg×Int) (fun R11 v12=>if (decide (v12.2 < (z11.length:Int)))=true then (((0:Int)<=v12.2/\v12.2.toNat<z11.length)/\True/\exQ (Lt.yB (z11.getD v12.2.toNat default) false) (fun z13=>(v12.1.length+([z13]:List Lt.Arg).length<=4611686018427387904/\(v12.1.length+([z13]:List Lt.Arg).length)*32<=140737488355328)/\R11 ((v12.1++([z13]:List Lt.Arg)),(IntKind.i64.wrap (v12.2+1)))) (fun v=>KP v a0_r)) else ((Lt.iZ ((z3.drop 2).take (z3.length - 2)) false)/\exQ (Lt.pF ((z3.drop 2).take (z3.length - 2)) false) (fun z14=>(v12.1.length+z14.length<=4611686018427387904/\(v12.1.length+z14.length)*32<=140737488355328)/\J6 (Lt.Instr.mk (z7.1) v2.2.Dst z10 (v12.1++z14) [] [])) (fun v=>KP v a0_r))) ([],0))) (fun v=>KP v a0_r)))) else (if (((Lt.Of (z7.1)).1).Named)=true then ((z3.length<=4611686018427387904->if (!(decide (1<=(z3.length:Int))))=true then (KP (Lt.flt 3) a0_r) else (((0:Int)<=0/\0<z3.length)/\True/\exQ (Lt.cv (z3.getD 0 default)) (fun z15=>(0:Int)<=1/\(1<=z3.length/\z3.length<=z3.length)/\(Lt.iZ ((z3.drop 1).take (z3.length - 1)) false)/\exQ (Lt.pF ((z3.drop 1).take (z3.length - 1)) false) (fun z16=>J6 (Lt.Instr.mk (z7.1) v2.2.Dst z15 z16 [] [])) (fun v=>KP v a0_r)) (fun v=>KP v a0_r)))) else ((Lt.iZ z3 false)/\exQ (Lt.pF z3 false) (fun z17=>J6 (Lt.Instr.mk (z7.1) v2.2.Dst v2.2.Name z17 [] [])) (fun v=>KP v a0_r))))) (fun v7=>have z9:=([(Lt.Instr.mk v7.Op v7.Dst v7.Name v7.Args [] [])]:List Lt.Instr); ab (α:=Unit) (fun J18=>(v7.Args.length<=4611686018427387904->if (decide (((Lt.Of (z7.1)).1).Least<=(v7.Args.length:Int)))=true then (if (!(decide ((v7.Args.length:Int)<=((Lt.Of (z7.1)).1).Most)))=true then (KP (Lt.flt 3) a0_r) else (J18 ())) else (if (!false)=true then (KP (Lt.flt 3) a0_r) else (J18 ())))) (fun v19=>if (decide (1024<=a0_r.long))=true then (KP (Lt.flt 2) a0_r) else ((a0_r.p.Funcs.length<=4611686018427387904->((0:Int)<=z6/\z6 < ((a0_r.p.Funcs.length:Nat):Int))/\((z1.Blocks).length<=4611686018427387904->((0:Int)<=z4/\z4 < (((z1.Blocks).length:Nat):Int))/\ab (α:=Lt.Reader) (fun J20=>have z2:=(((z8.Code).length+z9.length<=4611686018427387904/\((z8.Code).length+z9.length)*112<=140737488355328)/\z6.toNat<a0_r.p.Funcs.length/\z4.toNat < (z1.Blocks).length/\z6.toNat=z6.toNat/\z4.toNat=z4.toNat/\J20 (Lt.Reader.mk (Lt.Program.mk a0_r.p.SSA a0_r.p.Classes a0_r.p.Globals a0_r.p.Externs (a0_r.p.Funcs.set z6.toNat (Lt.Func.mk (z1.Name) (z1.Result) (z1.Params) (z1.Vars) ((z1.Blocks).set z4.toNat (Lt.Block.mk (z8.Name) (z8.Phis) ((z8.Code)++z9) (Lt.Term.mk ((z8.End).Kind) ((z8.End).A) ((z8.End).To) ((z8.End).N))))))) a0_r.at_ a0_r.where_ a0_r.first (IntKind.i64.wrap (a0_r.long+1)))); z2/\z2) (fun v21=>ab (α:=Bool) (fun J22=>if (decide (z7.1=31))=true then (J22 true) else (J22 (decide (z7.1=34)))) (fun v23=>if v23=true then (KK ((),(Lt.Reader.mk v21.p v21.at_ 6 v21.first v21.long))) else (KK ((),(Lt.Reader.mk v21.p v21.at_ 5 v21.first v21.long))))))))))))))
def Ba (a0_r:Lt.Reader) (a1_l:List (List UInt8)) (KK:((Unit)×Lt.Reader)->Prop) (KP:Value->Lt.Reader->Prop):Prop:=
 have z24:=Lt.nK (a1_l.getD 3 default) 0 1024; have z15:=(IntKind.i64.wrap ((a0_r.p.Funcs.length:Int) - 1)); have z3:=(a0_r.p.Funcs.getD z15.toNat default); have z16:=(IntKind.i64.wrap (((z3.Blocks).length:Int) - 1)); have z1:=((z3.Blocks).getD z16.toNat default); have z17:=(IntKind.i64.wrap (((z1.Code).length:Int) - 1)); have z4:=((z1.Code).getD z17.toNat default); if (!(Lt.gO [6] a0_r.where_))=true then (KP (Lt.flt 3) a0_r) else (ab (α:=Unit) (fun J1=>(a1_l.length<=4611686018427387904->if (decide (4<=(a1_l.length:Int)))=true then ((2:Int)≠0/\if (!(decide ((Int.tmod (a1_l.length:Int) 2)=0)))=true then (KP (Lt.flt 3) a0_r) else (J1 ())) else (if (!false)=true then (KP (Lt.flt 3) a0_r) else (J1 ())))) (fun v2=>ab (α:=Lt.Frame) (fun J3=>((0:Int)<=1/\1<a1_l.length)/\((0:Int)<=2/\2<a1_l.length)/\((0:Int)<=3/\3<a1_l.length)/\(True/\exQ (Lt.cv (a1_l.getD 1 default)) (fun z8=>(True/\exQ (Lt.cv (a1_l.getD 2 default)) (fun z11=>(True/\exQ z24 (fun z13=>J3 (Lt.Frame.mk z8 z11 z13 [])) (fun v=>KP v a0_r))/\(True/\exQ z24 (fun z12=>J3 (Lt.Frame.mk z8 z11 z12 [])) (fun v=>KP v a0_r))) (fun v=>KP v a0_r))/\(True/\exQ (Lt.cv (a1_l.getD 2 default)) (fun z9=>True/\exQ z24 (fun z10=>J3 (Lt.Frame.mk z8 z9 z10 [])) (fun v=>KP v a0_r)) (fun v=>KP v a0_r))) (fun v=>KP v a0_r))/\(True/\exQ (Lt.cv (a1_l.getD 1 default)) (fun z5=>True/\exQ (Lt.cv (a1_l.getD 2 default)) (fun z6=>True/\exQ z24 (fun z7=>J3 (Lt.Frame.mk z5 z6 z7 [])) (fun v=>KP v a0_r)) (fun v=>KP v a0_r)) (fun v=>KP v a0_r))) (fun v4=>aB (α:=Int×Lt.Frame) (fun R14 v15=>have z23:=Lt.yB (a1_l.getD (IntKind.i64.wrap (v15.1+1)).toNat default) true; have z2:=(((z4.Frames).length+([v15.2]:List Lt.Frame).length<=4611686018427387904/\((z4.Frames).length+([v15.2]:List Lt.Frame).length)*64<=140737488355328)/\z15.toNat<a0_r.p.Funcs.length/\z16.toNat < (z3.Blocks).length/\z17.toNat < (z1.Code).length/\z15.toNat=z15.toNat/\z16.toNat=z16.toNat/\z17.toNat=z17.toNat/\KK ((),(Lt.Reader.mk (Lt.Program.mk a0_r.p.SSA a0_r.p.Classes a0_r.p.Globals a0_r.p.Externs (a0_r.p.Funcs.set z15.toNat (Lt.Func.mk (z3.Name) (z3.Result) (z3.Params) (z3.Vars) ((z3.Blocks).set z16.toNat (Lt.Block.mk (z1.Name) (z1.Phis) ((z1.Code).set z17.toNat (Lt.Instr.mk (z4.Op) (z4.Dst) (z4.Name) (z4.Args) ((z4.Frames)++([v15.2]:List Lt.Frame)) (z4.Objs))) (Lt.Term.mk ((z1.End).Kind) ((z1.End).A) ((z1.End).To) ((z1.End).N))))))) a0_r.at_ a0_r.where_ a0_r.first a0_r.long))); (a1_l.length<=4611686018427387904->if (decide (v15.1 < (a1_l.length:Int)))=true then (ab (α:=Lt.Frame) (fun J16=>((0:Int)<=v15.1/\v15.1.toNat<a1_l.length)/\((0:Int)<=(IntKind.i64.wrap (v15.1+1))/\(IntKind.i64.wrap (v15.1+1)).toNat<a1_l.length)/\(True/\exQ (Lt.cv (a1_l.getD v15.1.toNat default)) (fun z21=>True/\exQ z23 (fun z22=>have z25:=([(Lt.Bind.mk z21 z22)]:List Lt.Bind); (v15.2.Vars.length+z25.length<=4611686018427387904/\(v15.2.Vars.length+z25.length)*48<=140737488355328)/\J16 (Lt.Frame.mk v15.2.Func v15.2.Block v15.2.At (v15.2.Vars++z25))) (fun v=>KP v a0_r)) (fun v=>KP v a0_r))/\(True/\exQ (Lt.cv (a1_l.getD v15.1.toNat default)) (fun z18=>(True/\exQ z23 (fun z20=>have z26:=([(Lt.Bind.mk z18 z20)]:List Lt.Bind); (v15.2.Vars.length+z26.length<=4611686018427387904/\(v15.2.Vars.length+z26.length)*48<=140737488355328)/\J16 (Lt.Frame.mk v15.2.Func v15.2.Block v15.2.At (v15.2.Vars++z26))) (fun v=>KP v a0_r))/\(True/\exQ z23 (fun z19=>have z27:=([(Lt.Bind.mk z18 z19)]:List Lt.Bind); have z14:=((v15.2.Vars.length+z27.length<=4611686018427387904/\(v15.2.Vars.length+z27.length)*48<=140737488355328)/\J16 (Lt.Frame.mk v15.2.Func v15.2.Block v15.2.At (v15.2.Vars++z27))); z14/\z14) (fun v=>KP v a0_r))) (fun v=>KP v a0_r))) (fun v17=>R14 ((IntKind.i64.wrap (v15.1+2)),v17))) else ((v15.2.Vars.length<=4611686018427387904->if (decide (16<=(IntKind.i64.wrap ((v15.2.Vars.length:Int) - 1))))=true then (KP (Lt.flt 2) a0_r) else ((a0_r.p.Funcs.length<=4611686018427387904->((0:Int)<=z15/\z15 < ((a0_r.p.Funcs.length:Nat):Int))/\((z3.Blocks).length<=4611686018427387904->((0:Int)<=z16/\z16 < (((z3.Blocks).length:Nat):Int))/\((z1.Code).length<=4611686018427387904->((0:Int)<=z17/\z17 < (((z1.Code).length:Nat):Int))/\((z4.Frames).length<=4611686018427387904->if (decide (16<=((z4.Frames).length:Int)))=true then (KP (Lt.flt 2) a0_r) else (z2/\z2)))))))))) (4,(Lt.Frame.mk v4.Func v4.Block v4.At [])))))
def wd (a0_r:Lt.Reader) (a1_l:List (List UInt8)) (KK:((Unit)×Lt.Reader)->Prop) (KP:Value->Lt.Reader->Prop):Prop:=
 have z13:=(a1_l.drop 2).take (a1_l.length - 2); have z10:=(IntKind.i64.wrap ((a0_r.p.Funcs.length:Int) - 1)); have z3:=(a0_r.p.Funcs.getD z10.toNat default); have z11:=(IntKind.i64.wrap (((z3.Blocks).length:Int) - 1)); have z1:=((z3.Blocks).getD z11.toNat default); have z12:=(IntKind.i64.wrap (((z1.Code).length:Int) - 1)); have z4:=((z1.Code).getD z12.toNat default); if (!(Lt.gO [6,7] a0_r.where_))=true then (KP (Lt.flt 3) a0_r) else (ab (α:=Unit) (fun J1=>(a1_l.length<=4611686018427387904->if (decide (2<=(a1_l.length:Int)))=true then (if (!(decide ((a1_l.length:Int)<=10)))=true then (KP (Lt.flt 3) a0_r) else (J1 ())) else (if (!false)=true then (KP (Lt.flt 3) a0_r) else (J1 ())))) (fun v2=>ab (α:=Lt.Virt) (fun J3=>((0:Int)<=1/\1<a1_l.length)/\(0:Int)<=2/\(2<=a1_l.length/\a1_l.length<=a1_l.length)/\(True/\exQ (Lt.cv (a1_l.getD 1 default)) (fun z7=>((Lt.iZ z13 true)/\exQ (Lt.pF z13 true) (fun z9=>J3 (Lt.Virt.mk z7 z9)) (fun v=>KP v a0_r))/\((Lt.iZ z13 true)/\exQ (Lt.pF z13 true) (fun z8=>J3 (Lt.Virt.mk z7 z8)) (fun v=>KP v a0_r))) (fun v=>KP v a0_r))/\(True/\exQ (Lt.cv (a1_l.getD 1 default)) (fun z5=>(Lt.iZ z13 true)/\exQ (Lt.pF z13 true) (fun z6=>J3 (Lt.Virt.mk z5 z6)) (fun v=>KP v a0_r)) (fun v=>KP v a0_r))) (fun v4=>(a0_r.p.Funcs.length<=4611686018427387904->((0:Int)<=z10/\z10 < ((a0_r.p.Funcs.length:Nat):Int))/\((z3.Blocks).length<=4611686018427387904->((0:Int)<=z11/\z11 < (((z3.Blocks).length:Nat):Int))/\((z1.Code).length<=4611686018427387904->((0:Int)<=z12/\z12 < (((z1.Code).length:Nat):Int))/\((z4.Objs).length<=4611686018427387904->if (decide (99<=((z4.Objs).length:Int)))=true then (KP (Lt.flt 2) a0_r) else (ab (α:=Lt.Reader) (fun J10=>have z2:=(((z4.Objs).length+([v4]:List Lt.Virt).length<=4611686018427387904/\((z4.Objs).length+([v4]:List Lt.Virt).length)*40<=140737488355328)/\z10.toNat<a0_r.p.Funcs.length/\z11.toNat < (z3.Blocks).length/\z12.toNat < (z1.Code).length/\z10.toNat=z10.toNat/\z11.toNat=z11.toNat/\z12.toNat=z12.toNat/\J10 (Lt.Reader.mk (Lt.Program.mk a0_r.p.SSA a0_r.p.Classes a0_r.p.Globals a0_r.p.Externs (a0_r.p.Funcs.set z10.toNat (Lt.Func.mk (z3.Name) (z3.Result) (z3.Params) (z3.Vars) ((z3.Blocks).set z11.toNat (Lt.Block.mk (z1.Name) (z1.Phis) ((z1.Code).set z12.toNat (Lt.Instr.mk (z4.Op) (z4.Dst) (z4.Name) (z4.Args) (z4.Frames) ((z4.Objs)++([v4]:List Lt.Virt)))) (Lt.Term.mk ((z1.End).Kind) ((z1.End).A) ((z1.End).To) ((z1.End).N))))))) a0_r.at_ a0_r.where_ a0_r.first a0_r.long)); z2/\z2) (fun v11=>KK ((),(Lt.Reader.mk v11.p v11.at_ 7 v11.first v11.long)))))))))))
def MP (a0_r:Lt.Reader) (a1_l:List (List UInt8)) (KK:((Unit)×Lt.Reader)->Prop) (KP:Value->Lt.Reader->Prop):Prop:=
 have z11:=(!(decide ((a1_l.length:Int)=2))); have z10:=((0:Int)<=1/\1<a1_l.length); have z9:=(IntKind.i64.wrap ((a0_r.p.Funcs.length:Int) - 1)); have z1:=(a0_r.p.Funcs.getD z9.toNat default); have z8:=(IntKind.i64.wrap (((z1.Blocks).length:Int) - 1)); have z12:=(z1.Blocks).getD z8.toNat default; if (!(Lt.gO [4,5,6,7] a0_r.where_))=true then (KP (Lt.flt 3) a0_r) else (ab (α:=Lt.Term) (fun J1=>((0:Int)<=0/\0<a1_l.length)/\if (decide ((a1_l.getD 0 default)=[106,117,109,112]))=true then ((a1_l.length<=4611686018427387904->if z11=true then (KP (Lt.flt 3) a0_r) else (z10/\True/\exQ (Lt.cv (a1_l.getD 1 default)) (fun z3=>J1 (Lt.Term.mk 1 (Lt.Arg.mk 0 ([]:List UInt8) 0) [z3] 0)) (fun v=>KP v a0_r)))) else (if (decide ((a1_l.getD 0 default)=[98,114,97,110,99,104]))=true then ((a1_l.length<=4611686018427387904->if (!(decide ((a1_l.length:Int)=4)))=true then (KP (Lt.flt 3) a0_r) else (z10/\((0:Int)<=2/\2<a1_l.length)/\((0:Int)<=3/\3<a1_l.length)/\True/\exQ (Lt.yB (a1_l.getD 1 default) false) (fun z4=>True/\exQ (Lt.cv (a1_l.getD 2 default)) (fun z5=>True/\exQ (Lt.cv (a1_l.getD 3 default)) (fun z6=>J1 (Lt.Term.mk 2 z4 [z5,z6] 0)) (fun v=>KP v a0_r)) (fun v=>KP v a0_r)) (fun v=>KP v a0_r)))) else (if (decide ((a1_l.getD 0 default)=[114,101,116]))=true then ((a1_l.length<=4611686018427387904->if z11=true then (KP (Lt.flt 3) a0_r) else (z10/\True/\exQ (Lt.yB (a1_l.getD 1 default) false) (fun z7=>J1 (Lt.Term.mk 3 z7 [] 0)) (fun v=>KP v a0_r)))) else ((a1_l.length<=4611686018427387904->if z11=true then (KP (Lt.flt 3) a0_r) else (z10/\if (!((Lt.eH (a1_l.getD 1 default)).2))=true then (KP (Lt.flt 3) a0_r) else (J1 (Lt.Term.mk 4 (Lt.Arg.mk 0 ([]:List UInt8) 0) [] ((Lt.eH (a1_l.getD 1 default)).1))))))))) (fun v2=>ab (α:=Lt.Reader) (fun J8=>have z2:=((a0_r.p.Funcs.length<=4611686018427387904->((0:Int)<=z9/\z9 < ((a0_r.p.Funcs.length:Nat):Int))/\((z1.Blocks).length<=4611686018427387904->((0:Int)<=z8/\z8 < (((z1.Blocks).length:Nat):Int))/\z9.toNat<a0_r.p.Funcs.length/\z8.toNat < (z1.Blocks).length/\J8 (Lt.Reader.mk (Lt.Program.mk a0_r.p.SSA a0_r.p.Classes a0_r.p.Globals a0_r.p.Externs (a0_r.p.Funcs.set z9.toNat (Lt.Func.mk (z1.Name) (z1.Result) (z1.Params) (z1.Vars) ((z1.Blocks).set z8.toNat (Lt.Block.mk (z12.Name) (z12.Phis) (z12.Code) v2))))) a0_r.at_ a0_r.where_ a0_r.first a0_r.long)))); z2/\z2) (fun v9=>KK ((),(Lt.Reader.mk v9.p v9.at_ 0 v9.first v9.long)))))
def yGo (r:Lt.Reader) (l:List (List UInt8)) (KK:((Unit)×Lt.Reader)->Prop) (KP:Value->Lt.Reader->Prop) (X:Except Value Unit×Lt.Reader):Prop:=
 (r.p.Classes.length<=4611686018427387904->(r.p.Globals.length<=4611686018427387904->(r.p.Externs.length<=4611686018427387904->Lt.az r l/\exP X (fun _ x=>ab (α:=Lt.Reader) (fun J5=>(x.p.Classes.length<=4611686018427387904->(x.p.Globals.length<=4611686018427387904->(x.p.Externs.length<=4611686018427387904->if (decide ((IntKind.i64.wrap ((IntKind.i64.wrap ((r.p.Classes.length:Int)+(r.p.Globals.length:Int)))+(r.p.Externs.length:Int))) < (IntKind.i64.wrap ((IntKind.i64.wrap ((x.p.Classes.length:Int)+(x.p.Globals.length:Int)))+(x.p.Externs.length:Int)))))=true then (J5 (Lt.Reader.mk x.p x.at_ x.where_ x.first (-1))) else (J5 x))))) (fun v=>KK ((),(Lt.Reader.mk v.p v.at_ v.where_ false v.long)))) (fun v x=>KP v x))))
def mW (r:Lt.Reader) (l:List (List UInt8)) (KK:((Unit)×Lt.Reader)->Prop) (KP:Value->Lt.Reader->Prop) (X:Except Value Unit×Lt.Reader):Prop:=
 ab (α:=Bool) (fun J1=>(l.length<=4611686018427387904->if (decide (2 < (l.length:Int)))=true then (((0:Int)<=1/\1<l.length)/\J1 (decide ((l.getD 1 default)=[61]))) else (J1 false))) (fun v2=>if v2=true then yGo r l KK KP (Lt.tH r l) else yGo r l KK KP X)
def Fz (r:Lt.Reader) (l:List (List UInt8)) (KK:((Unit)×Lt.Reader)->Prop) (KP:Value->Lt.Reader->Prop):Prop:=
 ((0:Int)<=0/\0<l.length)/\if decide ((l.getD 0 default)=[115,115,97])=true then mW r l KK KP (Lt.TG r l) else if decide ((l.getD 0 default)=[99,108,97,115,115])=true then mW r l KK KP (Lt.BG r l) else if decide ((l.getD 0 default)=[102,105,101,108,100])=true then mW r l KK KP (Lt.Cw r l) else if decide ((l.getD 0 default)=[103,108,111,98,97,108])=true then mW r l KK KP (Lt.u9 r l) else if decide ((l.getD 0 default)=[101,120,116,101,114,110])=true then mW r l KK KP (Lt.uf r l) else if decide ((l.getD 0 default)=[102,117,110,99])=true then mW r l KK KP (Lt.lV r l) else if decide ((l.getD 0 default)=[112,97,114,97,109])=true then mW r l KK KP (Lt.Ck r l) else if decide ((l.getD 0 default)=[118,97,114])=true then mW r l KK KP (Lt.l8 r l) else if decide ((l.getD 0 default)=[98,108,111,99,107])=true then mW r l KK KP (Lt.Bz r l) else if decide ((l.getD 0 default)=[112,104,105])=true then mW r l KK KP (Lt.WT r l) else if decide ((l.getD 0 default)=[97,116])=true then mW r l KK KP (Lt.Bt r l) else if decide ((l.getD 0 default)=[111,98,106])=true then mW r l KK KP (Lt.mY r l) else if decide ((l.getD 0 default)=[106,117,109,112])=true then mW r l KK KP (Lt.CX r l) else if decide ((l.getD 0 default)=[98,114,97,110,99,104])=true then mW r l KK KP (Lt.CX r l) else if decide ((l.getD 0 default)=[114,101,116])=true then mW r l KK KP (Lt.CX r l) else if decide ((l.getD 0 default)=[116,114,97,112])=true then mW r l KK KP (Lt.CX r l) else mW r l KK KP (Lt.tH r l)
def zL (a0_s:List UInt8) (KK:(Lt.Program×Int×Int)->Prop):Prop:=
 have z1:=Lt.Program.mk false [] [] [] []; if (!decide ((Lt.fq a0_s).2.2=0))=true then (ab (α:=Lt.Program×Int×Int) (fun J1=>have z2:=(J1 (z1,(Lt.fq a0_s).2.1,(Lt.fq a0_s).2.2))/\(J1 (z1,(Lt.fq a0_s).2.1,(Lt.fq a0_s).2.2)); ((J1 (z1,(Lt.fq a0_s).2.1,(Lt.fq a0_s).2.2))/\z2)/\z2/\z2) (fun v2=>KK ((Lt.Program.mk v2.1.SSA [] [] [] []),v2.2.1,v2.2.2))) else ((((Lt.fq a0_s).1).length<=4611686018427387904->aB (α:=Int×Lt.Reader) (fun R3 v4=>have z3:=((Lt.fq a0_s).1).getD v4.1.toNat default; if (decide (v4.1 < (((Lt.fq a0_s).1).length:Int)))=true then (((0:Int)<=v4.1/\v4.1.toNat < ((Lt.fq a0_s).1).length)/\(Lt.az (Lt.Reader.mk v4.2.p (z3.N) v4.2.where_ v4.2.first v4.2.long) (z3.Words))/\exP (Lt.yi (Lt.Reader.mk v4.2.p (z3.N) v4.2.where_ v4.2.first v4.2.long) (z3.Words)) (fun z5 r6=>R3 ((IntKind.i64.wrap (v4.1+1)),r6)) (fun v r6=>∃ n7:Int,v=Lt.flt n7/\(Lit.int .i64 n7).wf=true/\((KK (z1,r6.at_,n7))/\((KK (z1,r6.at_,n7))/\(KK (z1,r6.at_,n7)))))) else (if (!(Lt.gO [0,1] v4.2.where_))=true then (∃ n8:Int,(Lt.flt 3)=Lt.flt n8/\(Lit.int .i64 n8).wf=true/\((KK (z1,0,n8))/\((KK (z1,0,n8))/\(KK (z1,0,n8))))) else (KK (v4.2.p,0,0)))) (0,(Lt.Reader.mk z1 0 0 true (-1)))))
end Go.Am
end

section
namespace Go.Am
open Go
end Go.Am
end

section
namespace Go.Am
open Go
def FR (KK:Bool->Prop):Prop:=
 (Lt.iN (Lt.dl (Lt.Term.mk 3 (Lt.Arg.mk 2 ([]:List UInt8) 5) [] 0)))/\(Lt.iN (Lt.dl (Lt.Term.mk 0 (Lt.Arg.mk 0 ([]:List UInt8) 0) [] 0)))/\ab (α:=Bool) (fun J1=>if (decide ((Lt.aG (Lt.dl (Lt.Term.mk 3 (Lt.Arg.mk 2 ([]:List UInt8) 5) [] 0))).2=0))=true then (if (decide ((Lt.aG (Lt.dl (Lt.Term.mk 3 (Lt.Arg.mk 2 ([]:List UInt8) 5) [] 0))).1=[102,117,110,99,32,102,32,105,110,116,10,98,108,111,99,107,32,98,10,114,101,116,32,53,10]))=true then (J1 (decide ((Lt.aG (Lt.dl (Lt.Term.mk 0 (Lt.Arg.mk 0 ([]:List UInt8) 0) [] 0))).2=1))) else (J1 false)) else (J1 false)) (fun v2=>KK v2)
def WC (a0_p:Lt.Program) (a1_most:Int) (KK:Bool->Prop):Prop:=
 ab (α:=Bool) (fun J1=>(a0_p.Classes.length<=4611686018427387904->if (decide (50 < (a0_p.Classes.length:Int)))=true then (J1 true) else (if (decide (50 < (a0_p.Externs.length:Int)))=true then (J1 true) else (J1 (decide (50 < (a0_p.Funcs.length:Int))))))) (fun v2=>if v2=true then (KK false) else (aB (α:=Int×Int) (fun R3 v4=>have z2:=a0_p.Classes.getD v4.2.toNat default; have z1:=(IntKind.i64.wrap (v4.1+((z2.Name).length:Int))); ab (α:=Bool) (fun J5=>(a0_p.Classes.length<=4611686018427387904->if (decide (v4.2 < (a0_p.Classes.length:Int)))=true then (J5 (decide (v4.1<=a1_most))) else (J5 false))) (fun v6=>if v6=true then (ab (α:=Int) (fun J7=>((0:Int)<=v4.2/\v4.2.toNat<a0_p.Classes.length)/\((z2.Name).length<=4611686018427387904->if (decide (z1<=a1_most))=true then (((0:Int)<=v4.2/\v4.2.toNat<a0_p.Classes.length)/\J7 (IntKind.i64.wrap (z1+(Lt.cP (z2.Fields) a1_most)))) else (J7 z1))) (fun v8=>R3 (v8,(IntKind.i64.wrap (v4.2+1))))) else (aB (α:=Int×Int) (fun R9 v10=>ab (α:=Bool) (fun J11=>(a0_p.Externs.length<=4611686018427387904->if (decide (v10.2 < (a0_p.Externs.length:Int)))=true then (J11 (decide (v10.1<=a1_most))) else (J11 false))) (fun v12=>if v12=true then (((0:Int)<=v10.2/\v10.2.toNat<a0_p.Externs.length)/\(((a0_p.Externs.getD v10.2.toNat default).Name).length<=4611686018427387904->R9 ((IntKind.i64.wrap ((IntKind.i64.wrap (v10.1+1))+(((a0_p.Externs.getD v10.2.toNat default).Name).length:Int))),(IntKind.i64.wrap (v10.2+1))))) else (aB (α:=Int×Int) (fun R13 v14=>ab (α:=Bool) (fun J15=>(a0_p.Funcs.length<=4611686018427387904->if (decide (v14.2 < (a0_p.Funcs.length:Int)))=true then (J15 (decide (v14.1<=a1_most))) else (J15 false))) (fun v16=>if v16=true then (((0:Int)<=v14.2/\v14.2.toNat<a0_p.Funcs.length)/\(Lt.Tz (a0_p.Funcs.getD v14.2.toNat default) a1_most)/\R13 ((IntKind.i64.wrap (v14.1+(Lt.lx (a0_p.Funcs.getD v14.2.toNat default) a1_most))),(IntKind.i64.wrap (v14.2+1)))) else (KK (decide (v14.1<=a1_most))))) (v10.1,0)))) (v4.1,0)))) ((Lt.cP a0_p.Globals a1_most),0)))
def ta (a0_p:Lt.Program) (KK:(List UInt8×Int)->Prop):Prop:=
 if (!(Lt.bb a0_p))=true then (KK (([]:List UInt8),1)) else (ab (α:=Lt.Sheet) (fun J1=>if a0_p.SSA=true then ((Lt.bq (Lt.Sheet.mk []) [[115,115,97]])/\J1 ((Lt.aT (Lt.Sheet.mk []) [[115,115,97]]).2)) else (J1 (Lt.Sheet.mk []))) (fun v2=>(a0_p.Classes.length<=4611686018427387904->aB (α:=Int×Lt.Sheet) (fun R3 v4=>have z2:=a0_p.Classes.getD v4.1.toNat default; if (decide (v4.1 < (a0_p.Classes.length:Int)))=true then (((0:Int)<=v4.1/\v4.1.toNat<a0_p.Classes.length)/\(Lt.bq v4.2 [[99,108,97,115,115],z2.Name])/\(Lt.gX ((Lt.aT v4.2 [[99,108,97,115,115],z2.Name]).2) [102,105,101,108,100] (z2.Fields))/\R3 ((IntKind.i64.wrap (v4.1+1)),((Lt.cO ((Lt.aT v4.2 [[99,108,97,115,115],z2.Name]).2) [102,105,101,108,100] (z2.Fields)).2))) else ((Lt.gX v4.2 [103,108,111,98,97,108] a0_p.Globals)/\(a0_p.Externs.length<=4611686018427387904->aB (α:=Int×Lt.Sheet) (fun R5 v6=>have z3:=a0_p.Externs.getD v6.1.toNat default; if (decide (v6.1 < (a0_p.Externs.length:Int)))=true then (ab (α:=Lt.Sheet) (fun J7=>have z1:=(Lt.gH (z3.N))/\(Lt.bq v6.2 [[101,120,116,101,114,110],z3.Name,(Lt.number (z3.N))])/\J7 ((Lt.aT v6.2 [[101,120,116,101,114,110],z3.Name,(Lt.number (z3.N))]).2); ((0:Int)<=v6.1/\v6.1.toNat<a0_p.Externs.length)/\z1/\z1) (fun v8=>R5 ((IntKind.i64.wrap (v6.1+1)),v8))) else ((a0_p.Funcs.length<=4611686018427387904->aB (α:=Int×Lt.Sheet) (fun R9 v10=>if (decide (v10.1 < (a0_p.Funcs.length:Int)))=true then (((0:Int)<=v10.1/\v10.1.toNat<a0_p.Funcs.length)/\(Lt.pX v10.2 (a0_p.Funcs.getD v10.1.toNat default))/\R9 ((IntKind.i64.wrap (v10.1+1)),((Lt.iF v10.2 (a0_p.Funcs.getD v10.1.toNat default)).2))) else ((Lt.GR v10.2.l)/\((Lt.Join v10.2.l).length<=4611686018427387904->if (decide (4194304 < ((Lt.Join v10.2.l).length:Int)))=true then (KK (([]:List UInt8),2)) else (KK ((Lt.Join v10.2.l),0))))) (0,v6.2)))) (0,((Lt.cO v4.2 [103,108,111,98,97,108] a0_p.Globals).2))))) (0,v2))))
def qb (a0_p:Lt.Program) (KK:Bool->Prop):Prop:=
 ab (α:=Bool) (fun J1=>(a0_p.Classes.length<=4611686018427387904->if (decide (8 < (a0_p.Classes.length:Int)))=true then (J1 true) else (if (decide (8 < (a0_p.Externs.length:Int)))=true then (J1 true) else (if (decide (8 < (a0_p.Funcs.length:Int)))=true then (J1 true) else (J1 (!(Lt.typed a0_p.Globals 8))))))) (fun v2=>if v2=true then (KK false) else ((a0_p.Classes.length<=4611686018427387904->aB (α:=Int) (fun R3 v4=>if (decide (v4 < (a0_p.Classes.length:Int)))=true then (((0:Int)<=v4/\v4.toNat<a0_p.Classes.length)/\ab (α:=Bool) (fun J5=>if (!(Lt.Name ((a0_p.Classes.getD v4.toNat default).Name)))=true then (J5 true) else (J5 (!(Lt.typed ((a0_p.Classes.getD v4.toNat default).Fields) 8)))) (fun v6=>if v6=true then (KK false) else (R3 (IntKind.i64.wrap (v4+1))))) else ((a0_p.Externs.length<=4611686018427387904->aB (α:=Int) (fun R7 v8=>have z1:=a0_p.Externs.getD v8.toNat default; if (decide (v8 < (a0_p.Externs.length:Int)))=true then (((0:Int)<=v8/\v8.toNat<a0_p.Externs.length)/\ab (α:=Bool) (fun J9=>if (!(Lt.Name (z1.Name)))=true then (J9 true) else (if (decide (z1.N < 0))=true then (J9 true) else (J9 (decide (8<z1.N))))) (fun v10=>if v10=true then (KK false) else (R7 (IntKind.i64.wrap (v8+1))))) else ((a0_p.Funcs.length<=4611686018427387904->aB (α:=Int) (fun R11 v12=>if (decide (v12 < (a0_p.Funcs.length:Int)))=true then (((0:Int)<=v12/\v12.toNat<a0_p.Funcs.length)/\if (!(Lt.ax (a0_p.Funcs.getD v12.toNat default)))=true then (KK false) else (R11 (IntKind.i64.wrap (v12+1)))) else (KK true)) 0))) 0))) 0)))
def ZS (a0_op:Int) (KK:(Lt.Form×Bool)->Prop):Prop:=
 ab (α:=Bool) (fun J1=>if (decide (1<=a0_op))=true then (J1 (decide (a0_op<=21))) else (J1 false)) (fun v2=>if v2=true then (KK ((Lt.Form.mk (Lt.nth (32::97::100::100::32::115::117::98::32::109::117::108::32::100::105::118::32::114::101::109::32::97::110::100::32::111::114::32::120::111::114::32::115::104::108::32::115::104::114::32::101::113::32::110::101::32::108::116::32::108::101::32::102::97::100::100::32::102::115::117::98::32::102::109::117::108::32::102::100::105::118::32::102::101::113::32::102::108::116::32::102::108::101::32::([]:List UInt8)) a0_op) true false 2 2),true)) else (ab (α:=Bool) (fun J3=>if (decide (22<=a0_op))=true then (J3 (decide (a0_op<=24))) else (J3 false)) (fun v4=>if v4=true then (KK ((Lt.Form.mk (Lt.nth [32,105,116,111,102,32,102,116,111,105,32,109,111,118,32] (IntKind.i64.wrap (a0_op - 21))) true false 1 1),true)) else (if (decide (a0_op=25))=true then (KK ((Lt.Form.mk [110,101,119] true true 0 8),true)) else (if (decide (a0_op=26))=true then (KK ((Lt.Form.mk [108,111,97,100] true true 1 1),true)) else (if (decide (a0_op=27))=true then (KK ((Lt.Form.mk [115,116,111,114,101] false true 2 2),true)) else (if (decide (a0_op=28))=true then (KK ((Lt.Form.mk [115,97,109,101] true false 2 2),true)) else (if (decide (a0_op=29))=true then (KK ((Lt.Form.mk [103,108,111,97,100] true true 0 0),true)) else (if (decide (a0_op=30))=true then (KK ((Lt.Form.mk [103,115,116,111,114,101] false true 1 1),true)) else (if (decide (a0_op=31))=true then (KK ((Lt.Form.mk [99,97,108,108] true true 0 8),true)) else (if (decide (a0_op=32))=true then (KK ((Lt.Form.mk [101,120,116] true true 0 8),true)) else (if (decide (a0_op=33))=true then (KK ((Lt.Form.mk [111,117,116] false false 1 1),true)) else (if (decide (a0_op=34))=true then (KK ((Lt.Form.mk [103,117,97,114,100] false false 0 0),true)) else (KK ((Lt.Form.mk ([]:List UInt8) false false 0 0),false)))))))))))))))
def Mv (a0_a:Lt.Program) (a1_b:Lt.Program) (KK:Bool->Prop):Prop:=
 ab (α:=Bool) (fun J1=>if (!(a0_a.SSA==a1_b.SSA))=true then (J1 true) else (if (!decide ((a0_a.Classes.length:Int)=(a1_b.Classes.length:Int)))=true then (J1 true) else (if (!(Lt.gL a0_a.Globals a1_b.Globals))=true then (J1 true) else (if (!decide ((a0_a.Externs.length:Int)=(a1_b.Externs.length:Int)))=true then (J1 true) else (J1 (!decide ((a0_a.Funcs.length:Int)=(a1_b.Funcs.length:Int)))))))) (fun v2=>if v2=true then (KK false) else (aB (α:=Int) (fun R3 v4=>(a0_a.Classes.length<=4611686018427387904->if (decide (v4 < (a0_a.Classes.length:Int)))=true then (ab (α:=Bool) (fun J5=>((0:Int)<=v4/\v4.toNat<a0_a.Classes.length)/\((0:Int)<=v4/\v4.toNat<a1_b.Classes.length)/\if (!decide ((a0_a.Classes.getD v4.toNat default).Name=(a1_b.Classes.getD v4.toNat default).Name))=true then (J5 true) else (((0:Int)<=v4/\v4.toNat<a0_a.Classes.length)/\((0:Int)<=v4/\v4.toNat<a1_b.Classes.length)/\J5 (!(Lt.gL ((a0_a.Classes.getD v4.toNat default).Fields) ((a1_b.Classes.getD v4.toNat default).Fields))))) (fun v6=>if v6=true then (KK false) else (R3 (IntKind.i64.wrap (v4+1))))) else (aB (α:=Int) (fun R7 v8=>(a0_a.Externs.length<=4611686018427387904->if (decide (v8 < (a0_a.Externs.length:Int)))=true then (((0:Int)<=v8/\v8.toNat<a0_a.Externs.length)/\((0:Int)<=v8/\v8.toNat<a1_b.Externs.length)/\if (!(decide ((a0_a.Externs.getD v8.toNat default).Name=(a1_b.Externs.getD v8.toNat default).Name)&&decide ((a0_a.Externs.getD v8.toNat default).N=(a1_b.Externs.getD v8.toNat default).N)))=true then (KK false) else (R7 (IntKind.i64.wrap (v8+1)))) else (aB (α:=Int) (fun R9 v10=>(a0_a.Funcs.length<=4611686018427387904->if (decide (v10 < (a0_a.Funcs.length:Int)))=true then (((0:Int)<=v10/\v10.toNat<a0_a.Funcs.length)/\((0:Int)<=v10/\v10.toNat<a1_b.Funcs.length)/\if (!(Lt.oX (a0_a.Funcs.getD v10.toNat default) (a1_b.Funcs.getD v10.toNat default)))=true then (KK false) else (R9 (IntKind.i64.wrap (v10+1)))) else (KK true))) 0))) 0))) 0))
def Co (a0_end:Lt.Term) (KK:Lt.Program->Prop):Prop:=
 KK (Lt.Program.mk false [] [] [] [(Lt.Func.mk [102] [105,110,116] [] [] [(Lt.Block.mk [98] [] [] a0_end)])])
def oQ (a0_l:List Lt.Var) (a1_most:Int) (KK:Int->Prop):Prop:=
 (a0_l.length<=4611686018427387904->if (decide (a1_most < (a0_l.length:Int)))=true then (KK (IntKind.i64.wrap (a1_most+1))) else ((a0_l.length<=4611686018427387904->aB (α:=Int×Int) (fun R1 v2=>ab (α:=Bool) (fun J3=>(a0_l.length<=4611686018427387904->if (decide (v2.2 < (a0_l.length:Int)))=true then (J3 (decide (v2.1<=a1_most))) else (J3 false))) (fun v4=>if v4=true then (ab (α:=Int) (fun J5=>((0:Int)<=v2.2/\v2.2.toNat<a0_l.length)/\(((a0_l.getD v2.2.toNat default).Name).length<=4611686018427387904->if (decide ((IntKind.i64.wrap (v2.1+(((a0_l.getD v2.2.toNat default).Name).length:Int)))<=a1_most))=true then (((0:Int)<=v2.2/\v2.2.toNat<a0_l.length)/\(((a0_l.getD v2.2.toNat default).Type_).length<=4611686018427387904->J5 (IntKind.i64.wrap ((IntKind.i64.wrap (v2.1+(((a0_l.getD v2.2.toNat default).Name).length:Int)))+(((a0_l.getD v2.2.toNat default).Type_).length:Int))))) else (J5 (IntKind.i64.wrap (v2.1+(((a0_l.getD v2.2.toNat default).Name).length:Int)))))) (fun v6=>R1 (v6,(IntKind.i64.wrap (v2.2+1))))) else (KK v2.1))) ((a0_l.length:Int),0))))
def xe (a0_f:Lt.Func) (a1_most:Int) (KK:Int->Prop):Prop:=
 have z3:=(IntKind.i64.wrap (1+(a0_f.Name.length:Int))); (a0_f.Blocks.length<=4611686018427387904->if (decide (a1_most < (a0_f.Blocks.length:Int)))=true then (KK (IntKind.i64.wrap (a1_most+1))) else ((a0_f.Name.length<=4611686018427387904->ab (α:=Int) (fun J1=>if (decide (z3<=a1_most))=true then ((a0_f.Result.length<=4611686018427387904->J1 (IntKind.i64.wrap (z3+(a0_f.Result.length:Int))))) else (J1 z3)) (fun v2=>ab (α:=Int) (fun J3=>if (decide (v2<=a1_most))=true then (J3 (IntKind.i64.wrap (v2+(Lt.cP a0_f.Params a1_most)))) else (J3 v2)) (fun v4=>ab (α:=Int) (fun J5=>if (decide (v4<=a1_most))=true then (J5 (IntKind.i64.wrap (v4+(Lt.cP a0_f.Vars a1_most)))) else (J5 v4)) (fun v6=>aB (α:=Int×Int) (fun R7 v8=>have z1:=a0_f.Blocks.getD v8.2.toNat default; have z2:=Lt.Block.mk (z1.Name) (z1.Phis) (z1.Code) (Lt.Term.mk ((z1.End).Kind) ((z1.End).A) ((z1.End).To) ((z1.End).N)); ab (α:=Bool) (fun J9=>(a0_f.Blocks.length<=4611686018427387904->if (decide (v8.2 < (a0_f.Blocks.length:Int)))=true then (J9 (decide (v8.1<=a1_most))) else (J9 false))) (fun v10=>if v10=true then (((0:Int)<=v8.2/\v8.2.toNat<a0_f.Blocks.length)/\(Lt.WP z2 a1_most)/\R7 ((IntKind.i64.wrap (v8.1+(Lt.fB z2 a1_most))),(IntKind.i64.wrap (v8.2+1)))) else (KK v8.1))) (v6,0)))))))
def pI (a0_s:Lt.Sheet) (a1_words:List (List UInt8)) (KK:((Unit)×Lt.Sheet)->Prop):Prop:=
 (a0_s.l.length+([(Lt.Line.mk 0 a1_words)]:List Lt.Line).length<=4611686018427387904/\(a0_s.l.length+([(Lt.Line.mk 0 a1_words)]:List Lt.Line).length)*32<=140737488355328)/\KK ((),(Lt.Sheet.mk (a0_s.l++([(Lt.Line.mk 0 a1_words)]:List Lt.Line))))
def pL (a0_s:Lt.Sheet) (a1_first:List UInt8) (a2_l:List Lt.Var) (KK:((Unit)×Lt.Sheet)->Prop):Prop:=
 (a2_l.length<=4611686018427387904->aB (α:=Int×Lt.Sheet) (fun R1 v2=>if (decide (v2.1 < (a2_l.length:Int)))=true then (((0:Int)<=v2.1/\v2.1.toNat<a2_l.length)/\(Lt.bq v2.2 [a1_first,(a2_l.getD v2.1.toNat default).Name,(a2_l.getD v2.1.toNat default).Type_])/\R1 ((IntKind.i64.wrap (v2.1+1)),((Lt.aT v2.2 [a1_first,(a2_l.getD v2.1.toNat default).Name,(a2_l.getD v2.1.toNat default).Type_]).2))) else (KK ((),v2.2))) (0,a0_s))
def IR (a0_n:Int) (KK:(List UInt8)->Prop):Prop:=
 (Lt.gH a0_n)/\KK (Lt.ak a0_n)
def jl (a0_s:Lt.Sheet) (a1_f:Lt.Func) (KK:((Unit)×Lt.Sheet)->Prop):Prop:=
 have z4:=(Lt.aT a0_s [[102,117,110,99],a1_f.Name,a1_f.Result]).2; (Lt.bq a0_s [[102,117,110,99],a1_f.Name,a1_f.Result])/\(Lt.gX z4 [112,97,114,97,109] a1_f.Params)/\(Lt.gX ((Lt.cO z4 [112,97,114,97,109] a1_f.Params).2) [118,97,114] a1_f.Vars)/\(a1_f.Blocks.length<=4611686018427387904->aB (α:=Int×Lt.Sheet) (fun R1 v2=>have z2:=a1_f.Blocks.getD v2.1.toNat default; have z7:=Lt.Term.mk ((z2.End).Kind) ((z2.End).A) ((z2.End).To) ((z2.End).N); if (decide (v2.1 < (a1_f.Blocks.length:Int)))=true then (((0:Int)<=v2.1/\v2.1.toNat<a1_f.Blocks.length)/\(Lt.bq v2.2 [[98,108,111,99,107],z2.Name])/\((z2.Phis).length<=4611686018427387904->aB (α:=Int×Lt.Sheet) (fun R3 v4=>have z5:=(z2.Phis).getD v4.1.toNat default; if (decide (v4.1 < ((z2.Phis).length:Int)))=true then (((0:Int)<=v4.1/\v4.1.toNat < (z2.Phis).length)/\((z5.Ins).length<=4611686018427387904->aB (α:=List (List UInt8)×Int) (fun R5 v6=>have z1:=(z5.Ins).getD v6.2.toNat default; have z6:=([z1.Block,(Lt.ac (z1.A))]:List (List UInt8)); if (decide (v6.2 < ((z5.Ins).length:Int)))=true then (ab (α:=List (List UInt8)) (fun J7=>have z3:=((Lt.jm (z1.A))/\(v6.1.length+z6.length<=4611686018427387904/\(v6.1.length+z6.length)*16<=140737488355328)/\J7 (v6.1++z6)); ((0:Int)<=v6.2/\v6.2.toNat < (z5.Ins).length)/\z3/\z3) (fun v8=>R5 (v8,(IntKind.i64.wrap (v6.2+1))))) else ((Lt.bq v4.2 v6.1)/\R3 ((IntKind.i64.wrap (v4.1+1)),((Lt.aT v4.2 v6.1).2)))) ([[112,104,105],z5.Dst],0))) else (((z2.Code).length<=4611686018427387904->aB (α:=Int×Lt.Sheet) (fun R9 v10=>if (decide (v10.1 < ((z2.Code).length:Int)))=true then (((0:Int)<=v10.1/\v10.1.toNat < (z2.Code).length)/\(Lt.GH v10.2 ((z2.Code).getD v10.1.toNat default))/\R9 ((IntKind.i64.wrap (v10.1+1)),((Lt.ra v10.2 ((z2.Code).getD v10.1.toNat default)).2))) else ((Lt.NC v10.2 z7)/\R1 ((IntKind.i64.wrap (v2.1+1)),((Lt.ui v10.2 z7).2)))) (0,v4.2)))) (0,((Lt.aT v2.2 [[98,108,111,99,107],z2.Name]).2)))) else (KK ((),v2.2))) (0,((Lt.cO ((Lt.cO z4 [112,97,114,97,109] a1_f.Params).2) [118,97,114] a1_f.Vars).2)))
def G4 (a0_l:List Lt.Var) (a1_most:Int) (KK:Bool->Prop):Prop:=
 (a0_l.length<=4611686018427387904->if (decide (a1_most < (a0_l.length:Int)))=true then (KK false) else ((a0_l.length<=4611686018427387904->aB (α:=Int) (fun R1 v2=>if (decide (v2 < (a0_l.length:Int)))=true then (((0:Int)<=v2/\v2.toNat<a0_l.length)/\ab (α:=Bool) (fun J3=>if (!(Lt.Name ((a0_l.getD v2.toNat default).Name)))=true then (J3 true) else (J3 (!(Lt.kind ((a0_l.getD v2.toNat default).Type_))))) (fun v4=>if v4=true then (KK false) else (R1 (IntKind.i64.wrap (v2+1))))) else (KK true)) 0)))
def Nt (a0_s:List UInt8) (KK:Bool->Prop):Prop:=
 ab (α:=Bool) (fun J1=>if (decide (a0_s=([]:List UInt8)))=true then (J1 true) else (if (decide (16 < (a0_s.length:Int)))=true then (J1 true) else (((0:Int)<=0/\0<a0_s.length)/\if (!(Lt.letter (a0_s.getD 0 0)))=true then (J1 true) else (J1 (Lt.kept a0_s))))) (fun v2=>if v2=true then (KK false) else ((a0_s.length<=4611686018427387904->aB (α:=Int) (fun R3 v4=>if (decide (v4 < (a0_s.length:Int)))=true then (ab (α:=Bool) (fun J5=>((0:Int)<=v4/\v4.toNat<a0_s.length)/\if (!(Lt.letter (a0_s.getD v4.toNat 0)))=true then (((0:Int)<=v4/\v4.toNat<a0_s.length)/\J5 (!(Lt.fW (a0_s.getD v4.toNat 0)))) else (J5 false)) (fun v6=>if v6=true then (KK false) else (R3 (IntKind.i64.wrap (v4+1))))) else (KK true)) 0)))
def kF (a0_f:Lt.Func) (KK:Bool->Prop):Prop:=
 ab (α:=Bool) (fun J1=>if (!(Lt.Name a0_f.Name))=true then (J1 true) else (if (!(Lt.kind a0_f.Result))=true then (J1 true) else (if (!(Lt.typed a0_f.Params 6))=true then (J1 true) else (if (!(Lt.typed a0_f.Vars 1024))=true then (J1 true) else (if (decide ((a0_f.Blocks.length:Int)=0))=true then (J1 true) else (J1 (decide (256 < (a0_f.Blocks.length:Int))))))))) (fun v2=>if v2=true then (KK false) else ((a0_f.Blocks.length<=4611686018427387904->aB (α:=Int×Int) (fun R3 v4=>have z1:=a0_f.Blocks.getD v4.2.toNat default; have z2:=(IntKind.i64.wrap (v4.1+(IntKind.i64.wrap (((z1.Phis).length:Int)+((z1.Code).length:Int))))); if (decide (v4.2 < (a0_f.Blocks.length:Int)))=true then (((0:Int)<=v4.2/\v4.2.toNat<a0_f.Blocks.length)/\ab (α:=Bool) (fun J5=>((z1.Phis).length<=4611686018427387904->if (decide (1024 < ((z1.Phis).length:Int)))=true then (J5 true) else (J5 (decide (1024 < ((z1.Code).length:Int)))))) (fun v6=>if v6=true then (KK false) else (((z1.Phis).length<=4611686018427387904->((z1.Code).length<=4611686018427387904->ab (α:=Bool) (fun J7=>if (decide (1024<z2))=true then (J7 true) else (J7 (!(Lt.block (Lt.Block.mk (z1.Name) (z1.Phis) (z1.Code) (Lt.Term.mk ((z1.End).Kind) ((z1.End).A) ((z1.End).To) ((z1.End).N))))))) (fun v8=>if v8=true then (KK false) else (R3 (z2,(IntKind.i64.wrap (v4.2+1)))))))))) else (KK true)) (0,0))))
def Ta (a0_list:List UInt8) (a1_n:Int) (KK:(List UInt8)->Prop):Prop:=
 aB (α:=Int×Int×Int) (fun R1 v2=>(a0_list.length<=4611686018427387904->if (decide (v2.2.2 < (a0_list.length:Int)))=true then (ab (α:=Int×Int) (fun J3=>((0:Int)<=v2.2.2/\v2.2.2.toNat<a0_list.length)/\if (!decide ((((a0_list.getD v2.2.2.toNat 0).toNat:Nat):Int)=(((32:UInt8).toNat:Nat):Int)))=true then (J3 (v2.1,v2.2.1)) else (if (decide ((IntKind.i64.wrap (v2.1 - 1))=0))=true then ((0:Int)<=(IntKind.i64.wrap (v2.2.1+1))/\(0:Int)<=v2.2.2/\((IntKind.i64.wrap (v2.2.1+1)).toNat<=v2.2.2.toNat/\v2.2.2.toNat<=a0_list.length)/\KK ((a0_list.drop (IntKind.i64.wrap (v2.2.1+1)).toNat).take (v2.2.2.toNat - (IntKind.i64.wrap (v2.2.1+1)).toNat))) else (J3 ((IntKind.i64.wrap (v2.1 - 1)),v2.2.2)))) (fun v4=>R1 (v4.1,v4.2,(IntKind.i64.wrap (v2.2.2+1))))) else (KK ([]:List UInt8)))) (a1_n,0,1)
def sg (a0_a:List Lt.Var) (a1_b:List Lt.Var) (KK:Bool->Prop):Prop:=
 (a0_a.length<=4611686018427387904->(a1_b.length<=4611686018427387904->if (!decide ((a0_a.length:Int)=(a1_b.length:Int)))=true then (KK false) else (aB (α:=Int) (fun R1 v2=>(a0_a.length<=4611686018427387904->if (decide (v2 < (a0_a.length:Int)))=true then (((0:Int)<=v2/\v2.toNat<a0_a.length)/\((0:Int)<=v2/\v2.toNat<a1_b.length)/\if (!(decide ((a0_a.getD v2.toNat default).Name=(a1_b.getD v2.toNat default).Name)&&decide ((a0_a.getD v2.toNat default).Type_=(a1_b.getD v2.toNat default).Type_)))=true then (KK false) else (R1 (IntKind.i64.wrap (v2+1)))) else (KK true))) 0)))
def sY (a0_a:Lt.Func) (a1_b:Lt.Func) (KK:Bool->Prop):Prop:=
 ab (α:=Bool) (fun J1=>if (!decide (a0_a.Name=a1_b.Name))=true then (J1 true) else (if (!decide (a0_a.Result=a1_b.Result))=true then (J1 true) else (if (!(Lt.gL a0_a.Params a1_b.Params))=true then (J1 true) else (if (!(Lt.gL a0_a.Vars a1_b.Vars))=true then (J1 true) else (J1 (!decide ((a0_a.Blocks.length:Int)=(a1_b.Blocks.length:Int)))))))) (fun v2=>if v2=true then (KK false) else (aB (α:=Int) (fun R3 v4=>have z2:=a1_b.Blocks.getD v4.toNat default; have z1:=a0_a.Blocks.getD v4.toNat default; (a0_a.Blocks.length<=4611686018427387904->if (decide (v4 < (a0_a.Blocks.length:Int)))=true then (((0:Int)<=v4/\v4.toNat<a0_a.Blocks.length)/\((0:Int)<=v4/\v4.toNat<a1_b.Blocks.length)/\if (!(Lt.mn (Lt.Block.mk (z1.Name) (z1.Phis) (z1.Code) (Lt.Term.mk ((z1.End).Kind) ((z1.End).A) ((z1.End).To) ((z1.End).N))) (Lt.Block.mk (z2.Name) (z2.Phis) (z2.Code) (Lt.Term.mk ((z2.End).Kind) ((z2.End).A) ((z2.End).To) ((z2.End).N)))))=true then (KK false) else (R3 (IntKind.i64.wrap (v4+1)))) else (KK true))) 0))
def nk (a0_b:Lt.Block) (a1_most:Int) (KK:Int->Prop):Prop:=
 have z5:=(IntKind.i64.wrap (1+(a0_b.Name.length:Int))); ab (α:=Bool) (fun J1=>(a0_b.Phis.length<=4611686018427387904->if (decide (a1_most < (a0_b.Phis.length:Int)))=true then (J1 true) else (if (decide (a1_most < (a0_b.Code.length:Int)))=true then (J1 true) else (J1 (decide (a1_most < (a0_b.End.To.length:Int))))))) (fun v2=>if v2=true then (KK (IntKind.i64.wrap (a1_most+1))) else ((a0_b.Name.length<=4611686018427387904->ab (α:=Int) (fun J3=>if (decide (z5<=a1_most))=true then ((a0_b.End.A.S.length<=4611686018427387904->J3 (IntKind.i64.wrap (z5+(a0_b.End.A.S.length:Int))))) else (J3 z5)) (fun v4=>aB (α:=Int×Int) (fun R5 v6=>ab (α:=Bool) (fun J7=>(a0_b.End.To.length<=4611686018427387904->if (decide (v6.2 < (a0_b.End.To.length:Int)))=true then (J7 (decide (v6.1<=a1_most))) else (J7 false))) (fun v8=>if v8=true then (((0:Int)<=v6.2/\v6.2.toNat<a0_b.End.To.length)/\((a0_b.End.To.getD v6.2.toNat default).length<=4611686018427387904->R5 ((IntKind.i64.wrap ((IntKind.i64.wrap (v6.1+1))+((a0_b.End.To.getD v6.2.toNat default).length:Int))),(IntKind.i64.wrap (v6.2+1))))) else (aB (α:=Int×Int) (fun R9 v10=>have z3:=((0:Int)<=v10.2/\v10.2.toNat<a0_b.Phis.length); have z1:=a0_b.Phis.getD v10.2.toNat default; ab (α:=Bool) (fun J11=>(a0_b.Phis.length<=4611686018427387904->if (decide (v10.2 < (a0_b.Phis.length:Int)))=true then (J11 (decide (v10.1<=a1_most))) else (J11 false))) (fun v12=>if v12=true then (z3/\((z1.Dst).length<=4611686018427387904->aB (α:=Int×Int) (fun R13 v14=>have z4:=(z1.Ins).getD v14.2.toNat default; have z2:=(IntKind.i64.wrap ((IntKind.i64.wrap (v14.1+1))+((z4.Block).length:Int))); ab (α:=Bool) (fun J15=>z3/\((z1.Ins).length<=4611686018427387904->if (decide (v14.2 < ((z1.Ins).length:Int)))=true then (J15 (decide (v14.1<=a1_most))) else (J15 false))) (fun v16=>if v16=true then (ab (α:=Int) (fun J17=>z3/\((0:Int)<=v14.2/\v14.2.toNat < (z1.Ins).length)/\((z4.Block).length<=4611686018427387904->if (decide (z2<=a1_most))=true then (z3/\((0:Int)<=v14.2/\v14.2.toNat < (z1.Ins).length)/\(((z4.A).S).length<=4611686018427387904->J17 (IntKind.i64.wrap (z2+(((z4.A).S).length:Int))))) else (J17 z2))) (fun v18=>R13 (v18,(IntKind.i64.wrap (v14.2+1))))) else (R9 (v14.1,(IntKind.i64.wrap (v10.2+1)))))) ((IntKind.i64.wrap ((IntKind.i64.wrap (v10.1+1))+((z1.Dst).length:Int))),0))) else (aB (α:=Int×Int) (fun R19 v20=>ab (α:=Bool) (fun J21=>(a0_b.Code.length<=4611686018427387904->if (decide (v20.2 < (a0_b.Code.length:Int)))=true then (J21 (decide (v20.1<=a1_most))) else (J21 false))) (fun v22=>if v22=true then (((0:Int)<=v20.2/\v20.2.toNat<a0_b.Code.length)/\(Lt.VK (a0_b.Code.getD v20.2.toNat default) a1_most)/\R19 ((IntKind.i64.wrap (v20.1+(Lt.fI (a0_b.Code.getD v20.2.toNat default) a1_most))),(IntKind.i64.wrap (v20.2+1)))) else (KK v20.1))) (v10.1,0)))) (v6.1,0)))) (v4,0)))))
def wi (a0_a:Lt.Arg) (KK:(List UInt8)->Prop):Prop:=
 if (!(Lt.aJ a0_a))=true then (KK ([]:List UInt8)) else (if (decide (a0_a.Kind=2))=true then ((Lt.gH a0_a.N)/\KK (Lt.ak a0_a.N)) else (if (decide (a0_a.Kind=3))=true then (KK (Lt.dK a0_a.N)) else (if (decide (a0_a.Kind=4))=true then (KK [110,117,108,108]) else (if (decide (a0_a.Kind=5))=true then ((Lt.gH a0_a.N)/\[35].length+(Lt.ak a0_a.N).length<=4611686018427387904/\KK ([35]++(Lt.ak a0_a.N))) else (KK a0_a.S)))))
def pV (a0_s:Lt.Sheet) (a1_i:Lt.Instr) (KK:((Unit)×Lt.Sheet)->Prop):Prop:=
 have z11:=([a1_i.Name]:List (List UInt8)); have z8:=([((Lt.puts a1_i.Args).getD 0 default),a1_i.Name]:List (List UInt8)); have z4:=([((Lt.Of a1_i.Op).1).Word]:List (List UInt8)); ab (α:=List (List UInt8)) (fun J1=>if (((Lt.Of a1_i.Op).1).Dst)=true then ((([]:List (List UInt8)).length+([a1_i.Dst,[61]]:List (List UInt8)).length<=4611686018427387904/\(([]:List (List UInt8)).length+([a1_i.Dst,[61]]:List (List UInt8)).length)*16<=140737488355328)/\J1 [a1_i.Dst,[61]]) else (J1 [])) (fun v2=>(v2.length+z4.length<=4611686018427387904/\(v2.length+z4.length)*16<=140737488355328)/\(Lt.zj a1_i.Args)/\ab (α:=List (List UInt8)×List (List UInt8)) (fun J3=>ab (α:=Bool) (fun J5=>if (decide (a1_i.Op=26))=true then (J5 true) else (J5 (decide (a1_i.Op=27)))) (fun v6=>if v6=true then (((0:Int)<=0/\0 < (Lt.puts a1_i.Args).length)/\((v2++z4).length+z8.length<=4611686018427387904/\((v2++z4).length+z8.length)*16<=140737488355328)/\(0:Int)<=1/\(1<=(Lt.puts a1_i.Args).length/\(Lt.puts a1_i.Args).length<=(Lt.puts a1_i.Args).length)/\J3 (((v2++z4)++z8),(((Lt.puts a1_i.Args).drop 1).take ((Lt.puts a1_i.Args).length - 1)))) else (if (((Lt.Of a1_i.Op).1).Named)=true then (((v2++z4).length+z11.length<=4611686018427387904/\((v2++z4).length+z11.length)*16<=140737488355328)/\J3 (((v2++z4)++z11),(Lt.puts a1_i.Args))) else (J3 ((v2++z4),(Lt.puts a1_i.Args)))))) (fun v4=>(v4.1.length+v4.2.length<=4611686018427387904/\(v4.1.length+v4.2.length)*16<=140737488355328)/\(Lt.bq a0_s (v4.1++v4.2))/\(a1_i.Frames.length<=4611686018427387904->aB (α:=Int×Lt.Sheet) (fun R7 v8=>have z2:=a1_i.Frames.getD v8.1.toNat default; if (decide (v8.1 < (a1_i.Frames.length:Int)))=true then (((0:Int)<=v8.1/\v8.1.toNat<a1_i.Frames.length)/\ab (α:=List (List UInt8)) (fun J9=>have z5:=(Lt.gH (z2.At))/\J9 [[97,116],z2.Func,z2.Block,(Lt.number (z2.At))]; (z5/\z5)/\(z5/\z5)/\z5) (fun v10=>((z2.Vars).length<=4611686018427387904->aB (α:=List (List UInt8)×Int) (fun R11 v12=>have z10:=(z2.Vars).getD v12.2.toNat default; have z3:=([z10.Name,(Lt.ac (z10.A))]:List (List UInt8)); if (decide (v12.2 < ((z2.Vars).length:Int)))=true then (ab (α:=List (List UInt8)) (fun J13=>have z7:=(Lt.jm (z10.A))/\(v12.1.length+z3.length<=4611686018427387904/\(v12.1.length+z3.length)*16<=140737488355328)/\J13 (v12.1++z3); ((0:Int)<=v12.2/\v12.2.toNat < (z2.Vars).length)/\z7/\z7) (fun v14=>R11 (v14,(IntKind.i64.wrap (v12.2+1))))) else ((Lt.bq v8.2 v12.1)/\R7 ((IntKind.i64.wrap (v8.1+1)),((Lt.aT v8.2 v12.1).2)))) (v10,0)))) else ((a1_i.Objs.length<=4611686018427387904->aB (α:=Int×Lt.Sheet) (fun R15 v16=>have z6:=a1_i.Objs.getD v16.1.toNat default; have z9:=([[111,98,106],z6.Class]:List (List UInt8)); if (decide (v16.1 < (a1_i.Objs.length:Int)))=true then (ab (α:=Lt.Sheet) (fun J17=>have z1:=((Lt.zj (z6.Vals))/\(z9.length+(Lt.puts (z6.Vals)).length<=4611686018427387904/\(z9.length+(Lt.puts (z6.Vals)).length)*16<=140737488355328)/\(Lt.bq v16.2 (z9++(Lt.puts (z6.Vals))))/\J17 ((Lt.aT v16.2 (z9++(Lt.puts (z6.Vals)))).2)); ((0:Int)<=v16.1/\v16.1.toNat<a1_i.Objs.length)/\(z1/\(z1/\z1))/\((z1/\z1)/\z1)) (fun v18=>R15 ((IntKind.i64.wrap (v16.1+1)),v18))) else (KK ((),v16.2))) (0,v8.2)))) (0,((Lt.aT a0_s (v4.1++v4.2)).2)))))
def sT (a0_s:Lt.Sheet) (a1_t:Lt.Term) (KK:((Unit)×Lt.Sheet)->Prop):Prop:=
 have z5:=a1_t.To.getD 0 default; have z4:=((0:Int)<=1/\1<a1_t.To.length); have z3:=((0:Int)<=0/\0<a1_t.To.length); have z2:=Lt.bq a0_s [[98,114,97,110,99,104],(Lt.ac a1_t.A),z5,(a1_t.To.getD 1 default)]; have z1:=(Lt.aT a0_s [[98,114,97,110,99,104],(Lt.ac a1_t.A),z5,(a1_t.To.getD 1 default)]).2; if (decide (a1_t.Kind=1))=true then (z3/\(Lt.bq a0_s [[106,117,109,112],z5])/\KK ((),((Lt.aT a0_s [[106,117,109,112],z5]).2))) else (if (decide (a1_t.Kind=2))=true then (((Lt.jm a1_t.A)/\z3/\z4/\z2/\KK ((),z1))/\(z3/\((Lt.jm a1_t.A)/\z4/\z2/\KK ((),z1))/\(z4/\(Lt.jm a1_t.A)/\z2/\KK ((),z1)))/\(z4/\((Lt.jm a1_t.A)/\z3/\z2/\KK ((),z1))/\(z3/\(Lt.jm a1_t.A)/\z2/\KK ((),z1)))) else (if (decide (a1_t.Kind=3))=true then ((Lt.jm a1_t.A)/\(Lt.bq a0_s [[114,101,116],(Lt.ac a1_t.A)])/\KK ((),((Lt.aT a0_s [[114,101,116],(Lt.ac a1_t.A)]).2))) else ((Lt.gH a1_t.N)/\(Lt.bq a0_s [[116,114,97,112],(Lt.ak a1_t.N)])/\KK ((),((Lt.aT a0_s [[116,114,97,112],(Lt.ak a1_t.N)]).2)))))
def Mr (a0_s:List UInt8) (KK:Bool->Prop):Prop:=
 ab (α:=Bool) (fun J1=>if (decide (a0_s=[105,110,116]))=true then (J1 true) else (if (decide (a0_s=[102,108,111,97,116]))=true then (J1 true) else (J1 (Lt.Name a0_s)))) (fun v2=>KK v2)
def zD (a0_c:UInt8) (KK:Bool->Prop):Prop:=
 ab (α:=Bool) (fun J1=>if (decide ((((97:UInt8).toNat:Nat):Int)<=((a0_c.toNat:Nat):Int)))=true then (if (decide (((a0_c.toNat:Nat):Int)<=(((122:UInt8).toNat:Nat):Int)))=true then (J1 true) else (if (decide ((((65:UInt8).toNat:Nat):Int)<=((a0_c.toNat:Nat):Int)))=true then (if (decide (((a0_c.toNat:Nat):Int)<=(((90:UInt8).toNat:Nat):Int)))=true then (J1 true) else (J1 (decide (((a0_c.toNat:Nat):Int)=(((95:UInt8).toNat:Nat):Int))))) else (J1 (decide (((a0_c.toNat:Nat):Int)=(((95:UInt8).toNat:Nat):Int)))))) else (if (decide ((((65:UInt8).toNat:Nat):Int)<=((a0_c.toNat:Nat):Int)))=true then (if (decide (((a0_c.toNat:Nat):Int)<=(((90:UInt8).toNat:Nat):Int)))=true then (J1 true) else (J1 (decide (((a0_c.toNat:Nat):Int)=(((95:UInt8).toNat:Nat):Int))))) else (J1 (decide (((a0_c.toNat:Nat):Int)=(((95:UInt8).toNat:Nat):Int)))))) (fun v2=>KK v2)
def Ov (a0_s:List UInt8) (KK:Bool->Prop):Prop:=
 ab (α:=Bool) (fun J1=>if (decide (a0_s=[110,117,108,108]))=true then (J1 true) else (if (decide (a0_s=[105,110,116]))=true then (J1 true) else (J1 (decide (a0_s=[102,108,111,97,116]))))) (fun v2=>KK v2)
def qh (a0_c:UInt8) (KK:Bool->Prop):Prop:=
 if (decide ((((48:UInt8).toNat:Nat):Int)<=((a0_c.toNat:Nat):Int)))=true then (KK (decide (((a0_c.toNat:Nat):Int)<=(((57:UInt8).toNat:Nat):Int)))) else (KK false)
def FQ (a0_b:Lt.Block) (KK:Bool->Prop):Prop:=
 ab (α:=Bool) (fun J1=>if (!(Lt.Name a0_b.Name))=true then (J1 true) else (J1 (!(Lt.cr a0_b.End)))) (fun v2=>if v2=true then (KK false) else ((a0_b.Phis.length<=4611686018427387904->aB (α:=Int) (fun R3 v4=>if (decide (v4 < (a0_b.Phis.length:Int)))=true then (((0:Int)<=v4/\v4.toNat<a0_b.Phis.length)/\if (!(Lt.phi (a0_b.Phis.getD v4.toNat default)))=true then (KK false) else (R3 (IntKind.i64.wrap (v4+1)))) else ((a0_b.Code.length<=4611686018427387904->aB (α:=Int) (fun R5 v6=>if (decide (v6 < (a0_b.Code.length:Int)))=true then (((0:Int)<=v6/\v6.toNat<a0_b.Code.length)/\if (!(Lt.instr (a0_b.Code.getD v6.toNat default)))=true then (KK false) else (R5 (IntKind.i64.wrap (v6+1)))) else (KK true)) 0))) 0)))
def o8 (a0_a:Lt.Block) (a1_b:Lt.Block) (KK:Bool->Prop):Prop:=
 ab (α:=Bool) (fun J1=>if (!decide (a0_a.Name=a1_b.Name))=true then (J1 true) else (if (!decide ((a0_a.Phis.length:Int)=(a1_b.Phis.length:Int)))=true then (J1 true) else (if (!decide ((a0_a.Code.length:Int)=(a1_b.Code.length:Int)))=true then (J1 true) else (if (!decide (a0_a.End.Kind=a1_b.End.Kind))=true then (J1 true) else (if (!(decide (a0_a.End.A.Kind=a1_b.End.A.Kind)&&(decide (a0_a.End.A.S=a1_b.End.A.S)&&decide (a0_a.End.A.N=a1_b.End.A.N))))=true then (J1 true) else (if (!decide (a0_a.End.N=a1_b.End.N))=true then (J1 true) else (J1 (!decide ((a0_a.End.To.length:Int)=(a1_b.End.To.length:Int)))))))))) (fun v2=>if v2=true then (KK false) else (aB (α:=Int) (fun R3 v4=>(a0_a.End.To.length<=4611686018427387904->if (decide (v4 < (a0_a.End.To.length:Int)))=true then (((0:Int)<=v4/\v4.toNat<a0_a.End.To.length)/\((0:Int)<=v4/\v4.toNat<a1_b.End.To.length)/\if (!decide ((a0_a.End.To.getD v4.toNat default)=(a1_b.End.To.getD v4.toNat default)))=true then (KK false) else (R3 (IntKind.i64.wrap (v4+1)))) else (aB (α:=Int) (fun R5 v6=>have z5:=((0:Int)<=v6/\v6.toNat<a1_b.Phis.length); have z4:=a1_b.Phis.getD v6.toNat default; have z3:=((0:Int)<=v6/\v6.toNat<a0_a.Phis.length); have z1:=(a0_a.Phis.getD v6.toNat default).Ins; (a0_a.Phis.length<=4611686018427387904->if (decide (v6 < (a0_a.Phis.length:Int)))=true then (ab (α:=Bool) (fun J7=>z3/\z5/\if (!decide ((a0_a.Phis.getD v6.toNat default).Dst=z4.Dst))=true then (J7 true) else (z3/\z5/\J7 (!decide ((z1.length:Int)=((z4.Ins).length:Int))))) (fun v8=>if v8=true then (KK false) else (aB (α:=Int) (fun R9 v10=>have z6:=z1.getD v10.toNat default; have z2:=(z4.Ins).getD v10.toNat default; z3/\(z1.length<=4611686018427387904->if (decide (v10 < (z1.length:Int)))=true then (z3/\((0:Int)<=v10/\v10.toNat<z1.length)/\z5/\((0:Int)<=v10/\v10.toNat < (z4.Ins).length)/\if (!(decide (z6.Block=z2.Block)&&(decide ((z6.A).Kind=(z2.A).Kind)&&(decide ((z6.A).S=(z2.A).S)&&decide ((z6.A).N=(z2.A).N)))))=true then (KK false) else (R9 (IntKind.i64.wrap (v10+1)))) else (R5 (IntKind.i64.wrap (v6+1))))) 0))) else (aB (α:=Int) (fun R11 v12=>(a0_a.Code.length<=4611686018427387904->if (decide (v12 < (a0_a.Code.length:Int)))=true then (((0:Int)<=v12/\v12.toNat<a0_a.Code.length)/\((0:Int)<=v12/\v12.toNat<a1_b.Code.length)/\if (!(Lt.mz (a0_a.Code.getD v12.toNat default) (a1_b.Code.getD v12.toNat default)))=true then (KK false) else (R11 (IntKind.i64.wrap (v12+1)))) else (KK true))) 0))) 0))) 0))
def nZ (a0_x:Lt.Instr) (a1_most:Int) (KK:Int->Prop):Prop:=
 have z2:=(IntKind.i64.wrap ((IntKind.i64.wrap ((IntKind.i64.wrap (1+(a0_x.Dst.length:Int)))+(a0_x.Frames.length:Int)))+(a0_x.Objs.length:Int))); ab (α:=Bool) (fun J1=>(a0_x.Frames.length<=4611686018427387904->if (decide (a1_most < (a0_x.Frames.length:Int)))=true then (J1 true) else (J1 (decide (a1_most < (a0_x.Objs.length:Int)))))) (fun v2=>if v2=true then (KK (IntKind.i64.wrap (a1_most+1))) else ((a0_x.Dst.length<=4611686018427387904->(a0_x.Frames.length<=4611686018427387904->(a0_x.Objs.length<=4611686018427387904->ab (α:=Int) (fun J3=>if (decide (z2<=a1_most))=true then ((a0_x.Name.length<=4611686018427387904->J3 (IntKind.i64.wrap (z2+(a0_x.Name.length:Int))))) else (J3 z2)) (fun v4=>ab (α:=Int) (fun J5=>if (decide (v4<=a1_most))=true then (J5 (IntKind.i64.wrap (v4+(Lt.fe a0_x.Args a1_most)))) else (J5 v4)) (fun v6=>aB (α:=Int×Int) (fun R7 v8=>have z4:=((0:Int)<=v8.2/\v8.2.toNat<a0_x.Frames.length); have z1:=a0_x.Frames.getD v8.2.toNat default; have z6:=(IntKind.i64.wrap (v8.1+((z1.Func).length:Int))); ab (α:=Bool) (fun J9=>(a0_x.Frames.length<=4611686018427387904->if (decide (v8.2 < (a0_x.Frames.length:Int)))=true then (J9 (decide (v8.1<=a1_most))) else (J9 false))) (fun v10=>if v10=true then (z4/\((z1.Func).length<=4611686018427387904->ab (α:=Int) (fun J11=>if (decide (z6<=a1_most))=true then (z4/\((z1.Block).length<=4611686018427387904->J11 (IntKind.i64.wrap (z6+((z1.Block).length:Int))))) else (J11 z6)) (fun v12=>aB (α:=Int×Int) (fun R13 v14=>have z7:=(z1.Vars).getD v14.2.toNat default; have z3:=(IntKind.i64.wrap ((IntKind.i64.wrap (v14.1+1))+((z7.Name).length:Int))); ab (α:=Bool) (fun J15=>z4/\((z1.Vars).length<=4611686018427387904->if (decide (v14.2 < ((z1.Vars).length:Int)))=true then (J15 (decide (v14.1<=a1_most))) else (J15 false))) (fun v16=>if v16=true then (ab (α:=Int) (fun J17=>z4/\((0:Int)<=v14.2/\v14.2.toNat < (z1.Vars).length)/\((z7.Name).length<=4611686018427387904->if (decide (z3<=a1_most))=true then (z4/\((0:Int)<=v14.2/\v14.2.toNat < (z1.Vars).length)/\(((z7.A).S).length<=4611686018427387904->J17 (IntKind.i64.wrap (z3+(((z7.A).S).length:Int))))) else (J17 z3))) (fun v18=>R13 (v18,(IntKind.i64.wrap (v14.2+1))))) else (R7 (v14.1,(IntKind.i64.wrap (v8.2+1)))))) (v12,0)))) else (aB (α:=Int×Int) (fun R19 v20=>have z8:=a0_x.Objs.getD v20.2.toNat default; have z5:=(IntKind.i64.wrap (v20.1+((z8.Class).length:Int))); ab (α:=Bool) (fun J21=>(a0_x.Objs.length<=4611686018427387904->if (decide (v20.2 < (a0_x.Objs.length:Int)))=true then (J21 (decide (v20.1<=a1_most))) else (J21 false))) (fun v22=>if v22=true then (ab (α:=Int) (fun J23=>((0:Int)<=v20.2/\v20.2.toNat<a0_x.Objs.length)/\((z8.Class).length<=4611686018427387904->if (decide (z5<=a1_most))=true then (((0:Int)<=v20.2/\v20.2.toNat<a0_x.Objs.length)/\J23 (IntKind.i64.wrap (z5+(Lt.fe (z8.Vals) a1_most)))) else (J23 z5))) (fun v24=>R19 (v24,(IntKind.i64.wrap (v20.2+1))))) else (KK v20.1))) (v8.1,0)))) (v6,0))))))))
def px (a0_a:Lt.Arg) (KK:Bool->Prop):Prop:=
 if (decide (a0_a.Kind=1))=true then (if (Lt.Name a0_a.S)=true then (KK (decide (a0_a.N=0))) else (KK false)) else (if (decide (a0_a.Kind=2))=true then (KK (decide (a0_a.S=([]:List UInt8)))) else (if (decide (a0_a.Kind=3))=true then (ab (α:=Bool) (fun J1=>if (decide (a0_a.S=([]:List UInt8)))=true then ((J1 (decide ((Lt.Plain a0_a.N)=a0_a.N)))/\(J1 (decide ((Lt.Plain a0_a.N)=a0_a.N)))) else ((J1 false)/\(J1 false))) (fun v2=>KK v2)) else (if (decide (a0_a.Kind=4))=true then (if (decide (a0_a.S=([]:List UInt8)))=true then (KK (decide (a0_a.N=0))) else (KK false)) else (if (decide (a0_a.Kind=5))=true then (ab (α:=Bool) (fun J3=>if (decide (a0_a.S=([]:List UInt8)))=true then (if (decide (0<=a0_a.N))=true then (J3 (decide (a0_a.N<=999))) else (J3 false)) else (J3 false)) (fun v4=>KK v4)) else (KK false)))))
def Cl (a0_n:Int) (KK:(List UInt8)->Prop):Prop:=
 have z2:=([48,49,50,51,52,53,54,55,56,57,97,98,99,100,101,102]:List UInt8); aB (α:=List UInt8×Int) (fun R1 v2=>have z1:=(IntKind.u64.wrap ((BitVec.ofInt IntKind.u64.bits (Int.fdiv (IntKind.u64.wrap (Lt.Plain a0_n)) (2 ^ (min (IntKind.u64.wrap v2.2).toNat IntKind.u64.bits))) &&& BitVec.ofInt IntKind.u64.bits 15).toNat:Nat)); have z3:=([(z2.getD z1.toNat 0)]:List UInt8); if (decide (0<=v2.2))=true then ((0:Int)<=(IntKind.u64.wrap v2.2)/\((0:Int)<=z1/\z1.toNat<z2.length)/\(v2.1.length+z3.length<=4611686018427387904/\(v2.1.length+z3.length)*1<=140737488355328)/\R1 ((v2.1++z3),(IntKind.i64.wrap (v2.2 - 4)))) else (KK v2.1)) ([(48:UInt8),(102:UInt8)],60)
def NP (a0_l:List Lt.Arg) (KK:(List (List UInt8))->Prop):Prop:=
 (a0_l.length<=4611686018427387904->aB (α:=List (List UInt8)×Int) (fun R1 v2=>if (decide (v2.2 < (a0_l.length:Int)))=true then (((0:Int)<=v2.2/\v2.2.toNat<a0_l.length)/\(Lt.jm (a0_l.getD v2.2.toNat default))/\(v2.1.length+([(Lt.ac (a0_l.getD v2.2.toNat default))]:List (List UInt8)).length<=4611686018427387904/\(v2.1.length+([(Lt.ac (a0_l.getD v2.2.toNat default))]:List (List UInt8)).length)*16<=140737488355328)/\R1 ((v2.1++([(Lt.ac (a0_l.getD v2.2.toNat default))]:List (List UInt8))),(IntKind.i64.wrap (v2.2+1)))) else (KK v2.1)) ([],0))
def vR (a0_t:Lt.Term) (KK:Bool->Prop):Prop:=
 (a0_t.To.length<=4611686018427387904->aB (α:=Int) (fun R1 v2=>if (decide (v2 < (a0_t.To.length:Int)))=true then (((0:Int)<=v2/\v2.toNat<a0_t.To.length)/\if (!(Lt.Name (a0_t.To.getD v2.toNat default)))=true then (KK false) else (R1 (IntKind.i64.wrap (v2+1)))) else (if (decide (a0_t.Kind=1))=true then (ab (α:=Bool) (fun J3=>if (decide (a0_t.A.Kind=0)&&(decide (a0_t.A.S=([]:List UInt8))&&decide (a0_t.A.N=0)))=true then (if (decide ((a0_t.To.length:Int)=1))=true then (J3 (decide (a0_t.N=0))) else (J3 false)) else (J3 false)) (fun v4=>KK v4)) else (if (decide (a0_t.Kind=2))=true then (ab (α:=Bool) (fun J5=>if (Lt.bx [a0_t.A] false)=true then (if (decide ((a0_t.To.length:Int)=2))=true then (J5 (decide (a0_t.N=0))) else (J5 false)) else (J5 false)) (fun v6=>KK v6)) else (if (decide (a0_t.Kind=3))=true then (ab (α:=Bool) (fun J7=>if (Lt.bx [a0_t.A] false)=true then (if (decide ((a0_t.To.length:Int)=0))=true then (J7 (decide (a0_t.N=0))) else (J7 false)) else (J7 false)) (fun v8=>KK v8)) else (if (decide (a0_t.Kind=4))=true then (if (decide (a0_t.A.Kind=0)&&(decide (a0_t.A.S=([]:List UInt8))&&decide (a0_t.A.N=0)))=true then (KK (decide ((a0_t.To.length:Int)=0))) else (KK false)) else (KK false)))))) 0)
def TI (a0_x:Lt.Phi) (KK:Bool->Prop):Prop:=
 ab (α:=Bool) (fun J1=>if (!(Lt.Name a0_x.Dst))=true then (J1 true) else (if (decide ((a0_x.Ins.length:Int)=0))=true then (J1 true) else (J1 (decide (256 < (a0_x.Ins.length:Int)))))) (fun v2=>if v2=true then (KK false) else ((a0_x.Ins.length<=4611686018427387904->aB (α:=Int) (fun R3 v4=>if (decide (v4 < (a0_x.Ins.length:Int)))=true then (((0:Int)<=v4/\v4.toNat<a0_x.Ins.length)/\ab (α:=Bool) (fun J5=>if (!(Lt.Name ((a0_x.Ins.getD v4.toNat default).Block)))=true then (J5 true) else (J5 (!(Lt.bx [((a0_x.Ins.getD v4.toNat default).A)] false)))) (fun v6=>if v6=true then (KK false) else (R3 (IntKind.i64.wrap (v4+1))))) else (KK true)) 0)))
def Ic (a0_i:Lt.Instr) (KK:Bool->Prop):Prop:=
 ab (α:=Bool) (fun J1=>if (!((Lt.Of a0_i.Op).2))=true then (J1 true) else (if (!(((Lt.Of a0_i.Op).1).Dst==(!decide (a0_i.Dst=([]:List UInt8)))))=true then (J1 true) else (if (!(((Lt.Of a0_i.Op).1).Named==(!decide (a0_i.Name=([]:List UInt8)))))=true then (J1 true) else (if (((Lt.Of a0_i.Op).1).Dst)=true then (if (!(Lt.Name a0_i.Dst))=true then (J1 true) else (if (((Lt.Of a0_i.Op).1).Named)=true then (J1 (!(Lt.Name a0_i.Name))) else (J1 false))) else (if (((Lt.Of a0_i.Op).1).Named)=true then (J1 (!(Lt.Name a0_i.Name))) else (J1 false)))))) (fun v2=>if v2=true then (KK false) else (ab (α:=Bool) (fun J3=>(a0_i.Args.length<=4611686018427387904->if (decide ((a0_i.Args.length:Int) < ((Lt.Of a0_i.Op).1).Least))=true then (J3 true) else (if (decide (((Lt.Of a0_i.Op).1).Most < (a0_i.Args.length:Int)))=true then (J3 true) else (if (!(Lt.bx a0_i.Args false))=true then (J3 true) else (if (decide (16 < (a0_i.Frames.length:Int)))=true then (J3 true) else (J3 (decide (99 < (a0_i.Objs.length:Int))))))))) (fun v4=>if v4=true then (KK false) else (ab (α:=Bool) (fun J5=>if (!decide (a0_i.Op=31))=true then (J5 (!decide (a0_i.Op=34))) else (J5 false)) (fun v6=>if v6=true then ((a0_i.Frames.length<=4611686018427387904->if (decide ((a0_i.Frames.length:Int)=0))=true then (KK (decide ((a0_i.Objs.length:Int)=0))) else (KK false))) else ((a0_i.Frames.length<=4611686018427387904->aB (α:=Int) (fun R7 v8=>if (decide (v8 < (a0_i.Frames.length:Int)))=true then (((0:Int)<=v8/\v8.toNat<a0_i.Frames.length)/\if (!(Lt.frame (a0_i.Frames.getD v8.toNat default)))=true then (KK false) else (R7 (IntKind.i64.wrap (v8+1)))) else ((a0_i.Objs.length<=4611686018427387904->aB (α:=Int) (fun R9 v10=>have z1:=a0_i.Objs.getD v10.toNat default; if (decide (v10 < (a0_i.Objs.length:Int)))=true then (((0:Int)<=v10/\v10.toNat<a0_i.Objs.length)/\ab (α:=Bool) (fun J11=>if (!(Lt.Name (z1.Class)))=true then (J11 true) else (if (decide (8 < ((z1.Vals).length:Int)))=true then (J11 true) else (J11 (!(Lt.bx (z1.Vals) true))))) (fun v12=>if v12=true then (KK false) else (R9 (IntKind.i64.wrap (v10+1))))) else (KK true)) 0))) 0)))))))
def pS (a0_a:Lt.Instr) (a1_b:Lt.Instr) (KK:Bool->Prop):Prop:=
 ab (α:=Bool) (fun J1=>if (!decide (a0_a.Op=a1_b.Op))=true then (J1 true) else (if (!decide (a0_a.Dst=a1_b.Dst))=true then (J1 true) else (if (!decide (a0_a.Name=a1_b.Name))=true then (J1 true) else (if (!(Lt.lU a0_a.Args a1_b.Args))=true then (J1 true) else (if (!decide ((a0_a.Frames.length:Int)=(a1_b.Frames.length:Int)))=true then (J1 true) else (J1 (!decide ((a0_a.Objs.length:Int)=(a1_b.Objs.length:Int))))))))) (fun v2=>if v2=true then (KK false) else (aB (α:=Int) (fun R3 v4=>have z2:=a1_b.Frames.getD v4.toNat default; have z1:=a0_a.Frames.getD v4.toNat default; (a0_a.Frames.length<=4611686018427387904->if (decide (v4 < (a0_a.Frames.length:Int)))=true then (((0:Int)<=v4/\v4.toNat<a0_a.Frames.length)/\((0:Int)<=v4/\v4.toNat<a1_b.Frames.length)/\ab (α:=Bool) (fun J5=>if (!decide (z1.Func=z2.Func))=true then (J5 true) else (if (!decide (z1.Block=z2.Block))=true then (J5 true) else (if (!decide (z1.At=z2.At))=true then (J5 true) else (J5 (!decide (((z1.Vars).length:Int)=((z2.Vars).length:Int))))))) (fun v6=>if v6=true then (KK false) else (aB (α:=Int) (fun R7 v8=>have z4:=(z2.Vars).getD v8.toNat default; have z3:=(z1.Vars).getD v8.toNat default; ((z1.Vars).length<=4611686018427387904->if (decide (v8 < ((z1.Vars).length:Int)))=true then (((0:Int)<=v8/\v8.toNat < (z1.Vars).length)/\((0:Int)<=v8/\v8.toNat < (z2.Vars).length)/\if (!(decide (z3.Name=z4.Name)&&(decide ((z3.A).Kind=(z4.A).Kind)&&(decide ((z3.A).S=(z4.A).S)&&decide ((z3.A).N=(z4.A).N)))))=true then (KK false) else (R7 (IntKind.i64.wrap (v8+1)))) else (R3 (IntKind.i64.wrap (v4+1))))) 0))) else (aB (α:=Int) (fun R9 v10=>(a0_a.Objs.length<=4611686018427387904->if (decide (v10 < (a0_a.Objs.length:Int)))=true then (ab (α:=Bool) (fun J11=>((0:Int)<=v10/\v10.toNat<a0_a.Objs.length)/\((0:Int)<=v10/\v10.toNat<a1_b.Objs.length)/\if (!decide ((a0_a.Objs.getD v10.toNat default).Class=(a1_b.Objs.getD v10.toNat default).Class))=true then (J11 true) else (((0:Int)<=v10/\v10.toNat<a0_a.Objs.length)/\((0:Int)<=v10/\v10.toNat<a1_b.Objs.length)/\J11 (!(Lt.lU ((a0_a.Objs.getD v10.toNat default).Vals) ((a1_b.Objs.getD v10.toNat default).Vals))))) (fun v12=>if v12=true then (KK false) else (R9 (IntKind.i64.wrap (v10+1))))) else (KK true))) 0))) 0))
def pO (a0_l:List Lt.Arg) (a1_most:Int) (KK:Int->Prop):Prop:=
 (a0_l.length<=4611686018427387904->if (decide (a1_most < (a0_l.length:Int)))=true then (KK (IntKind.i64.wrap (a1_most+1))) else ((a0_l.length<=4611686018427387904->aB (α:=Int×Int) (fun R1 v2=>ab (α:=Bool) (fun J3=>(a0_l.length<=4611686018427387904->if (decide (v2.2 < (a0_l.length:Int)))=true then (J3 (decide (v2.1<=a1_most))) else (J3 false))) (fun v4=>if v4=true then (((0:Int)<=v2.2/\v2.2.toNat<a0_l.length)/\(((a0_l.getD v2.2.toNat default).S).length<=4611686018427387904->R1 ((IntKind.i64.wrap (v2.1+(((a0_l.getD v2.2.toNat default).S).length:Int))),(IntKind.i64.wrap (v2.2+1))))) else (KK v2.1))) ((a0_l.length:Int),0))))
def GT (a0_n:Int) (KK:Int->Prop):Prop:=
 ab (α:=Bool) (fun J1=>if (decide ((IntKind.i64.wrap ((BitVec.ofInt IntKind.i64.bits a0_n &&& BitVec.ofInt IntKind.i64.bits 9218868437227405312).toNat:Nat))=9218868437227405312))=true then (J1 (!decide ((IntKind.i64.wrap ((BitVec.ofInt IntKind.i64.bits a0_n &&& BitVec.ofInt IntKind.i64.bits 4503599627370495).toNat:Nat))=0))) else (J1 false)) (fun v2=>if v2=true then (KK 9221120237041090560) else (KK a0_n))
def sQ (a0_l:List Lt.Arg) (a1_objs:Bool) (KK:Bool->Prop):Prop:=
 (a0_l.length<=4611686018427387904->aB (α:=Int) (fun R1 v2=>if (decide (v2 < (a0_l.length:Int)))=true then (((0:Int)<=v2/\v2.toNat<a0_l.length)/\ab (α:=Bool) (fun J3=>if (!(Lt.aJ (a0_l.getD v2.toNat default)))=true then (J3 true) else (if (decide ((a0_l.getD v2.toNat default).Kind=5))=true then (J3 (!a1_objs)) else (J3 false))) (fun v4=>if v4=true then (KK false) else (R1 (IntKind.i64.wrap (v2+1))))) else (KK true)) 0)
def Fm (a0_f:Lt.Frame) (KK:Bool->Prop):Prop:=
 ab (α:=Bool) (fun J1=>if (!(Lt.Name a0_f.Func))=true then (J1 true) else (if (!(Lt.Name a0_f.Block))=true then (J1 true) else (if (decide (a0_f.At < 0))=true then (J1 true) else (if (decide (1024<a0_f.At))=true then (J1 true) else (J1 (decide (16 < (a0_f.Vars.length:Int)))))))) (fun v2=>if v2=true then (KK false) else ((a0_f.Vars.length<=4611686018427387904->aB (α:=Int) (fun R3 v4=>if (decide (v4 < (a0_f.Vars.length:Int)))=true then (((0:Int)<=v4/\v4.toNat<a0_f.Vars.length)/\ab (α:=Bool) (fun J5=>if (!(Lt.Name ((a0_f.Vars.getD v4.toNat default).Name)))=true then (J5 true) else (J5 (!(Lt.bx [((a0_f.Vars.getD v4.toNat default).A)] true)))) (fun v6=>if v6=true then (KK false) else (R3 (IntKind.i64.wrap (v4+1))))) else (KK true)) 0)))
def rW (a0_a:List Lt.Arg) (a1_b:List Lt.Arg) (KK:Bool->Prop):Prop:=
 (a0_a.length<=4611686018427387904->(a1_b.length<=4611686018427387904->if (!decide ((a0_a.length:Int)=(a1_b.length:Int)))=true then (KK false) else (aB (α:=Int) (fun R1 v2=>(a0_a.length<=4611686018427387904->if (decide (v2 < (a0_a.length:Int)))=true then (((0:Int)<=v2/\v2.toNat<a0_a.length)/\((0:Int)<=v2/\v2.toNat<a1_b.length)/\if (!(decide ((a0_a.getD v2.toNat default).Kind=(a1_b.getD v2.toNat default).Kind)&&(decide ((a0_a.getD v2.toNat default).S=(a1_b.getD v2.toNat default).S)&&decide ((a0_a.getD v2.toNat default).N=(a1_b.getD v2.toNat default).N))))=true then (KK false) else (R1 (IntKind.i64.wrap (v2+1)))) else (KK true))) 0)))
end Go.Am
end

section
namespace Go.Am
open Go
theorem ifk {c:Prop} [Decidable c] {A B:Prop} (h1:c->A) (h2:¬ c->B):if c then A else B:=by
 by_cases hc:c
 ·rw [if_pos hc]; exact h1 hc
 ·rw [if_neg hc]; exact h2 hc
theorem kk {α:Type} {KK:α->Prop} {a b:α} (h:KK a) (e:a=b):KK b:=e ▸ h
theorem T6 (s:List UInt8) (KK:Bool->Prop) (h:KK (Lt.kept s)):Ov s KK:=by
 unfold Ov; (try simp only [al,au,aA,jval,bor,band,bnand,bimp,and_self]); unfold Lt.kept at h; simpa only [agW] using h
theorem UG (s:List UInt8) (KK:Bool->Prop) (h:KK (Lt.kind s)):Mr s KK:=by
 unfold Mr; (try simp only [al,au,aA,jval,bor,band,bnand,bimp,and_self]); unfold Lt.kind at h; simpa only [agW] using h
theorem Oz (c:UInt8) (KK:Bool->Prop) (h:KK (Lt.letter c)):zD c KK:=by
 unfold zD; (try simp only [al,au,aA,jval,bor,band,bnand,bimp,and_self]);refine kk h ?_;unfold Lt.letter Lt.tZ
 grind
theorem CP (c:UInt8) (KK:Bool->Prop) (h:KK (Lt.fW c)):qh c KK:=by
 unfold qh; (try simp only [al,au,aA,jval,bor,band,bnand,bimp,and_self]); exact h
theorem Gu (t:Lt.Term) (KK:Lt.Program->Prop) (h:KK (Lt.dl t)):Co t KK:=h
theorem Ob (n:Int) (hp:Lt.gH n) (KK:List UInt8->Prop) (h:KK (Lt.number n)):IR n KK:=⟨hp,h⟩
theorem Rm (n:Int) (KK:Int->Prop) (h:KK (Lt.Plain n)):GT n KK:=by
 unfold GT; (try simp only [al,au,aA,jval,bor,band,bnand,bimp,and_self]); unfold Lt.Plain at h; exact h
theorem Ur (s:List UInt8) (KK:Bool->Prop) (h:KK (Lt.Name s)):Nt s KK:=by
 unfold Nt; (try simp only [al,au,aA,jval,bor,band,bnand,bimp,and_self,abZ,ac6,ac4]);have hn:¬ s=[]->0<s.length:=by cases s <;> simp
 refine ⟨fun h1 h2=>⟨agO _,by grind⟩,?_⟩;split
 ·refine kk h ?_;unfold Lt.Name; grind
 ·intro hl;refine dT (α:=UInt8) s hl Lt.g6 true KK _ (fun R i hi ih hF=>?_) (fun R h=>?_) (kk h ?_)
  ·have hd:s.getD i 0=s.getD i default:=rfl
   simp only [cX hi,if_true,Int.toNat_natCast,hd];unfold Lt.g6 at ih hF;refine ⟨fun _=>⟨adC i,hi⟩,fun _ _=>⟨adC i,hi⟩,?_⟩
   grind
  ·simp only [dz,adB,if_false]; exact ⟨False.elim,False.elim,h⟩
  ·unfold Lt.Name; grind
theorem Sa (l:List Lt.Var) (most:Int) (KK:Bool->Prop) (h:KK (Lt.typed l most)):G4 l most KK:=by
 unfold G4; (try simp only [al,au,aA,jval,bor,band,bnand,bimp,and_self]);unfold Lt.typed at h;intro hl;split
 ·refine kk h ?_; grind
 ·intro _;refine dT l hl (fun v=>Lt.Name v.Name&&Lt.kind v.Type_) true KK _ (fun R i hi ih hF=>?_) (fun R h=>?_) (kk h ?_)
  ·simp only [cX hi,if_true,Int.toNat_natCast];refine ⟨⟨adC i,hi⟩,?_⟩
   grind
  ·simp only [dz,adB,if_false]; exact h
  ·grind
theorem CN (a:Lt.Arg) (KK:Bool->Prop) (h:KK (Lt.aJ a)):px a KK:=by
 unfold px; (try simp only [al,au,aA,jval,bor,band,bnand,bimp,and_self]);refine kk h ?_;unfold Lt.aJ
 grind
theorem Gg (l:List Lt.Arg) (objs:Bool) (KK:Bool->Prop) (h:KK (Lt.bx l objs)):sQ l objs KK:=by
 unfold sQ; (try simp only [al,au,aA,jval,bor,band,bnand,bimp,and_self]);intro hl;refine dT l hl (Lt.aZ objs) true KK _ (fun R i hi ih hF=>?_) (fun R h=>?_) (kk h ?_)
 ·simp only [cX hi,if_true,Int.toNat_natCast];refine ⟨⟨adC i,hi⟩,?_⟩;unfold Lt.aZ at ih hF
  grind
 ·simp only [dz,adB,if_false]; exact h
 ·simp [Lt.bx]
theorem UM (a:Lt.Arg) (o:Bool):Lt.bx [a] o=Lt.aZ o a:=by simp [Lt.bx]
theorem RM (f:Lt.Frame) (KK:Bool->Prop) (h:KK (Lt.frame f)):Fm f KK:=by
 unfold Fm; (try simp only [al,au,aA,jval,bor,band,bnand,bimp,and_self]);unfold Lt.frame at h;split
 ·refine kk h ?_; grind
 ·intro hl;refine dT f.Vars hl Lt.gn true KK _ (fun R i hi ih hF=>?_) (fun R h=>?_) (kk h ?_)
  ·simp only [cX hi,if_true,Int.toNat_natCast,UM];refine ⟨⟨adC i,hi⟩,?_⟩;unfold Lt.gn at ih hF
   grind
  ·simp only [dz,adB,if_false]; exact h
  ·grind
theorem Xw (l:List UInt8) (n:Int) (KK:List UInt8->Prop) (h:KK (Lt.nth l n)):Ta l n KK:=by
 unfold Ta; (try simp only [al,au,aA,aQ,bL,jval,bor,band,bnand,bimp,and_self]);unfold Lt.nth at h;by_cases hl:l.length<=LEN
 ·refine eV _ (l.length+1) (fun k x=>∃ (n:Int) (f i:Nat),x=(n,(f:Int),(i:Int))/\i=k+1/\f<i/\f<=l.length/\KK (Lt.Gl l (l.length+1-k) n f i)) (fun R k x hk hP hR=>?_) (fun R x hP=>?_) _ ⟨n,0,1,rfl,by omega,by omega,by omega,h⟩
  ·obtain ⟨n,f,i,rfl,hi1,hf,hf2,h⟩:=hP;intro _;by_cases hi:i<l.length
   ·simp only [cX hi,if_true,Int.toNat_natCast];refine ⟨⟨adC i,hi⟩,?_⟩;rw [show l.length+1-k=(l.length+1 - (k+1))+1 by omega] at h;simp only [Lt.Gl,hi,if_true] at h;have w1:IntKind.i64.wrap ((i:Int)+1)=((i+1:Nat):Int):=b9 (by unfold LEN at hl; omega)
    have w2:IntKind.i64.wrap ((f:Int)+1)=((f+1:Nat):Int):=b9 (by unfold LEN at hl; omega)
    rw [w1,w2];dsimp +instances only [Int.toNat_natCast]
    split
    ·rename_i hc;have hc':¬ (((l.getD i 0).toNat:Nat):Int)=32:=by simpa using hc
     rw [if_neg hc'] at h;exact hR _ ⟨n,f,i+1,rfl,by omega,by omega,by omega,h⟩
    ·rename_i hc;have hc':(((l.getD i 0).toNat:Nat):Int)=32:=by simpa using hc
     rw [if_pos hc'] at h;split
     ·rename_i hz;have hz':IntKind.i64.wrap (n - 1)=0:=by simpa using hz
      rw [if_pos hz'] at h;exact ⟨adC _,adC _,⟨by omega,by omega⟩,h⟩
     ·rename_i hz;have hz':¬ IntKind.i64.wrap (n - 1)=0:=by simpa using hz
      rw [if_neg hz'] at h;exact hR _ ⟨_,i,i+1,rfl,by omega,by omega,by omega,h⟩
   ·have hf:decide ((i:Int) < (l.length:Int))=false:=by simp; omega
    simp only [hf,adB,if_false];rw [show l.length+1-k=(l.length+1 - (k+1))+1 by omega] at h;simp only [Lt.Gl,hi,if_false] at h;exact h
  ·obtain ⟨n,f,i,rfl,hi1,hf,hf2,h⟩:=hP;intro _;have hf:decide ((i:Int) < (l.length:Int))=false:=by simp; omega
   simp only [hf,adB,if_false];rw [show l.length+1 - (l.length+1)=0 by omega] at h;exact h
 ·exact ⟨1,fun h=>absurd h hl⟩
theorem ZP (op:Int) (KK:Lt.Form×Bool->Prop) (h:KK (Lt.Of op)):ZS op KK:=by
 unfold ZS; (try simp only [al,au,aA,jval,bor,band,bnand,bimp,and_self]);refine kk h ?_;unfold Lt.Of Lt.two;simp only [ac9,decide_eq_true_eq]
end Go.Am
end

section
namespace Go.Am
open Go
theorem cD {n:Int} (h1:-9223372036854775808<=n) (h2:n < 9223372036854775808):IntKind.i64.wrap n=n:=by
 simp only [IntKind.wrap,IntKind.signed,IntKind.bits];simp;omega
theorem eC {n:Nat} (h:n < 10):Lt.digs n=[UInt8.ofNat (48+n)]:=by
 rw [Lt.digs,if_pos h]
theorem l4 {n:Nat} (h:¬ n < 10):Lt.digs n=Lt.digs (n / 10)++[UInt8.ofNat (48+n % 10)]:=by
 rw [Lt.digs,if_neg h]
theorem Ke:∀ (k n:Nat),n < 10 ^ (k+1)->(Lt.digs n).length<=k+1
 | 0,n,h=>by rw [eC (by omega)]; simp
 | k+1,n,h=>by
  by_cases h10:n < 10
  ·rw [eC h10]; simp
  ·rw [l4 h10];have:=Ke k (n / 10) (by rw [ag0] at h; omega)
   simp only [adD,adF,adL];omega
theorem iD {n:Int} (h:Lt.inR n):(Lt.ak n).length<=20:=by
 unfold Lt.inR at h;have:=Ke 18 n.natAbs (by omega)
 unfold Lt.ak;simp only [adD];split <;> simp <;> omega
theorem acC (x:Int):((BitVec.ofInt IntKind.u64.bits x &&& BitVec.ofInt IntKind.u64.bits 15).toNat:Nat) < 16:=by
 have e:(BitVec.ofInt IntKind.u64.bits 15).toNat=15:=by decide
 rw [BitVec.toNat_and,e];exact Nat.lt_of_le_of_lt agU (by omega)
theorem ch {n:Nat} (h:n < 18446744073709551616):IntKind.u64.wrap (n:Int)=(n:Int):=by
 simp only [IntKind.wrap,IntKind.signed,IntKind.bits];simp;omega
theorem Tk (u x:Int):(0:Int)<=(IntKind.u64.wrap ((BitVec.ofInt IntKind.u64.bits (Int.fdiv (IntKind.u64.wrap u) (2 ^ (min (IntKind.u64.wrap x).toNat IntKind.u64.bits))) &&& BitVec.ofInt IntKind.u64.bits 15).toNat:Nat)) /\
  (IntKind.u64.wrap ((BitVec.ofInt IntKind.u64.bits (Int.fdiv (IntKind.u64.wrap u) (2 ^ (min (IntKind.u64.wrap x).toNat IntKind.u64.bits))) &&& BitVec.ofInt IntKind.u64.bits 15).toNat:Nat)).toNat < ([48,49,50,51,52,53,54,55,56,57,97,98,99,100,101,102]:List UInt8).length:=by
 have h:=acC (Int.fdiv (IntKind.u64.wrap u) (2 ^ (min (IntKind.u64.wrap x).toNat IntKind.u64.bits)))
 rw [ch (by omega),Int.toNat_natCast];exact ⟨adC _,h⟩
theorem N2 (n:Int) (KK:List UInt8->Prop) (h:KK (Lt.dK n)):Cl n KK:=by
 unfold Cl; dsimp only; (try simp only [al,au,aA,aQ,bL,jval,bor,band,bnand,bimp,and_self]);refine eV _ 16 (fun i x=>x=([48,102]++(List.range i).map fun (j:Nat)=>Lt.Qi (Lt.Plain n) (60 - 4*(j:Int)),60 - 4*(i:Int))) (fun R i x hi hP hR=>?_) (fun R x hP=>?_) _ rfl
 ·subst hP;have hd:decide ((0:Int)<=60 - 4*(i:Int))=true:=by simp; omega
  simp only [hd,if_true];have w:IntKind.i64.wrap (60 - 4*(i:Int) - 4)=60 - 4*((i+1:Nat):Int):=by rw [cD (by omega) (by omega)]; omega
  refine ⟨?_,Tk _ _,?_,hR _ ?_⟩
  ·have:IntKind.u64.wrap (60 - 4*(i:Int))=60 - 4*(i:Int):=by
    have:=ch (n:=60 - 4*i) (by omega)
    rw [show ((60 - 4*i:Nat):Int)=60 - 4*(i:Int) by omega] at this;exact this
   rw [this]; omega
  ·simp only [adD,adE,List.length_range,adF,adL];omega
  ·rw [w,List.range_succ,ad5,<- aeI]; rfl
 ·subst hP;have:decide ((0:Int)<=60 - 4*((16:Nat):Int))=false:=by decide
  simp only [this,adB,if_false];exact h
theorem Bw (n:Int):(Lt.dK n).length=18:=by simp [Lt.dK]
theorem Kq (a:Lt.Arg) (hp:Lt.jm a) (KK:List UInt8->Prop) (h:KK (Lt.ac a)):wi a KK:=by
 unfold wi; (try simp only [al,au,aA,jval,bor,band,bnand,bimp,and_self]); unfold Lt.ac at h;unfold Lt.jm Lt.Arg.ok at hp;have hq:Lt.gH a.N:=hp
 have:=iD hp
 have e:(35::Lt.ak a.N).length<=4611686018427387904:=by simp only [adF]; omega
 grind
theorem WK (l:List Lt.Arg) (hp:Lt.zj l) (KK:List (List UInt8)->Prop) (h:KK (Lt.puts l)):NP l KK:=by
 obtain ⟨hp,hl⟩:=hp;unfold NP; (try simp only [al,au,aA,aQ,bL,jval,bor,band,bnand,bimp,and_self]);intro _;refine BJ l.length (by unfold LEN; omega) (fun i=>Lt.puts (l.take i)) _ (fun R i hi ih=>?_) (fun R=>?_) rfl
 ·simp only [cX hi,if_true,Int.toNat_natCast];refine ⟨⟨adC i,hi⟩,hp _ (eM l hi),?_,?_⟩
  ·simp only [Lt.puts,adE,aeF,adF,adL]; omega
  ·rw [fP l hi] at ih;simp only [Lt.puts,ad5,List.map_cons,List.map_nil] at ih ⊢;exact ih
 ·simp only [dz,adB,if_false,List.take_length]; exact h
end Go.Am
end

section
namespace Go.Am
open Go
theorem Yg {α:Type} (l:List α):((l.length:Int)=0)=(l=[]):=by
 cases l <;> simp
 omega
theorem Yp (x:Lt.Phi) (KK:Bool->Prop) (h:KK (Lt.phi x)):TI x KK:=by
 unfold TI; (try simp only [al,au,aA,aQ,bL,jval,bor,band,bnand,bimp,and_self]);have e0:=Yg x.Ins
 unfold Lt.phi at h;split
 ·refine kk h ?_; grind
 ·intro hl;refine dT x.Ins hl Lt.lb true KK _ (fun R i hi ih hF=>?_) (fun R h=>?_) (kk h ?_)
  ·simp only [cX hi,if_true,Int.toNat_natCast,UM];refine ⟨⟨adC i,hi⟩,?_⟩;unfold Lt.lb at ih hF
   grind
  ·simp only [dz,adB,if_false]; exact h
  ·grind
theorem T2 (a:Lt.Arg):(decide (a.Kind=0)&&(decide (a.S=([]:List UInt8))&&decide (a.N=0)))=Lt.zT a:=by
 obtain ⟨k,s,n⟩:=a;simp only [Lt.zT,Lt.Arg.mk.injEq];by_cases h1:k=0 <;> by_cases h2:s=[] <;> by_cases h3:n=0 <;> simp [h1,h2,h3]
theorem Lz (t:Lt.Term) (KK:Bool->Prop) (h:KK (Lt.cr t)):vR t KK:=by
 unfold vR; (try simp only [al,au,aA,aQ,bL,jval,bor,band,bnand,bimp,and_self]);intro hl;unfold Lt.cr at h;refine dT t.To hl Lt.Name _ KK _ (fun R i hi ih hF=>?_) (fun R h=>?_) h
 ·simp only [cX hi,if_true,Int.toNat_natCast];refine ⟨⟨adC i,hi⟩,?_⟩
  grind
 ·simp only [dz,adB,if_false,T2,UM];have e0:((t.To.length:Int)=0)=(t.To.length=0):=propext (by omega)
  have e1:((t.To.length:Int)=1)=(t.To.length=1):=propext (by omega)
  have e2:((t.To.length:Int)=2)=(t.To.length=2):=propext (by omega)
  refine kk h ?_;simp only [e0,e1,e2]
  grind
theorem QQ (x:Lt.Instr) (KK:Bool->Prop) (h:KK (Lt.instr x)):Ic x KK:=by
 unfold Ic; dsimp only; (try simp only [al,au,aA,jval,bor,band,bnand,bimp,and_self]);have e0:=Yg x.Frames
 have e1:=Yg x.Objs
 unfold Lt.instr at h;refine ifk (fun hc=>kk h (by grind)) (fun hA hl=>?_);refine ifk (fun hc=>kk h (by grind)) (fun hB=>?_);refine ifk (fun hc hl=>kk h (by grind)) (fun hC hl=>?_);refine dT x.Frames hl Lt.frame (x.Objs.all Lt.virt) KK _ (fun R i hi ih hF=>?_) (fun R h=>?_) (kk h ?_)
 ·simp only [cX hi,if_true,Int.toNat_natCast];refine ⟨⟨adC i,hi⟩,?_⟩
  grind
 ·simp only [dz,adB,if_false];intro hl2;refine dT x.Objs hl2 Lt.virt true KK _ (fun R i hi ih hF=>?_) (fun R h=>?_) (kk h ?_)
  ·simp only [cX hi,if_true,Int.toNat_natCast];refine ⟨⟨adC i,hi⟩,?_⟩;unfold Lt.virt at ih hF
   grind
  ·simp only [dz,adB,if_false]; exact h
  ·simp
 ·grind
theorem SY (b:Lt.Block) (KK:Bool->Prop) (h:KK (Lt.block b)):FQ b KK:=by
 unfold FQ; (try simp only [al,au,aA,jval,bor,band,bnand,bimp,and_self]);unfold Lt.block at h;split
 ·refine kk h ?_; grind
 ·intro hl;refine dT b.Phis hl Lt.phi (b.Code.all Lt.instr) KK _ (fun R i hi ih hF=>?_) (fun R h=>?_) (kk h ?_)
  ·simp only [cX hi,if_true,Int.toNat_natCast];refine ⟨⟨adC i,hi⟩,?_⟩
   grind
  ·simp only [dz,adB,if_false];intro hl2;refine dT b.Code hl2 Lt.instr true KK _ (fun R i hi ih hF=>?_) (fun R h=>?_) (kk h ?_)
   ·simp only [cX hi,if_true,Int.toNat_natCast];refine ⟨⟨adC i,hi⟩,?_⟩
    grind
   ·simp only [dz,adB,if_false]; exact h
   ·simp
  ·grind
theorem wJ (f:Lt.Func) (KK:Bool->Prop) (h:KK (Lt.ax f)):kF f KK:=by
 unfold kF; dsimp only; (try simp only [al,au,aA,jval,bor,band,bnand,bimp,and_self]);have e0:=Yg f.Blocks
 unfold Lt.ax at h;refine ifk (fun hc=>kk h (by grind)) (fun hA hl=>?_);refine nS f.Blocks hl (fun (b:{b:Nat // b<=1024}) i=>((b.1:Int),i)) (fun t b=>Lt.blocks t b.1) KK _ (fun R b i hi ih h=>?_) (fun R b h=>?_) ⟨0,by omega⟩ (kk h (by grind))
 ·obtain ⟨b,hb⟩:=b;simp only [cX hi,if_true,Int.toNat_natCast]
  try dsimp +instances only [Int.toNat_natCast]
  refine ⟨⟨adC i,hi⟩,?_⟩;generalize f.Blocks.getD i default=x at h;obtain ⟨bn,bp,bc,⟨k,a,t,n⟩⟩:=x;dsimp only at h ih ⊢;simp only [Lt.blocks] at h;intro _;refine ifk (fun hc=>kk h (by grind)) (fun hc _ _=>?_);simp only [ad4,decide_eq_true_eq,not_or] at hc;have w1:IntKind.i64.wrap ((bp.length:Int)+(bc.length:Int))=((bp.length+bc.length:Nat):Int):=by rw [cD (by omega) (by omega)]; omega
  have w2:IntKind.i64.wrap ((b:Int)+((bp.length+bc.length:Nat):Int))=((b+(bp.length+bc.length):Nat):Int):=by rw [cD (by omega) (by omega)]; omega
  rw [w1,w2];refine ifk (fun hc=>kk h (by grind)) (fun hc=>?_);have hle:b+(bp.length+bc.length)<=1024:=by grind
  exact ih ⟨_,hle⟩ (kk h (by grind))
 ·simp only [dz,adB,if_false];simpa only [Lt.blocks] using h
theorem CQ (p:Lt.Program) (KK:Bool->Prop) (h:KK (Lt.bb p)):qb p KK:=by
 unfold qb; dsimp only; (try simp only [al,au,aA,jval,bor,band,bnand,bimp,and_self]);unfold Lt.bb at h;intro _;refine ifk (fun hc=>kk h (by grind)) (fun hA hl=>?_);refine dT p.Classes hl Lt.bD (p.Externs.all Lt.bT&&p.Funcs.all Lt.ax) KK _ (fun R i hi ih hF=>?_) (fun R h=>?_) (kk h (by grind))
 ·simp only [cX hi,if_true,Int.toNat_natCast];refine ⟨⟨adC i,hi⟩,?_⟩;unfold Lt.bD at ih hF
  grind
 ·simp only [dz,adB,if_false];intro hl2;refine dT p.Externs hl2 Lt.bT (p.Funcs.all Lt.ax) KK _ (fun R i hi ih hF=>?_) (fun R h=>?_) h
  ·simp only [cX hi,if_true,Int.toNat_natCast];refine ⟨⟨adC i,hi⟩,?_⟩;unfold Lt.bT at ih hF
   grind
  ·simp only [dz,adB,if_false];intro hl3;refine dT p.Funcs hl3 Lt.ax true KK _ (fun R i hi ih hF=>?_) (fun R h=>?_) (kk h (by simp))
   ·simp only [cX hi,if_true,Int.toNat_natCast];refine ⟨⟨adC i,hi⟩,?_⟩
    grind
   ·simp only [dz,adB,if_false]; exact h
end Go.Am
end

section
namespace Go.Am
open Go
theorem YQ (op:Int):(Lt.Of op).1.Most<=8:=by
 unfold Lt.Of;simp only [apply_ite Prod.fst,apply_ite Lt.Form.Most]
 repeat' split
 all_goals omega
theorem UD {op:Int} (h:op=26\/op=27):1<=(Lt.Of op).1.Least:=by
 rcases h with rfl | rfl <;> decide
structure InstrOk (i:Lt.Instr):Prop where
 args:i.Args.length<=8
 frames:i.Frames.length<=16
 objs:i.Objs.length<=99
 fr:∀ f∈i.Frames,Lt.frame f=true
 ob:∀ o∈i.Objs,Lt.virt o=true
 least:i.Op=26\/i.Op=27->1<=i.Args.length
 aok:Lt.bx i.Args false=true
 of:(Lt.Of i.Op).2=true
 dst:(Lt.Of i.Op).1.Dst=!decide (i.Dst=[])
 nm:(Lt.Of i.Op).1.Named=!decide (i.Name=[])
 dstN:(Lt.Of i.Op).1.Dst=true->Lt.Name i.Dst=true
 nmN:(Lt.Of i.Op).1.Named=true->Lt.Name i.Name=true
 lo:(Lt.Of i.Op).1.Least<=(i.Args.length:Int)
 hi:(i.Args.length:Int)<=(Lt.Of i.Op).1.Most
 none:i.Op≠31/\i.Op≠34->i.Frames=[]/\i.Objs=[]
theorem eP {i:Lt.Instr} (h:Lt.instr i=true):InstrOk i:=by
 unfold Lt.instr at h;simp only [ac9,decide_eq_true_eq,beq_iff_eq,aeJ,agC] at h;obtain ⟨⟨⟨⟨⟨⟨h1,h2⟩,h3⟩,h4⟩,h5⟩,⟨⟨⟨h6,h7⟩,h8⟩,h9⟩,h10⟩,h11⟩:=h;have hm:=YQ i.Op
 have hfo:(∀ f∈i.Frames,Lt.frame f=true)/\(∀ o∈i.Objs,Lt.virt o=true):=by
  split at h11
  ·simp only [ac9,decide_eq_true_eq] at h11;rw [h11.1,h11.2]; simp
  ·simpa [adI] using h11
 refine ⟨by omega,h9,h10,hfo.1,hfo.2,fun ho=>?_,h8,h1,h2,h3,fun hd=>?_,fun hd=>?_,h6,h7,fun ho=>?_⟩
 ·have:=UD ho
  omega
 ·rcases h4 with h4 | h4
  ·rw [h4] at hd; cases hd
  ·simpa using h4
 ·rcases h5 with h5 | h5
  ·rw [h5] at hd; cases hd
  ·simpa using h5
 ·rw [if_pos ho] at h11;simpa using h11
theorem qi {f:Lt.Frame} (h:Lt.frame f=true):Lt.Name f.Func=true/\Lt.Name f.Block=true/\0<=f.At/\f.At<=1024/\f.Vars.length<=16/\∀ b∈f.Vars,Lt.gn b=true:=by
 unfold Lt.frame at h;simp only [ac9,decide_eq_true_eq,adI] at h;obtain ⟨⟨⟨⟨⟨h1,h2⟩,h3⟩,h4⟩,h5⟩,h6⟩:=h;exact ⟨h1,h2,h3,h4,h5,h6⟩
theorem yZ {o:Lt.Virt} (h:Lt.virt o=true):Lt.Name o.Class=true/\o.Vals.length<=8/\Lt.bx o.Vals true=true:=by
 unfold Lt.virt at h;simp only [ac9,decide_eq_true_eq] at h;exact ⟨h.1.1,h.1.2,h.2⟩
theorem Cj {x:Lt.Phi} (h:Lt.phi x=true):Lt.Name x.Dst=true/\x.Ins≠[]/\x.Ins.length<=256/\∀ i∈x.Ins,Lt.lb i=true:=by
 unfold Lt.phi at h;simp only [ac9,decide_eq_true_eq,aeJ,decide_eq_false_iff_not,adI] at h;obtain ⟨⟨⟨h1,h2⟩,h3⟩,h4⟩:=h;exact ⟨h1,h2,h3,h4⟩
theorem mP {b:Lt.Block} (h:Lt.block b=true):Lt.Name b.Name=true/\Lt.cr b.End=true/\(∀ x∈b.Phis,Lt.phi x=true)/\∀ i∈b.Code,Lt.instr i=true:=by
 unfold Lt.block at h;simp only [ac9,adI] at h;exact ⟨h.1.1,h.1.2,h.2.1,h.2.2⟩
def longs (l:List Lt.Block):Nat:=(l.map fun b=>b.Phis.length+b.Code.length).sum
theorem Ew:∀ (l:List Lt.Block) (n:Nat),n<=1024->Lt.blocks l n=true->n+longs l<=1024/\∀ b∈l,Lt.block b=true
 | [],n,hn,_=>⟨by simp [longs]; exact hn,by simp⟩
 | b::r,n,hn,h=>by
  simp only [Lt.blocks,ac9,decide_eq_true_eq] at h;obtain ⟨⟨h1,h2⟩,h3⟩:=h;obtain ⟨k1,k2⟩:=Ew r _ h1 h3;refine ⟨?_,?_⟩
  ·simp only [longs,List.map_cons,ae4] at k1 ⊢; omega
  ·intro x hx;rcases adK.1 hx with rfl | hx
   ·exact h2
   ·exact k2 x hx
structure FuncOk (f:Lt.Func):Prop where
 name:Lt.Name f.Name=true
 res:Lt.kind f.Result=true
 params:Lt.typed f.Params 6=true
 vars:Lt.typed f.Vars 1024=true
 ne:f.Blocks≠[]
 len:f.Blocks.length<=256
 long:longs f.Blocks<=1024
 bl:∀ b∈f.Blocks,Lt.block b=true
theorem nX {f:Lt.Func} (h:Lt.ax f=true):FuncOk f:=by
 unfold Lt.ax at h;simp only [ac9,decide_eq_true_eq,aeJ,decide_eq_false_iff_not] at h;obtain ⟨⟨⟨⟨⟨⟨h1,h2⟩,h3⟩,h4⟩,h5⟩,h6⟩,h7⟩:=h;obtain ⟨k1,k2⟩:=Ew _ 0 (by omega) h7;exact ⟨h1,h2,h3,h4,h5,h6,by omega,k2⟩
theorem gy {l:List Lt.Var} {n:Int} (h:Lt.typed l n=true):(l.length:Int)<=n:=by
 unfold Lt.typed at h;simp only [ac9,decide_eq_true_eq] at h;exact h.1
structure ProgOk (p:Lt.Program):Prop where
 nc:p.Classes.length<=8
 ne:p.Externs.length<=8
 nf:p.Funcs.length<=8
 glob:Lt.typed p.Globals 8=true
 cl:∀ c∈p.Classes,Lt.bD c=true
 ex:∀ x∈p.Externs,Lt.bT x=true
 fn:∀ f∈p.Funcs,Lt.ax f=true
theorem qL {p:Lt.Program} (h:Lt.bb p=true):ProgOk p:=by
 unfold Lt.bb at h;simp only [ac9,decide_eq_true_eq,adI] at h;obtain ⟨⟨⟨⟨h1,h2⟩,h3⟩,h4⟩,h5,h6,h7⟩:=h;exact ⟨h1,h2,h3,h4,h5,h6,h7⟩
theorem Pz {α:Type} (f g:α->List UInt8) (l:List α):(l.flatMap fun b=>[f b,g b]).length=2*l.length:=by
 induction l with
 | nil=>rfl
 | cons a l ih=>rw [adS,adD,ih]; simp; omega
theorem jX {α β:Type} [Inhabited α] (f:α->List β) (l:List α) {i:Nat} (h:i<l.length):(l.take (i+1)).flatMap f=(l.take i).flatMap f++f (l.getD i default):=by
 rw [fP l h,ae7]; simp
theorem pY {α β:Type} [Inhabited α] (f:α->β) (l:List α) {i:Nat} (h:i<l.length):(l.take (i+1)).map f=(l.take i).map f++[f (l.getD i default)]:=by
 rw [fP l h,ad5]; rfl
theorem Dq (s:Lt.Sheet) (w:List (List UInt8)) (hp:Lt.bq s w) (KK:Unit×Lt.Sheet->Prop) (h:KK (Lt.aT s w)):pI s w KK:=by
 unfold Lt.bq Lt.room at hp;unfold pI; (try simp only [al,au,aA,jval,bor,band,bnand,bimp,and_self]);exact ⟨⟨by simp only [adF,adL]; omega,by simp only [adF,adL]; omega⟩,h⟩
theorem Do (s:Lt.Sheet) (first:List UInt8) (l:List Lt.Var) (hp:Lt.gX s first l) (KK:Unit×Lt.Sheet->Prop) (h:KK (Lt.cO s first l)):pL s first l KK:=by
 unfold Lt.gX Lt.room at hp;unfold pL; (try simp only [al,au,aA,aQ,bL,jval,bor,band,bnand,bimp,and_self]);intro hl;refine fT l.length hl (fun i=>(⟨s.l++Lt.dA first (l.take i)⟩:Lt.Sheet)) _ (fun R i hi ih=>?_) (fun R=>?_) (by simp [Lt.dA])
 ·simp only [cX hi,if_true,Int.toNat_natCast]
  try dsimp +instances only [Int.toNat_natCast]
  refine ⟨⟨adC i,hi⟩,?_,?_⟩
  ·unfold Lt.bq Lt.room;simp only [Lt.dA,adD,adE,aeF];omega
  ·simp only [Lt.dA,pY _ l hi,<- aeI] at ih;exact ih
 ·simp only [dz,adB,if_false];rw [List.take_length];exact h
theorem pZ (l:List Lt.Arg):(Lt.puts l).length=l.length:=by simp [Lt.puts]
theorem bG {α:Type} [Inhabited α] {l:List α} {P:α->Prop} (h:∀ x∈l,P x) {i:Nat} (hi:i<l.length):P (l.getD i default):=h _ (eM l hi)
theorem CU (s:Lt.Sheet) (i:Lt.Instr) (hp:Lt.GH s i) (KK:Unit×Lt.Sheet->Prop) (h:KK (Lt.ra s i)):pV s i KK:=by
 obtain ⟨hok,hi,hroom⟩:=hp;unfold Lt.room at hroom;obtain ⟨okA,okF,okO⟩:=hok;have I:=eP hi
 have a8:=I.args; have f16:=I.frames; have o99:=I.objs
 have hpl:=pZ i.Args
 unfold pV; dsimp only; (try simp only [al,au,aA,jval,bor,band,bnand,bimp,and_self]);intro J1 hJ1;have j1:∀ x1:List (List UInt8),x1=(if (Lt.Of i.Op).1.Dst then [i.Dst,[61]] else [])->x1.length<=2->J1 x1:=by
  intro v2 e hlen;refine hJ1 v2 ⟨⟨by simp only [adF,adL]; omega,by simp only [adF,adL]; omega⟩,⟨okA,by omega⟩,?_⟩;intro J5 hJ5;have j5:∀ x2 x3,x2++x3=Lt.words i->x2.length+x3.length<=100->J5 (x2,x3):=by
   intro x2 x3 e hlen;refine hJ5 _ ⟨⟨by dsimp only; omega,by dsimp only; omega⟩,by unfold Lt.bq Lt.room; omega,fun hl=>?_⟩;dsimp only;rw [e];refine fT i.Frames.length hl (fun k=>(⟨s.l++[Lt.ln (Lt.words i)]++(i.Frames.take k).map (fun f=>Lt.ln (Lt.fZ f))⟩:Lt.Sheet)) _ (fun R k hk ih=>?_) (fun R=>?_) (by simp [Lt.aT,Lt.ln])
   ·simp only [cX hk,if_true,Int.toNat_natCast]
    try dsimp +instances only [Int.toNat_natCast]
    have V:=qi (bG I.fr hk)
    refine ⟨⟨adC k,hk⟩,?_,fun hl2=>?_⟩
    ·have:=V.2.2.1; have:=V.2.2.2.1
     exact ⟨by omega,by omega⟩
    ·have v16:=V.2.2.2.2.1
     have okf:(i.Frames.getD k default).ok:=bG okF hk
     refine BJ (i.Frames.getD k default).Vars.length hl2 (fun j=>[[97,116],(i.Frames.getD k default).Func,(i.Frames.getD k default).Block,Lt.number (i.Frames.getD k default).At]++((i.Frames.getD k default).Vars.take j).flatMap fun b=>[b.Name,Lt.ac b.A]) _
      (fun R2 j hj ih2=>?_) (fun R2=>?_) (by simp)
     ·simp only [cX hj,if_true,Int.toNat_natCast]
      try dsimp +instances only [Int.toNat_natCast]
      refine ⟨⟨adC j,hj⟩,okf.2 _ (eM _ hj),?_,?_⟩
      ·simp only [adD,Pz,adF,adL,aeF];omega
      ·simp only [jX _ _ hj,<- aeI] at ih2;exact ih2
     ·simp only [dz,adB,if_false];refine ⟨?_,?_⟩
      ·unfold Lt.bq Lt.room;simp only [adD,adE,aeF,adF,adL];omega
      ·simp only [pY _ i.Frames hk,<- aeI] at ih;rw [List.take_length];exact ih
   ·simp only [dz,adB,if_false];intro hl;rw [List.take_length];refine fT i.Objs.length hl (fun k=>(⟨s.l++[Lt.ln (Lt.words i)]++i.Frames.map (fun f=>Lt.ln (Lt.fZ f))++(i.Objs.take k).map (fun o=>Lt.ln (Lt.lz o))⟩:Lt.Sheet)) _ (fun R k hk ih=>?_) (fun R=>?_) (by simp)
    ·simp only [cX hk,if_true,Int.toNat_natCast]
     try dsimp +instances only [Int.toNat_natCast]
     have V:=yZ (bG I.ob hk)
     have hlen:(Lt.puts (i.Objs.getD k default).Vals).length<=8:=by rw [pZ]; exact V.2.1
     refine ⟨⟨adC k,hk⟩,⟨bG okO hk,by omega⟩,⟨by simp only [adF,adL]; omega,by simp only [adF,adL]; omega⟩,?_,?_⟩
     ·unfold Lt.bq Lt.room;simp only [adD,adE,aeF,adF,adL];omega
     ·simp only [pY _ i.Objs hk,<- aeI] at ih;exact ih
    ·simp only [dz,adB,if_false];rw [List.take_length];simp only [Lt.ra,Lt.dO,<- aeI] at h;exact h
  refine ifk (fun hc=>?_) (fun hc=>?_)
  ·have hc':i.Op=26\/i.Op=27:=by simpa using hc
   have h1:=I.least hc'
   refine ⟨⟨agO _,by omega⟩,?_,by omega,⟨by omega,by omega⟩,?_⟩
   ·simp only [adD,adF,adL]; omega
   ·refine j5 _ _ ?_ ?_
    ·rw [Lt.words,if_pos hc',<- e,aeA (by simp)];simp
    ·simp only [adD,adF,adL,aeF,adT]; omega
  ·have hc':¬ (i.Op=26\/i.Op=27):=by simpa using hc
   refine ifk (fun hn=>?_) (fun hn=>?_)
   ·refine ⟨?_,j5 _ _ ?_ ?_⟩
    ·simp only [adD,adF,adL]; omega
    ·rw [Lt.words,if_neg hc',<- e,if_pos hn];simp
    ·simp only [adD,adF,adL]; omega
   ·refine j5 _ _ ?_ ?_
    ·rw [Lt.words,if_neg hc',<- e,if_neg hn];simp
    ·simp only [adD,adF,adL]; omega
 refine ifk (fun hd=>⟨by simp,j1 _ (by rw [if_pos hd]) (by simp)⟩) (fun hd=>j1 _ (by rw [if_neg hd]) (by simp))
theorem GA (s:Lt.Sheet) (t:Lt.Term) (hp:Lt.NC s t) (KK:Unit×Lt.Sheet->Prop) (h:KK (Lt.ui s t)):sT s t KK:=by
 obtain ⟨⟨okA,okN⟩,ht,hroom⟩:=hp;unfold Lt.room at hroom;have hl:∀ w,Lt.bq s w:=fun w=>by unfold Lt.bq Lt.room; omega
 unfold Lt.cr at ht;rw [ac9] at ht
 replace ht:=ht.2
 unfold Lt.ui Lt.dS at h;unfold sT; dsimp only; (try simp only [al,au,aA,jval,bor,band,bnand,bimp,and_self]);simp only [decide_eq_true_eq];refine ifk (fun hc=>?_) (fun hc=>?_)
 ·rw [if_pos hc] at h ht;simp only [ac9,decide_eq_true_eq] at ht;exact ⟨⟨agO _,by omega⟩,hl _,h⟩
 rw [if_neg hc] at h ht;refine ifk (fun hc=>?_) (fun hc=>?_)
 ·rw [if_pos hc] at h ht;simp only [ac9,decide_eq_true_eq] at ht;have a:(0:Int)<=0/\0<t.To.length:=⟨agO _,by omega⟩
  have b:(0:Int)<=1/\1<t.To.length:=⟨by omega,by omega⟩
  exact ⟨⟨okA,a,b,hl _,h⟩,⟨a,⟨okA,b,hl _,h⟩,b,okA,hl _,h⟩,b,⟨okA,a,hl _,h⟩,a,okA,hl _,h⟩
 rw [if_neg hc] at h ht;refine ifk (fun hc=>?_) (fun hc=>?_)
 ·rw [if_pos hc] at h;exact ⟨okA,hl _,h⟩
 ·rw [if_neg hc] at h;exact ⟨okN,hl _,h⟩
theorem wm {i:Lt.Instr} (h:Lt.instr i=true):(Lt.dO i).length<=116:=by
 have I:=eP h
 have:=I.frames; have:=I.objs
 simp only [Lt.dO,adD,adE,adF,adL];omega
theorem eG {α β:Type} (f:α->List β) (k:Nat):∀ (l:List α),(∀ x∈l,(f x).length<=k)->(l.flatMap f).length<=k*l.length
 | [],_=>by simp
 | a::l,h=>by
  have:=eG f k l (fun x hx=>h x (adR _ hx))
  have:=h a (by simp)
  rw [adS,adD,adF,Nat.mul_add];omega
theorem uo {α:Type} {l:List α} {i:Nat} {x:α} (h:x∈l.take i):x∈l:=List.mem_of_mem_take h
theorem MU {b:Lt.Block} (h:Lt.block b=true):(Lt.bB b).length<=2+116*(b.Phis.length+b.Code.length):=by
 have B:=mP h
 have:=eG Lt.dO 116 b.Code (fun x hx=>wm (B.2.2.2 x hx))
 simp only [Lt.bB,adD,adE,adF,adL];omega
theorem p5:∀ (l:List Lt.Block),(∀ b∈l,Lt.block b=true)->(l.flatMap Lt.bB).length<=2*l.length+116*longs l
 | [],_=>by simp
 | b::l,h=>by
  have h1:=p5 l (fun x hx=>h x (adR _ hx))
  have h2:=MU (h b (by simp))
  rw [adS,adD,adF];simp only [longs,List.map_cons,ae4] at h1 ⊢;omega
theorem MF (l:List Lt.Block) (i:Nat):longs (l.take i)<=longs l:=by
 have:longs l=longs (l.take i)+longs (l.drop i):=by
  unfold longs;rw [<- List.sum_append,<- ad5,afZ]
 omega
theorem Rs (l:List Lt.Block) {i:Nat} (h:i<l.length):longs (l.take i)+((l.getD i default).Phis.length+(l.getD i default).Code.length)<=longs l:=by
 have:=MF l (i+1)
 rw [fP l h] at this;unfold longs at this ⊢;rw [ad5,List.sum_append] at this;simp only [List.map_cons,List.map_nil,ae4,List.sum_nil] at this;omega
theorem DS {f:Lt.Func} (h:Lt.ax f=true):(Lt.cK f).length<=130000:=by
 have F:=nX h
 have h1:=gy F.params; have h2:=gy F.vars
 have h3:=p5 f.Blocks F.bl
 have:=F.len; have:=F.long
 simp only [Lt.cK,Lt.dA,adD,adE,adF,adL];omega
theorem vB (s:Lt.Sheet) (f:Lt.Func) (hp:Lt.pX s f) (KK:Unit×Lt.Sheet->Prop) (h:KK (Lt.iF s f)):jl s f KK:=by
 obtain ⟨hok,hf,hroom⟩:=hp;unfold Lt.room at hroom;have F:=nX hf
 have p6:=gy F.params; have v1024:=gy F.vars
 have hbl:=F.len; have hlong:=F.long
 unfold jl; dsimp only; (try simp only [al,au,aA,jval,bor,band,bnand,bimp,and_self]);refine ⟨?_,?_,?_,fun hl=>?_⟩
 ·unfold Lt.bq Lt.room; omega
 ·unfold Lt.gX Lt.room;simp only [Lt.aT,adD,adF,adL];omega
 ·unfold Lt.gX Lt.room;simp only [Lt.aT,Lt.cO,Lt.dA,adD,adF,adL,adE];omega
 ·generalize hx0:(Lt.cO (Lt.cO (Lt.aT s [[102,117,110,99],f.Name,f.Result]).2 [112,97,114,97,109] f.Params).2 [118,97,114] f.Vars).2=x0;obtain ⟨x0⟩:=x0;have hx0l:x0.length<=s.l.length+1031:=by
   have:=congrArg (fun x=>x.l.length) hx0
   simp only [Lt.aT,Lt.cO,Lt.dA,adD,adF,adL,adE] at this;omega
  have h':KK ((),⟨x0++f.Blocks.flatMap Lt.bB⟩):=by
   have e:x0=_:=(congrArg Lt.Sheet.l hx0).symm
   rw [e];simp only [Lt.iF,Lt.cK,Lt.cO,Lt.aT,aeI] at h ⊢;exact h
  refine fT f.Blocks.length hl (fun k=>(⟨x0++(f.Blocks.take k).flatMap Lt.bB⟩:Lt.Sheet)) _ (fun R k hk ih=>?_) (fun R=>?_) (by simp)
  ·simp only [cX hk,if_true,Int.toNat_natCast]
   try dsimp +instances only [Int.toNat_natCast]
   generalize hb:f.Blocks.getD k default=b;have B:=mP (bG F.bl hk)
   have hpre:=p5 (f.Blocks.take k) (fun x hx=>F.bl x (uo hx))
   have hget:=Rs f.Blocks hk
   have okb:=bG hok hk
   rw [hb] at B hget okb;have hlk:(f.Blocks.take k).length<=256:=by rw [aeF]; omega
   generalize hX:(f.Blocks.take k).flatMap Lt.bB=X at hpre;simp only [jX Lt.bB f.Blocks hk,hX,hb] at ih;have hXl:X.length+116*(b.Phis.length+b.Code.length)<=119296:=by omega
   refine ⟨⟨adC k,hk⟩,?_,fun hl2=>?_⟩
   ·unfold Lt.bq Lt.room;simp only [adD];omega
   ·refine fT b.Phis.length hl2 (fun j=>(⟨x0++X++[Lt.ln [[98,108,111,99,107],b.Name]]++(b.Phis.take j).map (fun x=>Lt.ln (Lt.sN x))⟩:Lt.Sheet)) _ (fun R2 j hj ih2=>?_) (fun R2=>?_) (by simp [Lt.aT])
    ·simp only [cX hj,if_true,Int.toNat_natCast]
     try dsimp +instances only [Int.toNat_natCast]
     refine ⟨⟨adC j,hj⟩,fun hl3=>?_⟩;generalize hp:b.Phis.getD j default=x at *;have P:=Cj (bG B.2.2.1 hj)
     have okx:=bG okb.1 hj
     rw [hp] at P okx;have p256:=P.2.2.1
     refine BJ x.Ins.length hl3 (fun i=>[[112,104,105],x.Dst]++(x.Ins.take i).flatMap fun i=>[i.Block,Lt.ac i.A]) _ (fun R3 i hi ih3=>?_) (fun R3=>?_) (by simp)
     ·simp only [cX hi,if_true,Int.toNat_natCast]
      try dsimp +instances only [Int.toNat_natCast]
      refine ⟨⟨adC i,hi⟩,okx.2 _ (eM _ hi),?_,?_⟩
      ·simp only [adD,Pz,adF,adL,aeF];omega
      ·simp only [jX _ _ hi,<- aeI] at ih3;exact ih3
     ·simp only [dz,adB,if_false];refine ⟨?_,?_⟩
      ·unfold Lt.bq Lt.room;simp only [adD,adE,aeF,adF,adL];omega
      ·simp only [pY _ b.Phis hj,<- aeI,hp] at ih2;rw [List.take_length];exact ih2
    ·simp only [dz,adB,if_false];rw [List.take_length];intro hl4;refine fT b.Code.length hl4 (fun j=>(⟨x0++X++[Lt.ln [[98,108,111,99,107],b.Name]]++b.Phis.map (fun x=>Lt.ln (Lt.sN x))++(b.Code.take j).flatMap Lt.dO⟩:Lt.Sheet)) _ (fun R3 j hj ih2=>?_) (fun R3=>?_) (by simp)
     ·simp only [cX hj,if_true,Int.toNat_natCast]
      try dsimp +instances only [Int.toNat_natCast]
      have hc:=eG Lt.dO 116 (b.Code.take j) (fun x hx=>wm (B.2.2.2 x (uo hx)))
      have hcl:(b.Code.take j).length<=b.Code.length:=by rw [aeF]; omega
      have hmul:116*(b.Code.take j).length<=116*b.Code.length:=Nat.mul_le_mul_left _ hcl
      refine ⟨⟨adC j,hj⟩,⟨bG okb.2.1 hj,bG B.2.2.2 hj,?_⟩,?_⟩
      ·unfold Lt.room;simp only [adD,adE,adF,adL];omega
      ·simp only [jX _ _ hj,<- aeI] at ih2;exact ih2
     ·simp only [dz,adB,if_false];rw [List.take_length];have hc:=eG Lt.dO 116 b.Code (fun x hx=>wm (B.2.2.2 x hx))
      refine ⟨⟨okb.2.2,B.2.1,?_⟩,?_⟩
      ·unfold Lt.room;simp only [adD,adE,adF,adL];omega
      ·simp only [Lt.bB,<- aeI] at ih;exact ih
  ·simp only [dz,adB,if_false];rw [List.take_length];exact h'
end Go.Am
end

section
namespace Go.Am
open Go
def small (w:List UInt8):Prop:=w.length<=100
instance (w:List UInt8):Decidable (small w):=inferInstanceAs (Decidable (w.length<=100))
def sS (x:Lt.Line):Prop:=x.Words.length<=600/\∀ w∈x.Words,small w
theorem Zh:∀ (ws:List (List UInt8)) (b:Bool),(∀ w∈ws,small w)->(Lt.jw b ws).length<=101*ws.length
 | [],_,_=>by simp [Lt.jw]
 | w::r,b,h=>by
  have h1:=Zh r true (fun x hx=>h x (adR _ hx))
  have h2:w.length<=100:=h w (by simp)
  rw [Lt.jw];simp only [adD,adF];split <;> simp only [adF,adL] <;> omega
theorem xO:∀ (l:List Lt.Line),(∀ x∈l,sS x)->(Lt.ay l).length<=60601*l.length
 | [],_=>by simp [Lt.ay]
 | x::l,h=>by
  have h1:=xO l (fun y hy=>h y (adR _ hy))
  obtain ⟨h2,h3⟩:=h x (by simp);have h4:=Zh x.Words false h3
  have:101*x.Words.length<=101*600:=Nat.mul_le_mul_left _ h2
  rw [Lt.ay,adS];rw [Lt.ay] at h1;simp only [adD,adF,adL];omega
theorem L7 {s:List UInt8} (h:Lt.Name s=true):s.length<=16:=by
 unfold Lt.Name at h;simp only [ac9,decide_eq_true_eq] at h;exact h.1.1.1.2
theorem bk {s:List UInt8} (h:Lt.Name s=true):small s:=by have:=L7 h; unfold small; omega
theorem zP {s:List UInt8} (h:Lt.kind s=true):small s:=by
 unfold Lt.kind at h;simp only [ad4,decide_eq_true_eq] at h;rcases h with (rfl | rfl) | h
 ·decide
 ·decide
 ·exact bk h
theorem uM (l:List UInt8):∀ (k:Nat) (n:Int) (f i:Nat),(Lt.Gl l k n f i).length<=l.length
 | 0,_,_,_=>by simp [Lt.Gl]
 | k+1,n,f,i=>by
  rw [Lt.Gl];split
  ·split
   ·split
    ·simp; omega
    ·exact uM l k _ _ _
   ·exact uM l k _ _ _
  ·simp
theorem Nk {c:Prop} [Decidable c] {a b k:Nat} (h1:a<=k) (h2:b<=k):(if c then a else b)<=k:=by split <;> assumption
theorem VU (op:Int):small (Lt.Of op).1.Word:=by
 have h1:(Lt.nth Lt.two op).length<=100:=ae8 (uM _ _ _ _ _) (by decide)
 have h2:(Lt.nth [32,105,116,111,102,32,102,116,111,105,32,109,111,118,32] (IntKind.i64.wrap (op - 21))).length<=100:=ae8 (uM _ _ _ _ _) (by decide)
 unfold small Lt.Of;simp only [apply_ite Prod.fst,apply_ite Lt.Form.Word,apply_ite List.length,adF,adL];refine Nk h1 (Nk h2 ?_)
 repeat refine Nk (by omega) ?_
 omega
theorem eY {a:Lt.Arg} (h:Lt.aJ a=true):(a.Kind=1/\Lt.Name a.S=true/\a.N=0)\/(a.Kind=2/\a.S=[])\/(a.Kind=3/\a.S=[]/\Lt.Plain a.N=a.N)\/(a.Kind=4/\a.S=[]/\a.N=0)\/(a.Kind=5/\a.S=[]/\0<=a.N/\a.N<=999):=by
 unfold Lt.aJ at h;split at h
 ·rename_i h1; simp only [ac9,decide_eq_true_eq] at h; exact .inl ⟨h1,h⟩
 ·split at h
  ·rename_i h1; simp only [ac9,decide_eq_true_eq] at h; exact .inr (.inl ⟨h1,h⟩)
  ·split at h
   ·rename_i h1; simp only [ac9,decide_eq_true_eq] at h; exact .inr (.inr (.inl ⟨h1,h⟩))
   ·split at h
    ·rename_i h1; simp only [ac9,decide_eq_true_eq] at h; exact .inr (.inr (.inr (.inl ⟨h1,h⟩)))
    ·split at h
     ·rename_i h1; simp only [ac9,decide_eq_true_eq] at h; exact .inr (.inr (.inr (.inr ⟨h1,h.1.1,h.1.2,h.2⟩)))
     ·cases h
theorem f8 {a:Lt.Arg} (h:a.ok):small (Lt.ac a):=by
 have hn:=iD h
 have hf:=Bw a.N
 unfold small Lt.ac;split
 ·rename_i hr;split
  ·omega
  ·split
   ·omega
   ·split
    ·decide
    ·split
     ·simp only [adF]; omega
     ·rcases eY hr with h | h | h | h | h
      ·have:=L7 h.2.1; omega
      ·exact absurd h.1 (by assumption)
      ·exact absurd h.1 (by assumption)
      ·exact absurd h.1 (by assumption)
      ·exact absurd h.1 (by assumption)
 ·decide
theorem Ch {l:List Lt.Arg} (h:Lt.p7 l):∀ w∈Lt.puts l,small w:=by
 intro w hw;obtain ⟨a,ha,rfl⟩:=ad0.1 hw;exact f8 (h a ha)
theorem uL (first:List UInt8) (hf:small first) {l:List Lt.Var} {n:Int} (h:Lt.typed l n=true):∀ x∈Lt.dA first l,sS x:=by
 intro x hx;obtain ⟨v,hv,rfl⟩:=ad0.1 hx;unfold Lt.typed at h;simp only [ac9,adI] at h;have:=h.2 v hv
 refine ⟨by simp [Lt.ln],fun w hw=>?_⟩;simp only [Lt.ln,adK,aeQ,or_false] at hw;rcases hw with rfl | rfl | rfl
 ·exact hf
 ·exact bk this.1
 ·exact zP this.2
theorem nG {n:Int} (h:Lt.inR n):small (Lt.number n):=by have:=iD h; unfold small Lt.number; omega
theorem Ug {i:Lt.Instr} (h:Lt.instr i=true) (hok:i.ok):∀ x∈Lt.dO i,sS x:=by
 have I:=eP h
 obtain ⟨okA,okF,okO⟩:=hok;have a8:=I.args
 intro x hx;simp only [Lt.dO,adJ,adM,ad0] at hx;rcases hx with (rfl | ⟨f,hf,rfl⟩) | ⟨o,ho,rfl⟩
 ·refine ⟨?_,fun w hw=>?_⟩
  ·simp only [Lt.ln,Lt.words,adD];split <;> split <;> (try split) <;> simp only [adF,adL,adD,adT,pZ] <;> omega
  ·have hp:=Ch okA
   simp only [Lt.ln,Lt.words,adJ] at hw;rcases hw with (hw | hw) | hw
   ·split at hw
    ·rename_i hd;simp only [adK,aeQ,or_false] at hw;rcases hw with rfl | rfl
     ·exact bk (I.dstN hd)
     ·decide
    ·cases hw
   ·simp only [adM] at hw;subst hw;exact VU _
   ·split at hw
    ·rename_i hc;have h1:=I.least hc
     simp only [adK] at hw;rcases hw with rfl | rfl | hw
     ·exact hp _ (eM _ (by rw [pZ]; omega))
     ·have:(Lt.Of i.Op).1.Named=true:=by rcases hc with e | e <;> rw [e] <;> decide
      exact bk (I.nmN this)
     ·exact hp _ (List.mem_of_mem_drop hw)
    ·simp only [adJ] at hw;rcases hw with hw | hw
     ·split at hw
      ·rename_i hd;simp only [adM] at hw;subst hw;exact bk (I.nmN hd)
      ·cases hw
     ·exact hp _ hw
 ·have V:=qi (I.fr f hf)
  refine ⟨?_,fun w hw=>?_⟩
  ·have:=V.2.2.2.2.1
   simp only [Lt.ln,Lt.fZ,adD,Pz,adF,adL];omega
  ·simp only [Lt.ln,Lt.fZ,adJ,adK,aeQ,or_false,afE] at hw;rcases hw with (rfl | rfl | rfl | rfl) | ⟨b,hb,rfl | rfl⟩
   ·decide
   ·exact bk V.1
   ·exact bk V.2.1
   ·have:=V.2.2.1; have:=V.2.2.2.1
    exact nG ⟨by omega,by omega⟩
   ·have:=V.2.2.2.2.2 b hb
    unfold Lt.gn at this;rw [ac9] at this;exact bk this.1
   ·exact f8 ((okF f hf).2 b hb)
 ·have V:=yZ (I.ob o ho)
  refine ⟨?_,fun w hw=>?_⟩
  ·simp only [Lt.ln,Lt.lz,adD,pZ,adF,adL];omega
  ·simp only [Lt.ln,Lt.lz,adJ,adK,aeQ,or_false] at hw;rcases hw with (rfl | rfl) | hw
   ·decide
   ·exact bk V.1
   ·exact Ch (okO o ho) _ hw
theorem Yo {t:Lt.Term} (h:Lt.cr t=true) (hok:t.ok):sS (Lt.ln (Lt.dS t)):=by
 unfold Lt.cr at h;rw [ac9,adI] at h;obtain ⟨h1,h2⟩:=h;refine ⟨?_,fun w hw=>?_⟩
 ·simp only [Lt.ln,Lt.dS]
  repeat' split
  all_goals simp
 ·simp only [Lt.ln,Lt.dS] at hw;split at hw
  ·rename_i hc;rw [if_pos hc] at h2;simp only [ac9,decide_eq_true_eq] at h2;simp only [adK,aeQ,or_false] at hw;rcases hw with rfl | rfl
   ·decide
   ·exact bk (h1 _ (eM _ (by omega)))
  ·rename_i hc;rw [if_neg hc] at h2;split at hw
   ·rename_i hc;rw [if_pos hc] at h2;simp only [ac9,decide_eq_true_eq] at h2;simp only [adK,aeQ,or_false] at hw;rcases hw with rfl | rfl | rfl | rfl
    ·decide
    ·exact f8 hok.1
    ·exact bk (h1 _ (eM _ (by omega)))
    ·exact bk (h1 _ (eM _ (by omega)))
   ·split at hw
    ·simp only [adK,aeQ,or_false] at hw;rcases hw with rfl | rfl
     ·decide
     ·exact f8 hok.1
    ·simp only [adK,aeQ,or_false] at hw;rcases hw with rfl | rfl
     ·decide
     ·exact nG hok.2
theorem RZ {b:Lt.Block} (h:Lt.block b=true) (hok:b.ok):∀ x∈Lt.bB b,sS x:=by
 have B:=mP h
 intro x hx;simp only [Lt.bB,adJ,adM,ad0,afE] at hx;rcases hx with ((rfl | ⟨y,hy,rfl⟩) | ⟨i,hi,hx⟩) | rfl
 ·refine ⟨by simp [Lt.ln],fun w hw=>?_⟩;simp only [Lt.ln,adK,aeQ,or_false] at hw;rcases hw with rfl | rfl
  ·decide
  ·exact bk B.1
 ·have P:=Cj (B.2.2.1 y hy)
  refine ⟨?_,fun w hw=>?_⟩
  ·have:=P.2.2.1
   simp only [Lt.ln,Lt.sN,adD,Pz,adF,adL];omega
  ·simp only [Lt.ln,Lt.sN,adJ,adK,aeQ,or_false,afE] at hw;rcases hw with (rfl | rfl) | ⟨b',hb,rfl | rfl⟩
   ·decide
   ·exact bk P.1
   ·have:=P.2.2.2 b' hb
    unfold Lt.lb at this;rw [ac9] at this;exact bk this.1
   ·exact f8 ((hok.1 y hy).2 b' hb)
 ·exact Ug (B.2.2.2 i hi) (hok.2.1 i hi) x hx
 ·exact Yo B.2.1 hok.2.2
theorem UZ {f:Lt.Func} (h:Lt.ax f=true) (hok:f.ok):∀ x∈Lt.cK f,sS x:=by
 have F:=nX h
 intro x hx;simp only [Lt.cK,adJ,adM,afE] at hx;rcases hx with ((rfl | hx) | hx) | ⟨b,hb,hx⟩
 ·refine ⟨by simp [Lt.ln],fun w hw=>?_⟩;simp only [Lt.ln,adK,aeQ,or_false] at hw;rcases hw with rfl | rfl | rfl
  ·decide
  ·exact bk F.name
  ·exact zP F.res
 ·exact uL _ (by decide) F.params x hx
 ·exact uL _ (by decide) F.vars x hx
 ·exact RZ (F.bl b hb) (hok b hb) x hx
theorem WM {p:Lt.Program} (h:Lt.bb p=true) (hok:p.ok):∀ x∈Lt.di p,sS x:=by
 have P:=qL h
 intro x hx;simp only [Lt.di,adJ,afE,ad0] at hx;rcases hx with (((hx | ⟨c,hc,hx⟩) | hx) | ⟨e,he,rfl⟩) | ⟨f,hf,hx⟩
 ·split at hx
  ·simp only [adM] at hx;subst hx;refine ⟨by simp [Lt.ln],fun w hw=>?_⟩;simp only [Lt.ln,adM] at hw;subst hw;decide
  ·cases hx
 ·have C:=P.cl c hc
  unfold Lt.bD at C;rw [ac9] at C;simp only [Lt.cQ,adJ,adM] at hx;rcases hx with rfl | hx
  ·refine ⟨by simp [Lt.ln],fun w hw=>?_⟩;simp only [Lt.ln,adK,aeQ,or_false] at hw;rcases hw with rfl | rfl
   ·decide
   ·exact bk C.1
  ·exact uL _ (by decide) C.2 x hx
 ·exact uL _ (by decide) P.glob x hx
 ·have E:=P.ex e he
  unfold Lt.bT at E;simp only [ac9,decide_eq_true_eq] at E;refine ⟨by simp [Lt.ln,Lt.gM],fun w hw=>?_⟩;simp only [Lt.ln,Lt.gM,adK,aeQ,or_false] at hw;rcases hw with rfl | rfl | rfl
  ·decide
  ·exact bk E.1.1
  ·exact nG ⟨by omega,by omega⟩
 ·exact UZ (P.fn f hf) (hok f hf) x hx
theorem th {c:Lt.Class} (h:Lt.bD c=true):(Lt.cQ c).length<=9:=by
 unfold Lt.bD at h;rw [ac9] at h;have:=gy h.2
 simp only [Lt.cQ,Lt.dA,adD,adE,adF,adL];omega
theorem Sl {p:Lt.Program} (h:Lt.bb p=true):(Lt.di p).length<=1050000:=by
 have P:=qL h
 have h1:=eG Lt.cQ 9 p.Classes (fun c hc=>th (P.cl c hc))
 have h2:=eG Lt.cK 130000 p.Funcs (fun f hf=>DS (P.fn f hf))
 have h3:=gy P.glob
 have:=P.nc; have:=P.ne; have:=P.nf
 have h4:(if p.SSA=true then [Lt.ln [[115,115,97]]] else []).length<=1:=by split <;> simp
 simp only [Lt.di,Lt.dA,adD,adE];omega
theorem Fh (p:Lt.Program) (hp:Lt.iN p) (KK:List UInt8×Int->Prop) (h:KK (Lt.aG p)):ta p KK:=by
 unfold Lt.iN at hp;unfold ta; dsimp only; (try simp only [al,au,aA,jval,bor,band,bnand,bimp,and_self]);unfold Lt.aG at h;refine ifk (fun hc=>kk h (by grind)) (fun hr=>?_)
 replace hr:Lt.bb p=true:=by simpa using hr
 have P:=qL hr
 have hnc:=P.nc; have hne:=P.ne; have hnf:=P.nf
 have hglob:=gy P.glob
 rw [hr,if_pos rfl] at h;have hjb:(Lt.ay (Lt.di p)).length<=140737488355328:=by
  have h1:=xO _ (WM hr hp)
  have h2:=Sl hr
  omega
 intro J hJ;have j1:∀ x:List Lt.Line,x=(if p.SSA=true then [Lt.ln [[115,115,97]]] else [])->J ⟨x⟩:=by
  intro x hx;refine hJ _ (fun hl=>?_);have hxl:x.length<=1:=by rw [hx]; split <;> simp
  refine fT p.Classes.length hl (fun i=>(⟨x++(p.Classes.take i).flatMap Lt.cQ⟩:Lt.Sheet)) _ (fun R i hi ih=>?_) (fun R=>?_) (by simp)
  ·simp only [cX hi,if_true,Int.toNat_natCast]
   try dsimp +instances only [Int.toNat_natCast]
   have C:=bG P.cl hi
   have hC:=C
   unfold Lt.bD at C;rw [ac9] at C;have hcl:=eG Lt.cQ 9 (p.Classes.take i) (fun c hc=>th (P.cl c (uo hc)))
   have hct:(p.Classes.take i).length<=8:=by rw [aeF]; omega
   have htl:=gy C.2
   refine ⟨⟨adC i,hi⟩,?_,?_,?_⟩
   ·unfold Lt.bq Lt.room;simp only [adD]; omega
   ·unfold Lt.gX Lt.room;simp only [Lt.aT,adD,adF,adL]; omega
   ·simp only [jX _ _ hi,<- aeI,Lt.cQ] at ih;exact ih
  ·simp only [dz,adB,if_false];rw [List.take_length];have hcl:=eG Lt.cQ 9 p.Classes (fun c hc=>th (P.cl c hc))
   refine ⟨?_,fun hl2=>?_⟩
   ·unfold Lt.gX Lt.room;simp only [adD]; omega
   ·generalize hy:(Lt.cO ⟨x++p.Classes.flatMap Lt.cQ⟩ [103,108,111,98,97,108] p.Globals).2=y;obtain ⟨y⟩:=y;have hy':=congrArg Lt.Sheet.l hy
    have hyl:y.length<=100:=by
     rw [show y=_ from hy'.symm];simp only [Lt.cO,Lt.dA,adD,adE];omega
    refine fT p.Externs.length hl2 (fun i=>(⟨y++(p.Externs.take i).map Lt.gM⟩:Lt.Sheet)) _ (fun R i hi ih=>?_) (fun R=>?_) (by simp)
    ·simp only [cX hi,if_true,Int.toNat_natCast]
     try dsimp +instances only [Int.toNat_natCast]
     have E:=bG P.ex hi
     unfold Lt.bT at E;simp only [ac9,decide_eq_true_eq] at E;refine ⟨⟨adC i,hi⟩,⟨by omega,by omega⟩,?_,?_⟩
     ·unfold Lt.bq Lt.room;simp only [adD,adE,aeF]; omega
     ·simp only [pY _ _ hi,<- aeI] at ih;exact ih
    ·simp only [dz,adB,if_false];rw [List.take_length];intro hl3;refine fT p.Funcs.length hl3 (fun i=>(⟨y++p.Externs.map Lt.gM++(p.Funcs.take i).flatMap Lt.cK⟩:Lt.Sheet)) _ (fun R i hi ih=>?_) (fun R=>?_) (by simp)
     ·simp only [cX hi,if_true,Int.toNat_natCast]
      try dsimp +instances only [Int.toNat_natCast]
      have hcl:=eG Lt.cK 130000 (p.Funcs.take i) (fun f hf=>DS (P.fn f (uo hf)))
      have hct:(p.Funcs.take i).length<=8:=by rw [aeF]; omega
      refine ⟨⟨adC i,hi⟩,⟨bG hp hi,bG P.fn hi,?_⟩,?_⟩
      ·unfold Lt.room;simp only [adD,adE]; omega
      ·simp only [jX _ _ hi,<- aeI] at ih;exact ih
     ·simp only [dz,adB,if_false];rw [List.take_length];have e:y++p.Externs.map Lt.gM++p.Funcs.flatMap Lt.cK=Lt.di p:=by
       rw [show y=_ from hy'.symm,Lt.di,<- hx]; rfl
      rw [e];refine ⟨hjb,fun _=>kk h ?_⟩;unfold Lt.Join
      grind
 exact ifk (fun hs=>⟨by unfold Lt.bq Lt.room; simp,j1 _ (by rw [if_pos hs]; rfl)⟩) (fun hs=>j1 _ (by rw [if_neg hs]))
end Go.Am
end

section
namespace Go.Am
open Go
theorem Rk {α:Type} [Inhabited α] [DecidableEq α] (a b:List α) (hl:a.length<=LEN) (hlen:a.length=b.length) (rest:Bool) (KK:Bool->Prop) (body:(Int->Prop)->Int->Prop)
  (hs:∀ R i,i<a.length->(a.getD i default=b.getD i default->R (IntKind.i64.wrap ((i:Int)+1)))->(a.getD i default≠b.getD i default->KK false)->body R (i:Int))
  (he:∀ R,KK rest->body R (a.length:Int)) (h:KK (decide (a=b)&&rest)):aB body 0:=by
 refine eV body a.length (fun i x=>x=(i:Int)/\KK (decide (a.drop i=b.drop i)&&rest)) (fun R i x hi hx ih=>?_) (fun R x hx=>?_) _ ⟨rfl,by simpa using h⟩
 ·obtain ⟨rfl,h⟩:=hx;have hb:i<b.length:=by omega
  rw [aeB hi,aeB hb] at h;have ea:a.getD i default=a[i]:=by rw [List.getD,adA hi]; rfl
  have eb:b.getD i default=b[i]:=by rw [List.getD,adA hb]; rfl
  refine hs _ i hi (fun e=>?_) (fun e=>?_)
  ·refine ih _ ⟨b9 (by unfold LEN at hl; omega),?_⟩;rw [ea,eb] at e;simp only [e,List.cons.injEq,true_and] at h;exact h
  ·rw [ea,eb] at e;simp only [List.cons.injEq,e,false_and,decide_false,afB] at h;exact h
 ·obtain ⟨rfl,h⟩:=hx;rw [afW,hlen,afW] at h;exact he _ (by simpa using h)
theorem cy {α:Type} [Inhabited α] [DecidableEq α] (a b:List α) (hlen:a.length=b.length) (rest:Bool) (KK:Bool->Prop) (body:(Int->Prop)->Int->Prop)
  (hs:∀ R i,a.length<=LEN->i<a.length->(a.getD i default=b.getD i default->R (IntKind.i64.wrap ((i:Int)+1)))->(a.getD i default≠b.getD i default->KK false)->body R (i:Int))
  (he:∀ R,KK rest->body R (a.length:Int)) (h:KK (decide (a=b)&&rest)):aB (fun R v=>a.length<=4611686018427387904->body R v) 0:=by
 by_cases hl:a.length<=LEN
 ·exact Rk a b hl hlen rest KK _ (fun R i hi h1 h2 _=>hs R i hl hi h1 h2) (fun R h _=>he R h) h
 ·exact ⟨1,fun h=>absurd h hl⟩
theorem Zu (x y:Lt.Var):(decide (x.Name=y.Name)&&decide (x.Type_=y.Type_))=decide (x=y):=by
 obtain ⟨a,b⟩:=x; obtain ⟨c,d⟩:=y;by_cases h1:a=c <;> by_cases h2:b=d <;> simp [h1,h2]
theorem GO (x y:Lt.Arg):(decide (x.Kind=y.Kind)&&(decide (x.S=y.S)&&decide (x.N=y.N)))=decide (x=y):=by
 obtain ⟨a,b,c⟩:=x; obtain ⟨d,e,f⟩:=y;by_cases h1:a=d <;> by_cases h2:b=e <;> by_cases h3:c=f <;> simp [h1,h2,h3]
theorem Xq (x y:Lt.Bind):(decide (x.Name=y.Name)&&(decide (x.A.Kind=y.A.Kind)&&(decide (x.A.S=y.A.S)&&decide (x.A.N=y.A.N))))=decide (x=y):=by
 rw [GO];obtain ⟨a,b⟩:=x; obtain ⟨c,d⟩:=y;by_cases h1:a=c <;> by_cases h2:b=d <;> simp [h1,h2]
theorem abP (x y:Lt.In):(decide (x.Block=y.Block)&&(decide (x.A.Kind=y.A.Kind)&&(decide (x.A.S=y.A.S)&&decide (x.A.N=y.A.N))))=decide (x=y):=by
 rw [GO];obtain ⟨a,b⟩:=x; obtain ⟨c,d⟩:=y;by_cases h1:a=c <;> by_cases h2:b=d <;> simp [h1,h2]
theorem Q6 (x y:Lt.Extern):(decide (x.Name=y.Name)&&decide (x.N=y.N))=decide (x=y):=by
 obtain ⟨a,b⟩:=x; obtain ⟨c,d⟩:=y;by_cases h1:a=c <;> by_cases h2:b=d <;> simp [h1,h2]
theorem ob2 {α β:Type} {a:List α} {b:List β} {i:Nat} (h:i<a.length) (e:a.length=b.length):(0:Int)<=(i:Int)/\i<b.length:=⟨adC i,by omega⟩
theorem GU (a b:List Lt.Var) (KK:Bool->Prop) (h:KK (Lt.gL a b)):sg a b KK:=by
 unfold sg; (try simp only [al,au,aA,jval,bor,band,bnand,bimp,and_self]);intro _ _;unfold Lt.gL at h;refine ifk (fun hc=>kk h (by grind)) (fun hc=>?_);have hlen:a.length=b.length:=by grind
 refine cy a b hlen true KK _ (fun R i hl hi ih hF=>?_) (fun R h=>?_) (kk h (by simp))
 ·simp only [cX hi,if_true,Int.toNat_natCast]
  try dsimp +instances only [Int.toNat_natCast]
  refine ⟨⟨adC i,hi⟩,ob2 hi hlen,?_⟩;rw [Zu]
  grind
 ·simp only [dz,adB,if_false]; exact h
theorem Fq (a b:List Lt.Arg) (KK:Bool->Prop) (h:KK (Lt.lU a b)):rW a b KK:=by
 unfold rW; (try simp only [al,au,aA,jval,bor,band,bnand,bimp,and_self]);intro _ _;unfold Lt.lU at h;refine ifk (fun hc=>kk h (by grind)) (fun hc=>?_);have hlen:a.length=b.length:=by grind
 refine cy a b hlen true KK _ (fun R i hl hi ih hF=>?_) (fun R h=>?_) (kk h (by simp))
 ·simp only [cX hi,if_true,Int.toNat_natCast]
  try dsimp +instances only [Int.toNat_natCast]
  refine ⟨⟨adC i,hi⟩,ob2 hi hlen,?_⟩;rw [GO]
  grind
 ·simp only [dz,adB,if_false]; exact h
theorem Db (a b:Lt.Instr) (KK:Bool->Prop) (h:KK (Lt.mz a b)):pS a b KK:=by
 unfold pS; dsimp only; (try simp only [al,au,aA,jval,bor,band,bnand,bimp,and_self]);unfold Lt.mz at h;unfold Lt.lU;refine ifk (fun hc=>kk h (by grind)) (fun hc=>?_);simp only [ad4,aeJ,decide_eq_false_iff_not,not_or,adP,decide_eq_true_eq,Classical.not_not] at hc;obtain ⟨h1,h2,h3,h4,h5,h6⟩:=hc;have e:decide (a=b)=(decide (a.Frames=b.Frames)&&(decide (a.Objs=b.Objs)&&true)):=by
  obtain ⟨a1,a2,a3,a4,a5,a6⟩:=a; obtain ⟨b1,b2,b3,b4,b5,b6⟩:=b;dsimp only at h1 h2 h3 h4;subst h1; subst h2; subst h3; subst h4;by_cases g1:a5=b5 <;> by_cases g2:a6=b6 <;> simp [g1,g2]
 rw [e] at h;have hlF:a.Frames.length=b.Frames.length:=by omega
 have hlO:a.Objs.length=b.Objs.length:=by omega
 refine cy a.Frames b.Frames hlF _ KK _ (fun R i hl hi ih hF=>?_) (fun R h=>?_) h
 ·simp only [cX hi,if_true,Int.toNat_natCast]
  try dsimp +instances only [Int.toNat_natCast]
  refine ⟨⟨adC i,hi⟩,ob2 hi hlF,?_⟩;generalize a.Frames.getD i default=x at ih hF ⊢;generalize b.Frames.getD i default=y at ih hF ⊢;refine ifk (fun hc=>hF (by grind)) (fun hc=>?_);have hlV:x.Vars.length=y.Vars.length:=by grind
  refine cy x.Vars y.Vars hlV true (fun b=>if b=true then R (IntKind.i64.wrap ((i:Int)+1)) else KK false) _ (fun R2 j hl hj ih2 hF2=>?_) (fun R2 h=>?_) ?_
  ·simp only [cX hj,if_true,Int.toNat_natCast]
   try dsimp +instances only [Int.toNat_natCast]
   refine ⟨⟨adC j,hj⟩,ob2 hj hlV,?_⟩;rw [Xq];simp only [adB,if_false] at hF2
   grind
  ·simp only [dz,adB,if_false]; simpa using h
  ·refine ifk (fun hv=>ih ?_) (fun hv=>hF ?_)
   ·obtain ⟨x1,x2,x3,x4⟩:=x; obtain ⟨y1,y2,y3,y4⟩:=y; grind
   ·grind
 ·simp only [dz,adB,if_false];refine cy a.Objs b.Objs hlO _ KK _ (fun R i hl hi ih hF=>?_) (fun R h=>?_) h
  ·simp only [cX hi,if_true,Int.toNat_natCast]
   try dsimp +instances only [Int.toNat_natCast]
   refine ⟨⟨adC i,hi⟩,ob2 hi hlO,?_⟩;have o1:(0:Int)<=(i:Int)/\i<a.Objs.length:=⟨adC i,hi⟩
   have o2:=ob2 hi hlO
   simp only [o1,o2,and_self,true_and]; (try simp only [al,au,aA,jval,bor,band,bnand,bimp,and_self]);generalize a.Objs.getD i default=x at ih hF ⊢;generalize b.Objs.getD i default=y at ih hF ⊢;obtain ⟨x1,x2⟩:=x; obtain ⟨y1,y2⟩:=y
   grind
  ·simp only [dz,adB,if_false]; exact h
theorem Dk (a b:Lt.Block) (KK:Bool->Prop) (h:KK (Lt.mn a b)):o8 a b KK:=by
 unfold o8; dsimp only; (try simp only [al,au,aA,jval,bor,band,bnand,bimp,and_self]);unfold Lt.mn at h;rw [GO];refine ifk (fun hc=>kk h (by grind)) (fun hc=>?_);simp only [ad4,aeJ,decide_eq_false_iff_not,not_or,adP,decide_eq_true_eq,Classical.not_not] at hc;obtain ⟨h1,h2,h3,h4,h5,h6,h7⟩:=hc;have e:decide (a=b)=(decide (a.End.To=b.End.To)&&(decide (a.Phis=b.Phis)&&(decide (a.Code=b.Code)&&true))):=by
  obtain ⟨a1,a2,a3,⟨a4,a5,a6,a7⟩⟩:=a; obtain ⟨b1,b2,b3,⟨b4,b5,b6,b7⟩⟩:=b;dsimp only at h1 h4 h5 h6;subst h1; subst h4; subst h5; subst h6;by_cases g1:a2=b2 <;> by_cases g2:a3=b3 <;> by_cases g3:a6=b6 <;> simp [g1,g2,g3]
 rw [e] at h;have hlT:a.End.To.length=b.End.To.length:=by omega
 have hlP:a.Phis.length=b.Phis.length:=by omega
 have hlC:a.Code.length=b.Code.length:=by omega
 refine cy a.End.To b.End.To hlT _ KK _ (fun R i hl hi ih hF=>?_) (fun R h=>?_) h
 ·simp only [cX hi,if_true,Int.toNat_natCast]
  try dsimp +instances only [Int.toNat_natCast]
  refine ⟨⟨adC i,hi⟩,ob2 hi hlT,?_⟩
  grind
 ·simp only [dz,adB,if_false];refine cy a.Phis b.Phis hlP _ KK _ (fun R i hl hi ih hF=>?_) (fun R h=>?_) h
  ·simp only [cX hi,if_true,Int.toNat_natCast]
   try dsimp +instances only [Int.toNat_natCast]
   have o1:(0:Int)<=(i:Int)/\i<a.Phis.length:=⟨adC i,hi⟩
   have o2:=ob2 hi hlP
   simp only [o1,o2,and_self,true_and]; (try simp only [al,au,aA,jval,bor,band,bnand,bimp,and_self]);generalize a.Phis.getD i default=x at ih hF ⊢;generalize b.Phis.getD i default=y at ih hF ⊢;obtain ⟨x1,x2⟩:=x; obtain ⟨y1,y2⟩:=y;dsimp only;refine ifk (fun hc=>hF (by grind)) (fun hc=>?_);have hlV:x2.length=y2.length:=by grind
   refine cy x2 y2 hlV true (fun b=>if b=true then R (IntKind.i64.wrap ((i:Int)+1)) else KK false) _ (fun R2 j hl hj ih2 hF2=>?_) (fun R2 h=>?_) ?_
   ·simp only [cX hj,if_true,Int.toNat_natCast]
    try dsimp +instances only [Int.toNat_natCast]
    have p1:(0:Int)<=(j:Int)/\j<x2.length:=⟨adC j,hj⟩
    have p2:=ob2 hj hlV
    simp only [p1,p2,and_self,true_and];rw [abP];simp only [adB,if_false] at hF2
    grind
   ·simp only [dz,adB,if_false]; simpa using h
   ·exact ifk (fun hv=>ih (by grind)) (fun hv=>hF (by grind))
  ·simp only [dz,adB,if_false];refine cy a.Code b.Code hlC _ KK _ (fun R i hl hi ih hF=>?_) (fun R h=>?_) h
   ·simp only [cX hi,if_true,Int.toNat_natCast]
    try dsimp +instances only [Int.toNat_natCast]
    refine ⟨⟨adC i,hi⟩,ob2 hi hlC,?_⟩;unfold Lt.mz
    grind
   ·simp only [dz,adB,if_false]; exact h
theorem Gk (a b:Lt.Func) (KK:Bool->Prop) (h:KK (Lt.oX a b)):sY a b KK:=by
 unfold sY; dsimp only; (try simp only [al,au,aA,jval,bor,band,bnand,bimp,and_self]);unfold Lt.oX at h;unfold Lt.gL;refine ifk (fun hc=>kk h (by grind)) (fun hc=>?_);simp only [ad4,aeJ,decide_eq_false_iff_not,not_or,adP,decide_eq_true_eq,Classical.not_not] at hc;obtain ⟨h1,h2,h3,h4,h5⟩:=hc;have e:decide (a=b)=(decide (a.Blocks=b.Blocks)&&true):=by
  obtain ⟨a1,a2,a3,a4,a5⟩:=a; obtain ⟨b1,b2,b3,b4,b5⟩:=b;dsimp only at h1 h2 h3 h4;subst h1; subst h2; subst h3; subst h4;by_cases g1:a5=b5 <;> simp [g1]
 rw [e] at h;have hlB:a.Blocks.length=b.Blocks.length:=by omega
 refine cy a.Blocks b.Blocks hlB _ KK _ (fun R i hl hi ih hF=>?_) (fun R h=>?_) h
 ·simp only [cX hi,if_true,Int.toNat_natCast]
  try dsimp +instances only [Int.toNat_natCast]
  refine ⟨⟨adC i,hi⟩,ob2 hi hlB,?_⟩;generalize a.Blocks.getD i default=x at ih hF ⊢;generalize b.Blocks.getD i default=y at ih hF ⊢;obtain ⟨x1,x2,x3,⟨x4,x5,x6,x7⟩⟩:=x; obtain ⟨y1,y2,y3,⟨y4,y5,y6,y7⟩⟩:=y;unfold Lt.mn;dsimp only
  grind
 ·simp only [dz,adB,if_false]; exact h
theorem Ti (a b:Lt.Program) (KK:Bool->Prop) (h:KK (Lt.Same a b)):Mv a b KK:=by
 unfold Mv; (try simp only [al,au,aA,jval,bor,band,bnand,bimp,and_self]);unfold Lt.Same at h;unfold Lt.gL Lt.oX;refine ifk (fun hc=>kk h (by grind)) (fun hc=>?_);simp only [ad4,aeJ,decide_eq_false_iff_not,not_or,adP,decide_eq_true_eq,Classical.not_not,beq_iff_eq] at hc;obtain ⟨h1,h2,h3,h4,h5⟩:=hc;have e:decide (a=b)=(decide (a.Classes=b.Classes)&&(decide (a.Externs=b.Externs)&&(decide (a.Funcs=b.Funcs)&&true))):=by
  obtain ⟨a1,a2,a3,a4,a5⟩:=a; obtain ⟨b1,b2,b3,b4,b5⟩:=b;dsimp only at h1 h3;subst h1; subst h3;by_cases g1:a2=b2 <;> by_cases g2:a4=b4 <;> by_cases g3:a5=b5 <;> simp [g1,g2,g3]
 rw [e] at h;have hlC:a.Classes.length=b.Classes.length:=by omega
 have hlE:a.Externs.length=b.Externs.length:=by omega
 have hlF:a.Funcs.length=b.Funcs.length:=by omega
 refine cy a.Classes b.Classes hlC _ KK _ (fun R i hl hi ih hF=>?_) (fun R h=>?_) h
 ·simp only [cX hi,if_true,Int.toNat_natCast]
  try dsimp +instances only [Int.toNat_natCast]
  have o1:(0:Int)<=(i:Int)/\i<a.Classes.length:=⟨adC i,hi⟩
  have o2:=ob2 hi hlC
  simp only [o1,o2,and_self,true_and]; (try simp only [al,au,aA,jval,bor,band,bnand,bimp,and_self]);generalize a.Classes.getD i default=x at ih hF ⊢;generalize b.Classes.getD i default=y at ih hF ⊢;obtain ⟨x1,x2⟩:=x; obtain ⟨y1,y2⟩:=y
  grind
 ·simp only [dz,adB,if_false];refine cy a.Externs b.Externs hlE _ KK _ (fun R i hl hi ih hF=>?_) (fun R h=>?_) h
  ·simp only [cX hi,if_true,Int.toNat_natCast]
   try dsimp +instances only [Int.toNat_natCast]
   refine ⟨⟨adC i,hi⟩,ob2 hi hlE,?_⟩;rw [Q6]
   grind
  ·simp only [dz,adB,if_false];refine cy a.Funcs b.Funcs hlF _ KK _ (fun R i hl hi ih hF=>?_) (fun R h=>?_) h
   ·simp only [cX hi,if_true,Int.toNat_natCast]
    try dsimp +instances only [Int.toNat_natCast]
    refine ⟨⟨adC i,hi⟩,ob2 hi hlF,?_⟩
    grind
   ·simp only [dz,adB,if_false]; exact h
end Go.Am
end

section
namespace Go.Am
open Go
theorem dR {α:Type} [Inhabited α] (l:List α) (most:Int) (go:List α->Int->Int) (h0:∀ b,go [] b=b) (h1:∀ x r b,¬ b<=most->go (x::r) b=b) (KK:Int->Prop) (A B:(Int×Int->Prop)->Int×Int->Prop)
  (hs:∀ R b i,l.length<=LEN->i<l.length->b<=most->(∀ b',KK (go (l.drop (i+1)) b')->R (b',IntKind.i64.wrap ((i:Int)+1)))->KK (go (l.getD i default::l.drop (i+1)) b)->A R (b,(i:Int)))
  (he:∀ R b i,KK b->B R (b,i)) (b:Int) (h:KK (go l b)):aB (fun R v=>l.length<=4611686018427387904->if (decide (v.2 < (l.length:Int))&&decide (v.1<=most))=true then A R v else B R v) (b,0):=by
 by_cases hl:l.length<=LEN
 ·refine SJ l hl go KK _ (fun R b i hi ih h _=>?_) (fun R b h _=>?_) b h
  ·by_cases hb:b<=most
   ·rw [if_pos (by simp only [cX hi,hb,decide_true,agM])];exact hs R b i hl hi hb ih h
   ·rw [if_neg (by simp [hb])];rw [h1 _ _ _ hb] at h;exact he R b i h
  ·rw [if_neg (by simp)];rw [h0] at h;exact he R b _ h
 ·exact ⟨1,fun h=>absurd h hl⟩
theorem Dx (l:List Lt.Var) (most:Int) (KK:Int->Prop) (h:KK (Lt.cP l most)):oQ l most KK:=by
 unfold oQ; (try simp only [al,au,aA,aQ,bL,jval,bor,band,bnand,bimp,and_self]);unfold Lt.cP at h;intro _;refine ifk (fun hc=>kk h (by grind)) (fun hc _=>?_);refine dR l most (Lt.BR most) (fun _=>rfl) (fun x r b hb=>by simp [Lt.BR,hb]) KK _ _ (fun R b i hl hi hb ih h=>?_) (fun R b i h=>h) _ (kk h (by grind));simp only [Int.toNat_natCast]
 try dsimp +instances only [Int.toNat_natCast]
 refine ⟨⟨adC i,hi⟩,fun _=>?_⟩;simp only [Lt.BR,Lt.plus,hb,if_true] at h;have o:=ob hi
 grind
theorem Da (l:List Lt.Arg) (most:Int) (KK:Int->Prop) (h:KK (Lt.fe l most)):pO l most KK:=by
 unfold pO; (try simp only [al,au,aA,aQ,bL,jval,bor,band,bnand,bimp,and_self]);unfold Lt.fe at h;intro _;refine ifk (fun hc=>kk h (by grind)) (fun hc _=>?_);refine dR l most (Lt.Au most) (fun _=>rfl) (fun x r b hb=>by simp [Lt.Au,hb]) KK _ _ (fun R b i hl hi hb ih h=>?_) (fun R b i h=>h) _ (kk h (by grind));simp only [Int.toNat_natCast]
 try dsimp +instances only [Int.toNat_natCast]
 refine ⟨⟨adC i,hi⟩,fun _=>?_⟩;simp only [Lt.Au,Lt.plus,hb,if_true] at h;exact ih _ h
theorem AE (x:Lt.Instr) (most:Int) (hp:Lt.VK x most) (KK:Int->Prop) (h:KK (Lt.fI x most)):nZ x most KK:=by
 obtain ⟨⟨_,okF,_⟩,hm⟩:=hp;unfold nZ; dsimp only; (try simp only [al,au,aA,jval,bor,band,bnand,bimp,and_self]);unfold Lt.fI at h;intro _;refine ifk (fun hc=>kk h (by grind)) (fun hc _ _ _=>?_);rw [if_neg hc] at h;intro J hJ;have hj:J (Lt.upto most (Lt.plus (Lt.plus (Lt.plus 1 x.Dst.length) x.Frames.length) x.Objs.length) (x.Name.length:Int)):=by
  refine hJ _ ?_;dsimp only;refine dR x.Frames most (Lt.k9 most) (fun _=>rfl) (fun x r b hb=>by simp [Lt.k9,hb]) (fun n=>KK (Lt.vE most x.Objs n)) _ _ (fun R b i hl hi hb ih h=>?_) (fun R b i h=>?_) _ (kk h (by unfold Lt.upto; grind))
  ·simp only [Int.toNat_natCast]
   try dsimp +instances only [Int.toNat_natCast]
   have o:(0:Int)<=(i:Int)/\i<x.Frames.length:=⟨adC i,hi⟩
   simp only [o,and_self,true_and];intro _;simp only [Lt.k9,Lt.plus,hb,if_true] at h;have okf:=bG okF hi
   generalize x.Frames.getD i default=f at h okf ⊢;intro J2 hJ2;have hj2:J2 (if IntKind.i64.wrap (b+(f.Func.length:Int))<=most then IntKind.i64.wrap (IntKind.i64.wrap (b+(f.Func.length:Int))+(f.Block.length:Int)) else IntKind.i64.wrap (b+(f.Func.length:Int))):=by
    refine hJ2 _ ?_;refine dR f.Vars most (Lt.oW most) (fun _=>rfl) (fun x r b hb=>by simp [Lt.oW,hb]) (fun n=>KK (Lt.vE most x.Objs (Lt.k9 most (x.Frames.drop (i+1)) n))) _ _ (fun R2 b2 j hl2 hj hb2 ih2 h=>?_) (fun R2 b2 j h=>?_) _ (kk h (by grind))
    ·simp only [Int.toNat_natCast]
     try dsimp +instances only [Int.toNat_natCast]
     have o2:(0:Int)<=(j:Int)/\j<f.Vars.length:=⟨adC j,hj⟩
     simp only [o2,and_self,true_and]; (try simp only [al,au,aA,aQ,bL,jval,bor,band,bnand,bimp,and_self]);intro _;simp only [Lt.oW,Lt.plus,hb2,if_true] at h
     grind
    ·exact ih _ h
   grind
  ·refine dR x.Objs most (Lt.vE most) (fun _=>rfl) (fun x r b hb=>by simp [Lt.vE,hb]) KK _ _ (fun R b i hl hi hb ih h=>?_) (fun R b i h=>h) _ h;simp only [Int.toNat_natCast]
   try dsimp +instances only [Int.toNat_natCast]
   have o:(0:Int)<=(i:Int)/\i<x.Objs.length:=⟨adC i,hi⟩
   simp only [o,and_self,true_and]; (try simp only [al,au,aA,aQ,bL,jval,bor,band,bnand,bimp,and_self]);intro _;simp only [Lt.vE,Lt.plus,hb,if_true] at h
   grind
 unfold Lt.upto Lt.plus at hj
 grind
theorem Ai (b:Lt.Block) (most:Int) (hp:Lt.WP b most) (KK:Int->Prop) (h:KK (Lt.fB b most)):nk b most KK:=by
 obtain ⟨⟨okP,okC,okE⟩,hm⟩:=hp;unfold nk; dsimp only; (try simp only [al,au,aA,jval,bor,band,bnand,bimp,and_self]);unfold Lt.fB at h;intro _;refine ifk (fun hc=>kk h (by grind)) (fun hc _=>?_);rw [if_neg (by simpa only [agW] using hc)] at h;intro J hJ;have hj:J (Lt.upto most (Lt.plus 1 b.Name.length) (b.End.A.S.length:Int)):=by
  refine hJ _ ?_;refine dR b.End.To most (Lt.cTo most) (fun _=>rfl) (fun x r b hb=>by simp [Lt.cTo,hb]) (fun n=>KK (Lt.rQ most b.Code (Lt.ub most b.Phis n))) _ _ (fun R n i hl hi hb ih h=>?_) (fun R n i h=>?_) _ h
  ·simp only [Int.toNat_natCast]
   try dsimp +instances only [Int.toNat_natCast]
   refine ⟨⟨adC i,hi⟩,fun _=>?_⟩;simp only [Lt.cTo,Lt.plus,hb,if_true] at h;exact ih _ h
  ·refine dR b.Phis most (Lt.ub most) (fun _=>rfl) (fun x r b hb=>by simp [Lt.ub,hb]) (fun n=>KK (Lt.rQ most b.Code n)) _ _ (fun R n i hl hi hb ih h=>?_) (fun R n i h=>?_) _ h
   ·simp only [Int.toNat_natCast]
    try dsimp +instances only [Int.toNat_natCast]
    have o:(0:Int)<=(i:Int)/\i<b.Phis.length:=⟨adC i,hi⟩
    simp only [o,and_self,true_and];intro _;simp only [Lt.ub,Lt.plus,hb,if_true] at h;generalize b.Phis.getD i default=x at h ⊢;refine dR x.Ins most (Lt.LD most) (fun _=>rfl) (fun x r b hb=>by simp [Lt.LD,hb]) (fun n=>KK (Lt.rQ most b.Code (Lt.ub most (b.Phis.drop (i+1)) n))) _ _ (fun R2 b2 j hl2 hj hb2 ih2 h=>?_) (fun R2 b2 j h=>?_) _ h
    ·simp only [Int.toNat_natCast]
     try dsimp +instances only [Int.toNat_natCast]
     have o2:(0:Int)<=(j:Int)/\j<x.Ins.length:=⟨adC j,hj⟩
     simp only [o2,and_self,true_and]; (try simp only [al,au,aA,aQ,bL,jval,bor,band,bnand,bimp,and_self]);intro _;simp only [Lt.LD,Lt.plus,hb2,if_true] at h
     grind
    ·exact ih _ h
   ·refine dR b.Code most (Lt.rQ most) (fun _=>rfl) (fun x r b hb=>by simp [Lt.rQ,hb]) KK _ _ (fun R n i hl hi hb ih h=>?_) (fun R n i h=>h) _ h;simp only [Int.toNat_natCast]
    try dsimp +instances only [Int.toNat_natCast]
    refine ⟨⟨adC i,hi⟩,⟨bG okC hi,hm⟩,?_⟩;simp only [Lt.rQ,hb,if_true] at h;exact ih _ h
 unfold Lt.upto Lt.plus at hj
 grind
theorem KC (f:Lt.Func) (most:Int) (hp:Lt.Tz f most) (KK:Int->Prop) (h:KK (Lt.lx f most)):xe f most KK:=by
 obtain ⟨okB,hm⟩:=hp;unfold xe; dsimp only; (try simp only [al,au,aA,jval,bor,band,bnand,bimp,and_self]);unfold Lt.lx at h;intro _;refine ifk (fun hc=>kk h (by grind)) (fun hc _=>?_);rw [if_neg (by simpa using hc)] at h;intro J hJ;have hj:J (Lt.upto most (Lt.plus 1 f.Name.length) (f.Result.length:Int)):=by
  refine hJ _ ?_;refine dR f.Blocks most (Lt.ng most) (fun _=>rfl) (fun x r b hb=>by simp [Lt.ng,hb]) KK _ _ (fun R n i hl hi hb ih h=>?_) (fun R n i h=>h) _ (kk h (by unfold Lt.upto; grind));simp only [Int.toNat_natCast]
  try dsimp +instances only [Int.toNat_natCast]
  refine ⟨⟨adC i,hi⟩,⟨bG okB hi,hm⟩,?_⟩;simp only [Lt.ng,hb,if_true] at h;exact ih _ h
 unfold Lt.upto Lt.plus at hj
 grind
theorem Yw (p:Lt.Program) (most:Int) (hp:Lt.GB p most) (KK:Bool->Prop) (h:KK (Lt.Few p most)):WC p most KK:=by
 obtain ⟨okF,hm⟩:=hp;unfold WC; dsimp only; (try simp only [al,au,aA,aQ,bL,jval,bor,band,bnand,bimp,and_self]);unfold Lt.Few at h;intro _;refine ifk (fun hc=>kk h (by grind)) (fun hc=>?_);rw [if_neg (by simpa only [agW] using hc)] at h;refine dR p.Classes most (Lt.kw most) (fun _=>rfl) (fun x r b hb=>by simp [Lt.kw,hb]) (fun n=>KK (decide (Lt.og most p.Funcs (Lt.iY most p.Externs n)<=most))) _ _ (fun R n i hl hi hb ih h=>?_) (fun R n i h=>?_) _ h
 ·simp only [Int.toNat_natCast]
  try dsimp +instances only [Int.toNat_natCast]
  have o:(0:Int)<=(i:Int)/\i<p.Classes.length:=⟨adC i,hi⟩
  simp only [o,and_self,true_and];intro _;simp only [Lt.kw,Lt.plus,hb,if_true] at h
  grind
 ·refine dR p.Externs most (Lt.iY most) (fun _=>rfl) (fun x r b hb=>by simp [Lt.iY,hb]) (fun n=>KK (decide (Lt.og most p.Funcs n<=most))) _ _ (fun R n i hl hi hb ih h=>?_) (fun R n i h=>?_) _ h
  ·simp only [Int.toNat_natCast]
   try dsimp +instances only [Int.toNat_natCast]
   refine ⟨⟨adC i,hi⟩,fun _=>?_⟩;simp only [Lt.iY,Lt.plus,hb,if_true] at h;exact ih _ h
  ·refine dR p.Funcs most (Lt.og most) (fun _=>rfl) (fun x r b hb=>by simp [Lt.og,hb]) (fun n=>KK (decide (n<=most))) _ _ (fun R n i hl hi hb ih h=>?_) (fun R n i h=>h) _ h;simp only [Int.toNat_natCast]
   try dsimp +instances only [Int.toNat_natCast]
   refine ⟨⟨adC i,hi⟩,⟨bG okF hi,hm⟩,?_⟩;simp only [Lt.og,hb,if_true] at h;exact ih _ h
end Go.Am
end

section
namespace Go.Am
open Go
theorem ab2:Lt.aG (Lt.dl (Lt.Term.mk 3 (Lt.Arg.mk 2 [] 5) [] 0))=([102,117,110,99,32,102,32,105,110,116,10,98,108,111,99,107,32,98,10,114,101,116,32,53,10],0):=by
 have hr:Lt.bb (Lt.dl (Lt.Term.mk 3 (Lt.Arg.mk 2 [] 5) [] 0))=true:=by decide
 have h5:Lt.ak 5=[53]:=by
  unfold Lt.ak;rw [eC (by decide)];rfl
 have hw:Lt.ac (Lt.Arg.mk 2 [] 5)=[53]:=by
  have:Lt.aJ (Lt.Arg.mk 2 [] 5)=true:=by decide
  rw [Lt.ac,if_pos this,if_pos rfl];exact h5
 have hj:Lt.ay (Lt.di (Lt.dl (Lt.Term.mk 3 (Lt.Arg.mk 2 [] 5) [] 0)))=[102,117,110,99,32,102,32,105,110,116,10,98,108,111,99,107,32,98,10,114,101,116,32,53,10]:=by
  have he:Lt.dS (Lt.Term.mk 3 (Lt.Arg.mk 2 [] 5) [] 0)=[[114,101,116],[53]]:=by
   rw [Lt.dS,if_neg (by decide),if_neg (by decide),if_pos rfl,hw]
  simp only [Lt.di,Lt.dl,Lt.cK,Lt.bB,Lt.dA,he,List.map_nil,afX,adS,aeO,ad6,aeM,List.map_cons];decide
 rw [Lt.aG,if_pos hr,hj];rfl
theorem acN:Lt.aG (Lt.dl (Lt.Term.mk 0 (Lt.Arg.mk 0 [] 0) [] 0))=([],1):=by
 have hr:Lt.bb (Lt.dl (Lt.Term.mk 0 (Lt.Arg.mk 0 [] 0) [] 0))=false:=by decide
 rw [Lt.aG,hr];rfl
theorem Bq {t:Lt.Term} (h:t.ok):(Lt.dl t).ok:=by
 intro f hf;simp only [Lt.dl,adM] at hf;subst hf;intro b hb;simp only [adM] at hb;subst hb;exact ⟨by simp,by simp,h⟩
theorem S0 (KK:Bool->Prop) (h:KK Lt.awake):FR KK:=by
 unfold FR; (try simp only [al,au,aA,jval,bor,band,bnand,bimp,and_self]);rw [ab2,acN];exact ⟨Bq ⟨⟨by decide,by decide⟩,by decide,by decide⟩,Bq ⟨⟨by decide,by decide⟩,by decide,by decide⟩,h⟩
end Go.Am
end

section
namespace Go.Am
open Go
end Go.Am
end

section
namespace Go.Am
open Go
theorem sW {α β:Type} (f:β->α->β) (b:β) (l:List α) (x:α):(l++[x]).foldl f b=f (l.foldl f b) x:=by simp
theorem BF (n:Int):Lt.inR (Lt.PE n):=by
 have:=wf_wrap (k:=.i64) n
 simp only [Lit.wf,ac9,decide_eq_true_eq] at this;have h1:IntKind.i64.min=-9223372036854775808:=by decide
 have h2:IntKind.i64.max=9223372036854775807:=by decide
 rw [h1,h2] at this;unfold Lt.inR Lt.PE;omega
end Go.Am
end

section
namespace Go.Am
open Go
end Go.Am
end

section
namespace Go.Am
open Go
end Go.Am
end

section
namespace Go.Am
open Go
theorem NN {l:List (List UInt8)} (h:Lt.fv l=true):l.length=3:=by
 unfold Lt.fv at h;simp only [ac9,decide_eq_true_eq] at h;exact h.1
theorem iT {l:List Lt.Var} {k:Nat} (h:Lt.typed l k=true):l.length<=k:=by
 unfold Lt.typed at h;simp only [ac9,decide_eq_true_eq] at h;omega
theorem G8 {n c:Nat} (h:n<=5000) (hc:c<=200):(n+1<=4611686018427387904/\(n+1)*c<=140737488355328)=True:=by
 have:(n+1)*c<=5001*200:=Nat.mul_le_mul (by omega) hc
 simp; omega
theorem bZ {α:Type} {l:List α} (h:l≠[]) (h8:l.length<=5000):IntKind.i64.wrap ((l.length:Int) - 1)=((l.length - 1:Nat):Int):=by
 have:0<l.length:=aeY.2 h
 rw [dq (by omega) (by omega)]; omega
theorem dP {α:Type} {l:List α} (h:l≠[]):(l.length - 1<l.length)=True:=by
 have:0<l.length:=aeY.2 h
 simp; omega
theorem dQ {α:Type} {l:List α} (h:l≠[]):((0:Int)<=((l.length - 1:Nat):Int)/\((l.length - 1:Nat):Int) < (l.length:Int))=True:=by
 have:0<l.length:=aeY.2 h
 simp; omega
end Go.Am
end

section
namespace Go.Am
open Go
theorem fb {α:Type} [Inhabited α] (l:List α) (x:α):(l++[x]).getD ((l++[x]).length - 1) default=x:=by
 have:(l++[x]).length - 1=l.length:=by simp
 rw [this,List.getD,ae9 (adH _)]; simp
theorem WL {α:Type} (l:List α) (x y:α):(l++[x]).set ((l++[x]).length - 1) y=l++[y]:=by
 have:(l++[x]).length - 1=l.length:=by simp
 rw [this,List.set_append_right _ _ (adH _)]; simp
theorem Ik {α:Type} (l:List α) (x:α):l++[x]≠[]:=by simp
theorem V4:∀ (l:List Lt.Block) (b:Lt.Block),b∈l->b.Phis.length+b.Code.length<=(l.map fun b=>b.Phis.length+b.Code.length).sum
 | [],_,h=>by simp at h
 | a::r,b,h=>by
  rcases adK.1 h with rfl | h
  ·simp
  ·have:=V4 r b h
   simp only [List.map_cons,ae4]; omega
theorem iH {r:Lt.Read} (h:Lt.Inv r) (hw:3<=r.Where):r.P.Funcs≠[]/\Lt.pd r.curF r.Where r.Long/\r.curF.Params.length<=6/\r.curF.Vars.length<=1024/\r.curF.Blocks.length<=256:=by
 obtain ⟨_,_,_,_,_,h3⟩:=h;obtain ⟨fs,f,hf,_,hp⟩:=h3 hw;have e:r.curF=f:=by unfold Lt.Read.curF; rw [hf]; exact fb fs f
 rw [e];exact ⟨by rw [hf]; exact Ik _ _,hp,iT (k:=6) hp.1.2.2.1,iT (k:=1024) hp.1.2.2.2,hp.2.1.1⟩
theorem mj {r:Lt.Read} (h:Lt.Inv r) (hw:5<=r.Where):r.curF.Blocks≠[]/\r.curB.Phis.length<=1024/\r.curB.Code.length<=1024/\r.curB.Code.all Lt.instr=true:=by
 obtain ⟨_,hp,_⟩:=iH h (by omega);obtain ⟨_,⟨_,h0,hn⟩,_,hb⟩:=hp;obtain ⟨bs,b,hb,_,hs,hb2,_⟩:=hb hw;have e:r.curB=b:=by unfold Lt.Read.curB; rw [hb]; exact fb bs b
 have:=V4 r.curF.Blocks b (by rw [hb]; simp)
 rw [e];exact ⟨by rw [hb]; exact Ik _ _,by omega,by omega,hb2.2.2⟩
theorem EA {r:Lt.Read} (h:Lt.Inv r) (hw:6<=r.Where) (hw8:r.Where<=8):r.curB.Code≠[]/\r.curI.Frames.length<=16/\r.curI.Objs.length<=99:=by
 obtain ⟨_,hp,_⟩:=iH h (by omega);obtain ⟨_,⟨_,h0,hn⟩,_,hb⟩:=hp;obtain ⟨bs,b,hb,_,hs,hb2,_,hc⟩:=hb (by omega);obtain ⟨cs,c,hc,_⟩:=hc hw hw8;have e:r.curB=b:=by unfold Lt.Read.curB; rw [hb]; exact fb bs b
 have e2:r.curI=c:=by unfold Lt.Read.curI; rw [e,hc]; exact fb cs c
 have hi:Lt.instr c=true:=adI.1 hb2.2.2 c (by rw [hc]; simp)
 unfold Lt.instr at hi;simp only [ac9,decide_eq_true_eq] at hi;rw [e,e2];exact ⟨by rw [hc]; exact Ik _ _,hi.1.2.1.2,hi.1.2.2⟩
theorem xw (objs:Bool):∀ (l:List (List UInt8)) (x:List Lt.Bind),Lt.bw objs l=some x->l.length=2*x.length
 | [],x,h=>by simp [Lt.bw] at h; subst h; rfl
 | [_],x,h=>by simp [Lt.bw] at h
 | a::b::r,x,h=>by
  rw [Lt.bw] at h;split at h
  ·cases hr:Lt.bw objs r with
   | none=>simp [hr] at h
   | some y=>
    have:=xw objs r y hr
    simp [hr] at h;subst h;simp only [adF]; omega
  ·simp at h
theorem ka {l:List (List UInt8)} {f:Int} {objs:Bool} (h:(Lt.aH l f objs).2=true) (h0:0<=f):(l.length:Int)=f+2*((Lt.aH l f objs).1.length:Int):=by
 unfold Lt.aH at h ⊢;split at h
 ·simp at h
 ·rename_i hlt;rw [if_neg hlt];split at h
  ·rename_i x hx;have:=xw _ _ _ hx
   rw [adT] at this;simp only; omega
  ·simp at h
end Go.Am
end

section
namespace Go.Am
open Go
end Go.Am
end

section
namespace Go.Am
open Go
def LP (r:Lt.Read) (dst:List UInt8) (l:List (List UInt8)):Int×Lt.Read:=
 if r.ins=false then (3,r)
 else match Lt.ej dst l with
 | none=>(3,r)
 | some x=>if 1024<=r.Long then (2,r) else (0,{ r.block (fun b=>{ b with Code:=b.Code++[x] }) with Where:=if x.Op=31\/x.Op=34 then 7 else 6,Long:=r.Long+1 })
end Go.Am
end

section
namespace Go.Am
open Go
end Go.Am
end

section
namespace Go.Am
open Go
end Go.Am
end
