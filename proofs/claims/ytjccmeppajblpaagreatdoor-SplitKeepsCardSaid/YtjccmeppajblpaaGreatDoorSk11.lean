/-
  Part 11: AmLay · AmNiceM · AmLoopE · AmNice17 · AmNice18 · AmG18.
-/
import Derived.Test.YtjccmeppajblpaaGreatDoorSk10
import Derived.Shelf.Small.Strs
import Derived.Shelf.Small.Wraps
import Derived.Shelf.Strings.Cut
import Derived.Shelf.Strings.Split
import Derived.Test.YtjccmeppajblpaaGreatDoorProg
set_option linter.unusedSimpArgs false
set_option linter.unusedVariables false
set_option linter.unusedSectionVars false
set_option linter.unnecessarySimpa false
section
namespace Go.Proofs
open Go.Shelf
def Tryz.lays137_ren:Go.Shelf.Ren:=⟨fun | 137=>129 | 217=>115 | 266=>124 | n=>n,fun | 9=>9 | 5=>5 | 3=>3 | n=>n,fun | n=>n⟩
theorem Tryz.lays137:Go.Proofs.Lays.n137 Tryz.prog Tryz.lays137_ren:={
 mixed:=by kernel_rfl
 f137:=Tryz.func129.trans (congrArg some (by kernel_rfl))
 f217:=Tryz.func115.trans (congrArg some (by kernel_rfl))
 f266:=Tryz.func124.trans (congrArg some (by kernel_rfl))
 t3:=Tryz.underlying3
 a3:=Tryz.isAgg3
 z3:=Tryz.sizeOf3
 v3:=Tryz.zeroValue3
 t5:=Tryz.underlying5
 a5:=Tryz.isAgg5
 z5:=Tryz.sizeOf5
 v5:=Tryz.zeroValue5
 t9:=Tryz.underlying9
 a9:=Tryz.isAgg9
 z9:=Tryz.sizeOf9
 v9:=Tryz.zeroValue9 }
open Go.RowKit in
theorem Tryz.strings_IndexByte (s:ByteArray) (c:Int) (w:World) :
  Calls Tryz.prog 129 #[.string s,.int .u8 c] w fun e w'=>e=.returned (.int .i64 (Lib.indexByte s.data.toList c.toNat.toUInt8))/\w'=w:=Any.strings_IndexByte Tryz.lays137 s c w
def Tryz.lays103_ren:Go.Shelf.Ren:=⟨fun | 103=>128 | 210=>131 | 206=>132 | n=>n,fun | 9=>9 | 4=>4 | 24=>198 | 3=>3 | n=>n,fun | n=>n⟩
theorem Tryz.lays103:Go.Proofs.Lays.n103 Tryz.prog Tryz.lays103_ren:={
 mixed:=by kernel_rfl
 f103:=Tryz.func128.trans (congrArg some (by kernel_rfl))
 f206:=Tryz.func132.trans (congrArg some (by kernel_rfl))
 f210:=Tryz.func131.trans (congrArg some (by kernel_rfl))
 t3:=Tryz.underlying3
 a3:=Tryz.isAgg3
 z3:=Tryz.sizeOf3
 v3:=Tryz.zeroValue3
 t4:=Tryz.underlying4
 a4:=Tryz.isAgg4
 z4:=Tryz.sizeOf4
 v4:=Tryz.zeroValue4
 t9:=Tryz.underlying9
 a9:=Tryz.isAgg9
 z9:=Tryz.sizeOf9
 v9:=Tryz.zeroValue9
 t24:=Tryz.underlying198
 a24:=Tryz.isAgg198
 z24:=Tryz.sizeOf198
 v24:=Tryz.zeroValue198 }
open Go.RowKit in
theorem Tryz.strings_CutPrefix (s p:ByteArray) (w:World) :
  Calls Tryz.prog 128 #[.string s,.string p] w fun e w'=>e=.returned (.tuple #[.string ⟨(Lib.trimPrefix s.data.toList p.data.toList).toArray⟩,.bool (Lib.hasPrefix s.data.toList p.data.toList)])/\w'=w:=Any.strings_CutPrefix Tryz.lays103 s p w
def Tryz.lays145_ren:Go.Shelf.Ren:=⟨fun | 145=>59 | 220=>73 | 219=>101 | 217=>115 | 225=>116 | 224=>117 | 267=>118 | 266=>124 | 314=>125 | n=>n,fun | 9=>9 | 4=>4 | 59=>139 | 3=>3 | 5=>5 | 46=>188 | 146=>192 | 51=>191 | n=>n,fun | 1=>1 | n=>n⟩
theorem Tryz.lays145:Go.Proofs.Lays.n145 Tryz.prog Tryz.lays145_ren:={
 mixed:=by kernel_rfl
 f145:=Tryz.func59.trans (congrArg some (by kernel_rfl))
 f217:=Tryz.func115.trans (congrArg some (by kernel_rfl))
 f219:=Tryz.func101.trans (congrArg some (by kernel_rfl))
 f220:=Tryz.func73.trans (congrArg some (by kernel_rfl))
 f224:=Tryz.func117.trans (congrArg some (by kernel_rfl))
 f225:=Tryz.func116.trans (congrArg some (by kernel_rfl))
 f266:=Tryz.func124.trans (congrArg some (by kernel_rfl))
 f267:=Tryz.func118.trans (congrArg some (by kernel_rfl))
 f314:=Tryz.func125.trans (congrArg some (by kernel_rfl))
 t3:=Tryz.underlying3
 a3:=Tryz.isAgg3
 z3:=Tryz.sizeOf3
 v3:=Tryz.zeroValue3
 t4:=Tryz.underlying4
 a4:=Tryz.isAgg4
 z4:=Tryz.sizeOf4
 v4:=Tryz.zeroValue4
 t5:=Tryz.underlying5
 a5:=Tryz.isAgg5
 z5:=Tryz.sizeOf5
 v5:=Tryz.zeroValue5
 t9:=Tryz.underlying9
 a9:=Tryz.isAgg9
 z9:=Tryz.sizeOf9
 v9:=Tryz.zeroValue9
 t46:=Tryz.underlying188
 a46:=Tryz.isAgg188
 z46:=Tryz.sizeOf188
 v46:=Tryz.zeroValue188
 t51:=Tryz.underlying191
 a51:=Tryz.isAgg191
 z51:=Tryz.sizeOf191
 v51:=Tryz.zeroValue191
 t59:=Tryz.underlying139
 a59:=Tryz.isAgg139
 z59:=Tryz.sizeOf139
 v59:=Tryz.zeroValue139
 t146:=Tryz.underlying192
 a146:=Tryz.isAgg192
 z146:=Tryz.sizeOf192
 v146:=Tryz.zeroValue192
 g1:=by kernel_rfl }
open Go.RowKit Go.Lib in
theorem Tryz.strings_Cut (s sep:ByteArray) (m:Int) (w:World) (hs:s.size < 4294967281) (hm:w.cell? ⟨1,0,none⟩=some (.int .i64 m)) :
  Calls Tryz.prog 59 #[.string s,.string sep] w fun e w'=>e=.returned (.tuple #[.string ⟨(Lib.cut s.data.toList sep.data.toList).1.toArray⟩,.string ⟨(Lib.cut s.data.toList sep.data.toList).2.1.toArray⟩,.bool (Lib.cut s.data.toList sep.data.toList).2.2])/\∃ n,w'=w.drewN n:=Any.strings_Cut Tryz.lays145 s sep m w hs hm
def Tryz.lays146_ren:Go.Shelf.Ren:=⟨fun | 146=>58 | 221=>72 | 268=>98 | 138=>99 | 143=>100 | 195=>112 | 197=>113 | 218=>114 | 219=>101 | 260=>123 | 217=>115 | 225=>116 | 224=>117 | 267=>118 | 266=>124 | 314=>125 | n=>n,fun | 9=>9 | 31=>39 | 3=>3 | 4=>4 | 0=>0 | 105=>184 | 21=>21 | 5=>5 | 46=>188 | 119=>194 | 139=>197 | 138=>196 | 146=>192 | 51=>191 | n=>n,fun | 1=>1 | 3=>2 | 4=>3 | n=>n⟩
theorem Tryz.lays146:Go.Proofs.Lays.n146 Tryz.prog Tryz.lays146_ren:={
 mixed:=by kernel_rfl
 f138:=Tryz.func99.trans (congrArg some (by kernel_rfl))
 f143:=Tryz.func100.trans (congrArg some (by kernel_rfl))
 f146:=Tryz.func58.trans (congrArg some (by kernel_rfl))
 f195:=Tryz.func112.trans (congrArg some (by kernel_rfl))
 f197:=Tryz.func113.trans (congrArg some (by kernel_rfl))
 f217:=Tryz.func115.trans (congrArg some (by kernel_rfl))
 f218:=Tryz.func114.trans (congrArg some (by kernel_rfl))
 f219:=Tryz.func101.trans (congrArg some (by kernel_rfl))
 f221:=Tryz.func72.trans (congrArg some (by kernel_rfl))
 f224:=Tryz.func117.trans (congrArg some (by kernel_rfl))
 f225:=Tryz.func116.trans (congrArg some (by kernel_rfl))
 f260:=Tryz.func123.trans (congrArg some (by kernel_rfl))
 f266:=Tryz.func124.trans (congrArg some (by kernel_rfl))
 f267:=Tryz.func118.trans (congrArg some (by kernel_rfl))
 f268:=Tryz.func98.trans (congrArg some (by kernel_rfl))
 f314:=Tryz.func125.trans (congrArg some (by kernel_rfl))
 t0:=Tryz.underlying0
 a0:=Tryz.isAgg0
 z0:=Tryz.sizeOf0
 v0:=Tryz.zeroValue0
 t3:=Tryz.underlying3
 a3:=Tryz.isAgg3
 z3:=Tryz.sizeOf3
 v3:=Tryz.zeroValue3
 t4:=Tryz.underlying4
 a4:=Tryz.isAgg4
 z4:=Tryz.sizeOf4
 v4:=Tryz.zeroValue4
 t5:=Tryz.underlying5
 a5:=Tryz.isAgg5
 z5:=Tryz.sizeOf5
 v5:=Tryz.zeroValue5
 t9:=Tryz.underlying9
 a9:=Tryz.isAgg9
 z9:=Tryz.sizeOf9
 v9:=Tryz.zeroValue9
 t21:=Tryz.underlying21
 a21:=Tryz.isAgg21
 z21:=Tryz.sizeOf21
 v21:=Tryz.zeroValue21
 t31:=Tryz.underlying39
 a31:=Tryz.isAgg39
 z31:=Tryz.sizeOf39
 v31:=Tryz.zeroValue39
 t46:=Tryz.underlying188
 a46:=Tryz.isAgg188
 z46:=Tryz.sizeOf188
 v46:=Tryz.zeroValue188
 t51:=Tryz.underlying191
 a51:=Tryz.isAgg191
 z51:=Tryz.sizeOf191
 v51:=Tryz.zeroValue191
 t105:=Tryz.underlying184
 a105:=Tryz.isAgg184
 z105:=Tryz.sizeOf184
 v105:=Tryz.zeroValue184
 t119:=Tryz.underlying194
 a119:=Tryz.isAgg194
 z119:=Tryz.sizeOf194
 t138:=Tryz.underlying196
 a138:=Tryz.isAgg196
 z138:=Tryz.sizeOf196
 v138:=Tryz.zeroValue196
 t139:=Tryz.underlying197
 a139:=Tryz.isAgg197
 z139:=Tryz.sizeOf197
 v139:=Tryz.zeroValue197
 t146:=Tryz.underlying192
 a146:=Tryz.isAgg192
 z146:=Tryz.sizeOf192
 v146:=Tryz.zeroValue192
 g1:=by kernel_rfl
 g3:=by kernel_rfl
 g4:=by kernel_rfl }
open Go.RowKit Go.Lib in
theorem Tryz.strings_Split (s sep:ByteArray) (m:Int) (w:World) (hs:s.size < 4294967281) (hm:w.cell? ⟨1,0,none⟩=some (.int .i64 m)) (h1:1<=sep.size) :
  Calls Tryz.prog 58 #[.string s,.string sep] w fun e w'=>
   e=.returned (.slice (some ⟨w.heap.size,0,none⟩) (Lib.countB s sep+1) (Lib.countB s sep+1))/\w'=w.alloc (.cells ((Lib.splitB sep 0 (Lib.countB s sep) s).map Value.string).toArray 9):=Any.strings_Split Tryz.lays146 (by kernel_rfl) s sep m w hs hm h1
end Go.Proofs
end

section
namespace Lt
open Go
def jw:Bool->List (List UInt8)->List UInt8
 | _,[]=>[]
 | b,w::r=>(if b then [32] else [])++w++jw true r
def digs (n:Nat):List UInt8:=if n < 10 then [UInt8.ofNat (48+n)] else digs (n / 10)++[UInt8.ofNat (48+n % 10)]
def numDigit (n:Int):Int:=IntKind.u8.wrap (IntKind.i64.wrap (48+(if n < 0 then IntKind.i64.wrap (0-n) else n)))
def numPut (n:Int):List UInt8:=(if n < 0 then [45] else [])++digs n.natAbs
abbrev plus (n:Int) (k:Nat):Int:=IntKind.i64.wrap (n+(k:Int))
def upto (most n k:Int):Int:=if n<=most then IntKind.i64.wrap (n+k) else n
def cVars (most:Int):List Var->Int->Int
 | [],n=>n
 | v::r,n=>if n<=most then (let m:=plus n v.Name.length; cVars most r (if m<=most then plus m v.Type_.length else m)) else n
def countVars (l:List Var) (most:Int):Int:=if most < (l.length:Int) then IntKind.i64.wrap (most+1) else cVars most l (l.length:Int)
def cArgs (most:Int):List Arg->Int->Int
 | [],n=>n
 | a::r,n=>if n<=most then cArgs most r (plus n a.S.length) else n
def countArgs (l:List Arg) (most:Int):Int:=if most < (l.length:Int) then IntKind.i64.wrap (most+1) else cArgs most l (l.length:Int)
def cBinds (most:Int):List Bind->Int->Int
 | [],n=>n
 | b::r,n=>if n<=most then (let m:=plus (IntKind.i64.wrap (n+1)) b.Name.length; cBinds most r (if m<=most then plus m b.A.S.length else m)) else n
def cFrames (most:Int):List Frame->Int->Int
 | [],n=>n
 | f::r,n=>if n<=most then (let m:=plus n f.Func.length; cFrames most r (cBinds most f.Vars (if m<=most then plus m f.Block.length else m))) else n
def cObjs (most:Int):List Virt->Int->Int
 | [],n=>n
 | o::r,n=>if n<=most then (let m:=plus n o.Class.length; cObjs most r (if m<=most then IntKind.i64.wrap (m+countArgs o.Vals most) else m)) else n
def countInstr (x:Instr) (most:Int):Int:=
 if (decide (most < (x.Frames.length:Int)))||(decide (most < (x.Objs.length:Int))) then IntKind.i64.wrap (most+1)
 else
  cObjs most x.Objs (cFrames most x.Frames (upto most (upto most (plus (plus (plus 1 x.Dst.length) x.Frames.length) x.Objs.length) (x.Name.length:Int)) (countArgs x.Args most)))
def cTo (most:Int):List (List UInt8)->Int->Int
 | [],n=>n
 | t::r,n=>if n<=most then cTo most r (plus (IntKind.i64.wrap (n+1)) t.length) else n
def cIns (most:Int):List In->Int->Int
 | [],n=>n
 | b::r,n=>if n<=most then (let m:=plus (IntKind.i64.wrap (n+1)) b.Block.length; cIns most r (if m<=most then plus m b.A.S.length else m)) else n
def cPhis (most:Int):List Phi->Int->Int
 | [],n=>n
 | x::r,n=>if n<=most then cPhis most r (cIns most x.Ins (plus (IntKind.i64.wrap (n+1)) x.Dst.length)) else n
def cCode (most:Int):List Instr->Int->Int
 | [],n=>n
 | x::r,n=>if n<=most then cCode most r (IntKind.i64.wrap (n+countInstr x most)) else n
def countBlock (b:Block) (most:Int):Int:=
 if (decide (most < (b.Phis.length:Int)))||(decide (most < (b.Code.length:Int)))||(decide (most < (b.End.To.length:Int))) then IntKind.i64.wrap (most+1)
 else
  cCode most b.Code (cPhis most b.Phis (cTo most b.End.To (upto most (plus 1 b.Name.length) (b.End.A.S.length:Int))))
def cBlocks (most:Int):List Block->Int->Int
 | [],n=>n
 | x::r,n=>if n<=most then cBlocks most r (IntKind.i64.wrap (n+countBlock x most)) else n
def FewFunc (f:Func) (most:Int):Int:=
 if most < (f.Blocks.length:Int) then IntKind.i64.wrap (most+1)
 else
  cBlocks most f.Blocks (upto most (upto most (upto most (plus 1 f.Name.length) (f.Result.length:Int)) (countVars f.Params most)) (countVars f.Vars most))
def inR (n:Int):Prop:=-9223372036854775808<=n/\n < 9223372036854775808
def Arg.ok (a:Arg):Prop:=inR a.N
def argsOk (l:List Arg):Prop:=∀ a∈l,a.ok
def Bind.ok (b:Bind):Prop:=b.A.ok
def Frame.ok (f:Frame):Prop:=f.Vars.length<=4611686018427387904/\∀ b∈f.Vars,b.ok
def Virt.ok (o:Virt):Prop:=argsOk o.Vals
def Instr.ok (i:Instr):Prop:=argsOk i.Args/\(∀ f∈i.Frames,f.ok)/\(∀ o∈i.Objs,o.ok)
def In.ok (i:In):Prop:=i.A.ok
def Phi.ok (x:Phi):Prop:=x.Ins.length<=4611686018427387904/\∀ i∈x.Ins,i.ok
def Term.ok (t:Term):Prop:=t.A.ok/\inR t.N
def Block.ok (b:Block):Prop:=(∀ x∈b.Phis,x.ok)/\(∀ i∈b.Code,i.ok)/\b.End.ok
def Func.ok (f:Func):Prop:=∀ b∈f.Blocks,b.ok
def Program.ok (p:Program):Prop:=∀ f∈p.Funcs,f.ok
def room:Nat:=1099511627776
def preNum (n:Int):Prop:=inR n
def prePut (a:Arg):Prop:=a.ok
def preCI (x:Instr) (most:Int):Prop:=x.ok/\most<=4611686018427387904
def preCB (b:Block) (most:Int):Prop:=b.ok/\most<=4611686018427387904
def preFF (f:Func) (most:Int):Prop:=f.ok/\most<=4611686018427387904
def rSize (n:Int):Int:=if n < 0 then IntKind.u64.wrap (0 - (IntKind.u64.wrap n)) else IntKind.u64.wrap n
def rNum (n:Int):List UInt8:=numPut n
def rIsNan (n:Int):Bool:=decide (9218868437227405312 < (Int.tmod (IntKind.u64.wrap n) 9223372036854775808))
def rPlain (n:Int):Int:=if rIsNan n=true then 9221120237041090560 else n
def hexB (x:Int):UInt8:=UInt8.ofNat (IntKind.u8.wrap ((IntKind.u8.wrap (Int.tmod x 16))+(if IntKind.u8.wrap (Int.tmod x 16) < 10 then 48 else 87))).toNat
def hexR:Nat->Int->List UInt8->List UInt8
 | 0,_,l=>l
 | k+1,x,l=>hexR k (IntKind.u64.wrap (Int.tdiv x 16)) (hexB x::l)
def rFlo (n:Int):List UInt8:=[48,102]++hexR 16 (IntKind.u64.wrap (rPlain n)) []
def rNameB (i:Nat) (c:UInt8):Bool:=
 !((((!(((decide (48<=((c.toNat:Nat):Int)))&&(decide (((c.toNat:Nat):Int)<=57)))&&(decide (0 < (i:Int)))))&&(!decide (((c.toNat:Nat):Int)=95)))&&((decide (((c.toNat:Nat):Int) < 65))||(decide (90 < ((c.toNat:Nat):Int)))))&&((decide (((c.toNat:Nat):Int) < 97))||(decide (122 < ((c.toNat:Nat):Int)))))
def rName (s:List UInt8):Bool:=((List.range s.length).all fun i=>rNameB i (s.getD i 0)) &&
 (((((decide (1<=(s.length:Int)))&&(decide ((s.length:Int)<=16)))&&(!decide (s=[110,117,108,108])))&&(!decide (s=[105,110,116])))&&(!decide (s=[102,108,111,97,116])))
def rRight (a:Arg):Bool:=
 if a.Kind=1 then rName a.S&&decide (a.N=0)
 else if (((decide (a.Kind < 1))||(decide (5<a.Kind)))||(!decide (a.S=[])))=true then false
 else (((decide (a.Kind=2))||((decide (a.Kind=3))&&(decide ((rPlain a.N)=a.N))))||((decide (a.Kind=4))&&(decide (a.N=0))))||(((decide (a.Kind=5))&&(decide (0<=a.N)))&&(decide (a.N<=999)))
def rWord (a:Arg):List UInt8:=
 if rRight a then
  if a.Kind=1 then a.S else if a.Kind=2 then rNum a.N else if a.Kind=3 then rFlo a.N else if a.Kind=4 then [110,117,108,108] else 35::rNum a.N
 else []
def rOf (op:Int):RForm×Bool:=
 if op < 1\/34<op then (⟨[],false,false,0,0⟩,false)
 else (⟨Go.Am.gw.getD op.toNat default,(((!decide (op=27))&&(!decide (op=30)))&&(!decide (op=33)))&&(!decide (op=34)),(((decide (op=25))||(decide (op=26)))||(decide (op=27)))||((decide (29<=op))&&(decide (op<=32))),
  if op=22\/op=23\/op=24\/op=26\/op=30\/op=33 then 1 else if op=25\/op=31\/op=32\/op=29\/op=34 then 0 else 2,
  if op=22\/op=23\/op=24\/op=26\/op=30\/op=33 then 1 else if op=25\/op=31\/op=32 then 8 else if op=29\/op=34 then 0 else 2⟩,true)
def lnT (w:List (List UInt8)):List UInt8:=jw false w++[10]
def rPut (out:List UInt8) (l:List (List UInt8)):List UInt8:=out++lnT l
def rVars (out first:List UInt8) (l:List Var):List UInt8:=out++l.flatMap fun v=>lnT [first,v.Name,v.Type_]
def rArgs (l:List (List UInt8)) (a:List Arg):List (List UInt8):=l++a.map rWord
def rHead (x:Instr):List (List UInt8):=(if (rOf x.Op).1.Dst then [x.Dst,[61]] else [])++[(rOf x.Op).1.Word]
def rWords (x:Instr):List (List UInt8):=
 if (x.Op=26\/x.Op=27)/\x.Args≠[] then rHead x++(x.Args.take 1).map rWord++[x.Name]++(x.Args.drop 1).map rWord
 else rHead x++(if (rOf x.Op).1.Named then [x.Name] else [])++x.Args.map rWord
def rFrameW (f:Frame):List (List UInt8):=[[97,116],f.Func,f.Block,rNum f.At]++f.Vars.flatMap fun b=>[b.Name,rWord b.A]
def rVirtW (o:Virt):List (List UInt8):=[[111,98,106],o.Class]++o.Vals.map rWord
def rCodeT (x:Instr):List UInt8:=lnT (rWords x)++(x.Frames.flatMap fun f=>lnT (rFrameW f))++(x.Objs.flatMap fun o=>lnT (rVirtW o))
def rCode (out:List UInt8) (x:Instr):List UInt8:=out++rCodeT x
def rEndW (t:Term):List (List UInt8):=
 [([[],[106,117,109,112],[98,114,97,110,99,104],[114,101,116],[116,114,97,112]]:List (List UInt8)).getD t.Kind.toNat default]++(if t.Kind=2\/t.Kind=3 then [rWord t.A] else [])++t.To++(if t.Kind=4 then [rNum t.N] else [])
def rEndT (t:Term):List UInt8:=if t.Kind < 1\/4<t.Kind then [] else lnT (rEndW t)
def rEnds (out:List UInt8) (t:Term):List UInt8:=out++rEndT t
def rPhiW (x:Phi):List (List UInt8):=[[112,104,105],x.Dst]++x.Ins.flatMap fun i=>[i.Block,rWord i.A]
def rBlockT (b:Block):List UInt8:=lnT [[98,108,111,99,107],b.Name]++(b.Phis.flatMap fun x=>lnT (rPhiW x))++b.Code.flatMap rCodeT++rEndT b.End
def rVarsT (first:List UInt8) (l:List Var):List UInt8:=l.flatMap fun v=>lnT [first,v.Name,v.Type_]
def rFuncT (f:Func):List UInt8:=lnT [[102,117,110,99],f.Name,f.Result]++rVarsT [112,97,114,97,109] f.Params++rVarsT [118,97,114] f.Vars++f.Blocks.flatMap rBlockT
def rClassT (c:Class):List UInt8:=lnT [[99,108,97,115,115],c.Name]++rVarsT [102,105,101,108,100] c.Fields
def rExternT (x:Extern):List UInt8:=lnT [[101,120,116,101,114,110],x.Name,rNum x.N]
def rLines (p:Program):List UInt8:=(if p.SSA=true then lnT [[115,115,97]] else [])++p.Classes.flatMap rClassT++rVarsT [103,108,111,98,97,108] p.Globals++p.Externs.flatMap rExternT++p.Funcs.flatMap rFuncT
def preRPut (out:List UInt8) (l:List (List UInt8)):Prop:=out.length+(lnT l).length<=room
def preRVars (out first:List UInt8) (l:List Var):Prop:=out.length+(rVarsT first l).length<=room
def preRArgs (l:List (List UInt8)) (a:List Arg):Prop:=argsOk a/\l.length+a.length<=room+room
def preRCode (out:List UInt8) (x:Instr):Prop:=x.ok/\(∀ f∈x.Frames,inR f.At)/\out.length+(rCodeT x).length<=room
def preREnds (out:List UInt8) (t:Term):Prop:=t.ok/\out.length+(rEndT t).length<=room
def preRLines (p:Program):Prop:=p.ok/\(∀ e∈p.Externs,inR e.N)/\(∀ f∈p.Funcs,∀ b∈f.Blocks,∀ i∈b.Code,∀ r∈i.Frames,inR r.At)/\(rLines p).length<=room
def gIndex (s:List UInt8) (c:UInt8):Int:=Go.Lib.indexByte s c
def gCutP (s p:List UInt8):List UInt8×Bool:=(Go.Lib.trimPrefix s p,Go.Lib.hasPrefix s p)
def gCut (s p:List UInt8):List UInt8×List UInt8×Bool:=Go.Lib.cut s p
def gSplit (s p:List UInt8):List (List UInt8):=(Go.Lib.splitB ⟨p.toArray⟩ 0 (Go.Lib.countB ⟨s.toArray⟩ ⟨p.toArray⟩) ⟨s.toArray⟩).map (·.data.toList)
def preCut (s p:List UInt8):Prop:=s.length < 4294967281
def preSplit (s p:List UInt8):Prop:=s.length < 4294967281/\1<=p.length
def flt (n:Int):Value:=.iface 101 (.agg #[.int .i64 n])
end Lt
end

section
namespace Go.Am
open Go
def LEN:Nat:=4611686018427387904
theorem ob {i n:Nat} (h:i<n):(0:Int)<=(i:Int)/\(i:Int).toNat<n:=by
 rw [Int.toNat_natCast]; exact ⟨Int.natCast_nonneg i,h⟩
theorem lt_t {i n:Nat} (h:i<n):decide ((i:Int) < (n:Int))=true:=by simpa using h
theorem lt_f {n:Nat}:decide ((n:Int) < (n:Int))=false:=by simp
section
variable {α:Type}
theorem jn_app (x:α) (B:α->Prop):joinP (fun J=>J x) B=B x:=
 propext ⟨fun h=>h B (fun _ h=>h),fun h J hJ=>hJ x h⟩
theorem jn_ite (c:Prop) [Decidable c] (A A':(α->Prop)->Prop) (B:α->Prop):joinP (fun J=>if c then A J else A' J) B=if c then joinP A B else joinP A' B:=by
 unfold joinP
 by_cases hc:c <;> simp only [hc,if_true,if_false]
theorem jn_and (P:Prop) (A:(α->Prop)->Prop) (B:α->Prop):joinP (fun J=>P/\A J) B=(P/\joinP A B):=
 propext ⟨fun h=>⟨(h (fun _=>True) (fun _ _=>trivial)).1,fun J hJ=>(h J hJ).2⟩,fun h J hJ=>⟨h.1,h.2 J hJ⟩⟩
theorem jn_imp (P:Prop) (A:(α->Prop)->Prop) (B:α->Prop):joinP (fun J=>P->A J) B=(P->joinP A B):=
 propext ⟨fun h hp J hJ=>h J hJ hp,fun h J hJ hp=>h hp J hJ⟩
theorem jn_const (P:Prop) (B:α->Prop):joinP (fun _=>P) B=P:=
 propext ⟨fun h=>h (fun _=>True) (fun _ _=>trivial),fun h _ _=>h⟩
theorem jval (c:Prop) [Decidable c] (x y:α) (J:α->Prop):(if c then J x else J y)=J (if c then x else y):=by split <;> rfl
theorem bor (b c:Bool):(if b=true then true else c)=(b||c):=by cases b <;> rfl
theorem band (b c:Bool):(if b=true then c else false)=(b&&c):=by cases b <;> rfl
theorem bnand (b c:Bool):(if b=true then false else c)=(!b&&c):=by cases b <;> rfl
theorem bimp (b c:Bool):(if b=true then c else true)=(!b||c):=by cases b <;> rfl
end
theorem nat_loop {α:Type} (body:(α->Prop)->α->Prop) (m:Nat) (P:Nat->α->Prop)
  (hs:∀ R i x,i<m->P i x->(∀ y,P (i+1) y->R y)->body R x) (he:∀ R x,P m x->body R x) (x:α) (h:P 0 x):loopP body x:=by
 have key:∀ k i x,i+k=m->P i x->loopN body (k+1) x:=by
  intro k
  induction k with
  | zero=>
   intro i x hi h
   have e:i=m:=by omega
   subst e
   exact he _ x h
  | succ k ih=>
   intro i x hi h
   exact hs _ i x (by omega) h (fun y hy=>ih (i+1) y (by omega) hy)
 exact ⟨m+1,key m 0 x (by omega) h⟩
theorem drop_loopS {α β ρ σ:Type} [Inhabited α] (l:List α) (hl:l.length<=LEN) (st:β->Int->σ) (go:List α->β->ρ) (KK:ρ->Prop) (body:(σ->Prop)->σ->Prop)
  (hs:∀ R b i,i<l.length->(∀ b',KK (go (l.drop (i+1)) b')->R (st b' (IntKind.i64.wrap ((i:Int)+1))))->KK (go (l.getD i default::l.drop (i+1)) b)->body R (st b i))
  (he:∀ R b,KK (go [] b)->body R (st b l.length)) (b:β) (h:KK (go l b)):loopP body (st b 0):=by
 have key:∀ k i b,i+k=l.length->KK (go (l.drop i) b)->loopN body (k+1) (st b (i:Int)):=by
  intro k
  induction k with
  | zero=>
   intro i b hi h
   have e:i=l.length:=by omega
   subst e
   rw [List.drop_length] at h
   exact he _ b h
  | succ k ih=>
   intro i b hi h
   have hlt:i<l.length:=by omega
   rw [List.drop_eq_getElem_cons hlt] at h
   have e:l.getD i default=l[i]:=by rw [List.getD,List.getElem?_eq_getElem hlt]; rfl
   rw [<- e] at h
   refine hs _ b i hlt (fun b' h'=>?_) h
   rw [wrap_succ (by unfold LEN at hl; omega)]
   exact ih (i+1) b' (by omega) h'
 exact ⟨l.length+1,key l.length 0 b (by omega) h⟩
theorem drop_loop {α β ρ:Type} [Inhabited α] (l:List α) (hl:l.length<=LEN) (go:List α->β->ρ) (KK:ρ->Prop) (body:(β×Int->Prop)->β×Int->Prop)
  (hs:∀ R b i,i<l.length->(∀ b',KK (go (l.drop (i+1)) b')->R (b',(IntKind.i64.wrap ((i:Int)+1))))->KK (go (l.getD i default::l.drop (i+1)) b)->body R (b,(i:Int)))
  (he:∀ R b,KK (go [] b)->body R (b,(l.length:Int))) (b:β) (h:KK (go l b)):loopP body (b,0):=
 drop_loopS l hl (fun b i=>(b,i)) go KK body hs he b h
theorem all_loop {α:Type} [Inhabited α] (l:List α) (hl:l.length<=LEN) (p:α->Bool) (rest:Bool) (KK:Bool->Prop) (body:(Int->Prop)->Int->Prop)
  (hs:∀ R i,i<l.length->(p (l.getD i default)=true->R (IntKind.i64.wrap ((i:Int)+1)))->(p (l.getD i default)=false->KK false)->body R (i:Int))
  (he:∀ R,KK rest->body R (l.length:Int)) (h:KK (l.all p&&rest)):loopP body 0:=by
 refine drop_loopS l hl (fun (_:Unit) i=>i) (fun t _=>t.all p&&rest) KK body (fun R _ i hi ih h=>?_) (fun R _ h=>he R (by simpa using h)) () h
 refine hs R i hi (fun hp=>ih () ?_) (fun hp=>?_)
 ·simp only [List.all_cons,hp,Bool.true_and] at h; exact h
 ·simp only [List.all_cons,hp,Bool.false_and] at h; exact h
theorem idx_loop {β:Type} (N:Nat) (hN:N<=LEN) (g:Nat->β) (body:(β×Int->Prop)->β×Int->Prop)
  (hs:∀ R i,i<N->R (g (i+1),IntKind.i64.wrap ((i:Int)+1))->body R (g i,(i:Int)))
  (he:∀ R,body R (g N,(N:Int))) {b:β} (hb:g 0=b):loopP body (b,0):=by
 subst hb
 refine nat_loop body N (fun i x=>x=(g i,(i:Int))) (fun R i x hi hx ih=>?_) (fun R x hx=>?_) _ rfl
 ·subst hx
  refine hs R i hi (ih _ ?_)
  rw [wrap_succ (by unfold LEN at hN; omega)]
 ·subst hx; exact he R
theorem take_snoc {α:Type} [Inhabited α] (l:List α) {i:Nat} (h:i<l.length):l.take (i+1)=l.take i++[l.getD i default]:=by
 rw [List.take_add_one,List.getD,List.getElem?_eq_getElem h]; rfl
theorem mem_getD {α:Type} [Inhabited α] (l:List α) {i:Nat} (h:i<l.length):l.getD i default∈l:=by
 rw [List.getD,List.getElem?_eq_getElem h]; exact List.getElem_mem h
end Go.Am
end

section
namespace Lt
open Go
def names (f:Func):List (List UInt8):=f.Blocks.map (·.Name)++(f.Params.map (·.Name)++f.Vars.map (·.Name))
def placeOf (s:List UInt8):List Block->Int->Int×Bool
 | [],_=>(0,false)
 | b::r,i=>if b.Name=s then (i,true) else placeOf s r (i+1)
def spPlace (f:Func) (s:List UInt8):Int×Bool:=placeOf s f.Blocks 0
def freshN (known:List (List UInt8)) (begin:List UInt8):Nat->Nat->Nat
 | 0,n=>n
 | k+1,n=>if begin++numPut n∈known then freshN known begin k (n+1) else n
def awake17:Bool:=true
end Lt
end

section
namespace Lt
open Go
def place8 (f:Func) (s:List UInt8):Int×Bool:=spPlace f s
abbrev toOf (f:Func) (i:Nat):List (List UInt8):=(f.Blocks.getD i default).End.To
def preLeads8 (f:Func) (i k:Int):Prop:=0<=i/\i < (f.Blocks.length:Int)
def leads8 (f:Func) (i k:Int):Bool:=(toOf f i.toNat).any fun s=>(spPlace f s).2&&decide ((spPlace f s).1=k)
def preR8 (f:Func):Prop:=f.Blocks.length<=1000000
def few8 (f:Func):Bool:=decide ((f.Blocks.length:Int)<=60)&&f.Blocks.all fun b=>decide ((b.End.To.length:Int)<=8)&&(decide ((b.Phis.length:Int)<=40)&&b.Phis.all fun p=>decide ((p.Ins.length:Int)<=60))
def ixOf (v:Int):List Int->Int->Int
 | [],_=>-1
 | x::r,i=>if v=x then i else ixOf v r (i+1)
def ixInt (l:List Int) (v:Int):Int:=ixOf v l 0
def hasInt (l:List Int) (v:Int):Bool:=decide (0<=ixInt l v)
def preOf (f:Func):Prop:=f.Blocks.length<=1000000/\∀ b∈f.Blocks,b.End.To.length<=1000000
def placeM (f:Func) (s:List UInt8):Option Int:=if (spPlace f s).2=true then some (spPlace f s).1 else none
def flOf (f:Func):List (List Int):=f.Blocks.map fun b=>b.End.To.filterMap (placeM f)
def prePreds (g:List (List Int)):Prop:=g.length<=1000000/\∀ l∈g,l.length<=1000000
def predsOf (g:List (List Int)) (k:Nat):List Int:=((List.range g.length).filter fun i=>decide ((k:Int)∈g.getD i [])).map fun (i:Nat)=>(i:Int)
def flPreds (g:List (List Int)):List (List Int):=(List.range g.length).map (predsOf g)
def preWays (f:Func):Prop:=preOf f
def isWay (f:Func) (i k:Nat):Option way:=
 let z:=spPlace f ((toOf f i).getD k default)
 if z.2=true/\1 < ((flPreds (flOf f)).getD z.1.toNat []).length then some ⟨i,k,z.1⟩ else none
def waysAt (f:Func) (i:Nat):List way:=if (toOf f i).length < 2 then [] else (List.range (toOf f i).length).filterMap (isWay f i)
def spWays (f:Func):List way:=(List.range f.Blocks.length).flatMap (waysAt f)
def preCopied (l:List Block):Prop:=l.length<=1000000/\∀ b∈l,b.End.To.length<=1000000/\b.Phis.length<=1000000/\∀ p∈b.Phis,p.Ins.length<=1000000
def turnIn (a b:List UInt8) (x:In):In:=if x.Block=a then ⟨b,x.A⟩ else x
def turnPhi (a b:List UInt8) (x:Phi):Phi:=⟨x.Dst,x.Ins.map (turnIn a b)⟩
def turnBlock (a b:List UInt8) (x:Block):Block:=⟨x.Name,x.Phis.map (turnPhi a b),x.Code,x.End⟩
def setTo (k:Nat) (b:List UInt8) (x:Block):Block:=⟨x.Name,x.Phis,x.Code,⟨x.End.Kind,x.End.A,x.End.To.set k b,x.End.N⟩⟩
def freshS (known:List (List UInt8)):List UInt8:=[115]++numPut (freshN known [115] known.length 0)
def splitAt (l:List Block) (w:way) (s:List UInt8):List Block:=
 let l1:=l.set w.to.toNat (turnBlock (l.getD w.from_.toNat default).Name s (l.getD w.to.toNat default))
 l1.set w.from_.toNat (setTo w.at_.toNat s (l1.getD w.from_.toNat default))++[⟨s,[],[],⟨1,⟨0,[],0⟩,[(l.getD w.to.toNat default).Name],0⟩⟩]
def splitStep (x:List (List UInt8)×List Block) (w:way):List (List UInt8)×List Block:=(x.1++[freshS x.1],splitAt x.2 w (freshS x.1))
def preAll (f:Func):Prop:=f.Blocks.length<=1000/\(∀ b∈f.Blocks,b.End.To.length<=1000/\b.Phis.length<=1000000/\∀ p∈b.Phis,p.Ins.length<=1000000)/\f.Params.length+f.Vars.length<=1000000
def spAll (f:Func):Func:=⟨f.Name,f.Result,f.Params,f.Vars,((spWays f).foldl splitStep (names f,f.Blocks)).2⟩
inductive Reach (f:Func):Nat->Prop
 | first:0<f.Blocks.length->Reach f 0
 | next (i k:Nat):Reach f i->k<f.Blocks.length->leads8 f i k=true->Reach f k
def okEnd (f:Func) (i:Nat):Prop:=(spPlace f (f.Blocks.getD i default).Name).1=i/\∀ k,k < (toOf f i).length->(spPlace f ((toOf f i).getD k default)).2=true/\(spPlace f ((toOf f i).getD k default)).1≠0/\∀ j,j<k->(toOf f i).getD j default≠(toOf f i).getD k default
def isRight (f:Func):Prop:=(∀ i,i<f.Blocks.length->okEnd f i)/\(∀ k,k<f.Blocks.length->Reach f k)/\0<f.Blocks.length
def postCome8 (f:Func) (l:List Bool):Prop:=l.length=f.Blocks.length/\∀ k,l.getD k false=true->Reach f k
def postRight8 (f:Func) (y:Bool):Prop:=y=true->isRight f
def preFew17 (f:Func):Prop:=preFF f 3000
def postFew17 (f:Func) (y:Bool):Prop:=y=true->FewFunc f 3000<=3000/\few8 f=true/\f.Blocks.length<=40/\IntKind.i64.wrap ((f.Params.length:Int)+(f.Vars.length:Int))<=100/\isRight f
def preSK (f:Func):Prop:=f.ok/\(∀ b∈f.Blocks,∀ i∈b.Code,∀ r∈i.Frames,inR r.At)/\(FewFunc f 3000<=3000->(rLines ⟨false,[],[],[],[f]⟩).length<=room)/\(FewFunc f 3000<=3000->f.Params.length+f.Vars.length<=100000)
def SplitKeeps (_:Func):Bool:=true
end Lt
end

section
namespace Go.Am
open Go
set_option linter.unusedVariables false
def F_place8 (a0_f:Lt.Func) (a1_name:List UInt8) (KK:(Int×Bool)->Prop):Prop:=
 loopP (α:=Int) (fun R1 v2=>(a0_f.Blocks.length<=4611686018427387904->if (decide (v2 < (a0_f.Blocks.length:Int)))=true then (((0:Int)<=v2/\v2.toNat<a0_f.Blocks.length)/\if (decide ((a0_f.Blocks.getD v2.toNat default).Name=a1_name))=true then (KK (v2,true)) else (R1 (IntKind.i64.wrap (v2+1)))) else (KK (0,false)))) 0
def F_leads8 (a0_f:Lt.Func) (a1_from:Int) (a2_to:Int) (KK:Bool->Prop):Prop:=
 loopP (α:=Int) (fun R1 v2=>((0:Int)<=a1_from/\a1_from.toNat<a0_f.Blocks.length)/\((((a0_f.Blocks.getD a1_from.toNat default).End).To).length<=4611686018427387904->if (decide (v2 < ((((a0_f.Blocks.getD a1_from.toNat default).End).To).length:Int)))=true then (((0:Int)<=a1_from/\a1_from.toNat<a0_f.Blocks.length)/\((0:Int)<=v2/\v2.toNat < (((a0_f.Blocks.getD a1_from.toNat default).End).To).length)/\joinP (α:=Bool) (fun J3=>if ((Lt.place8 a0_f ((((a0_f.Blocks.getD a1_from.toNat default).End).To).getD v2.toNat default)).2)=true then (J3 (decide ((Lt.place8 a0_f ((((a0_f.Blocks.getD a1_from.toNat default).End).To).getD v2.toNat default)).1=a2_to))) else (J3 false)) (fun v4=>if v4=true then (KK true) else (R1 (IntKind.i64.wrap (v2+1))))) else (KK false))) 0
def F_come8 (a0_f:Lt.Func) (KK:(List Bool)->Prop):Prop:=
 have z2:=(a0_f.Blocks.length:Int); have z1:=(List.replicate z2.toNat (dflt .bo)); (a0_f.Blocks.length<=4611686018427387904->((0:Int)<=z2/\z2<=4611686018427387904/\1*z2.toNat<=281474976710656)/\(z1.length<=4611686018427387904->loopP (α:=List Bool×Bool) (fun R1 v2=>if v2.2=true then (((0:Int)<=0/\0 < ((v2.1.length:Nat):Int))/\0<v2.1.length/\loopP (α:=List Bool×Bool×Int) (fun R3 v4=>(v4.1.length<=4611686018427387904->if (decide (v4.2.2 < (v4.1.length:Int)))=true then (loopP (α:=List Bool×Bool×Int) (fun R5 v6=>joinP (α:=Bool) (fun J7=>(v6.1.length<=4611686018427387904->if (decide (v6.2.2 < (v6.1.length:Int)))=true then (((0:Int)<=v4.2.2/\v4.2.2 < ((v6.1.length:Nat):Int))/\J7 (v6.1.getD v4.2.2.toNat default)) else (J7 false))) (fun v8=>if v8=true then (joinP (α:=List Bool×Bool) (fun J9=>joinP (α:=Bool) (fun J11=>((0:Int)<=v6.2.2/\v6.2.2 < ((v6.1.length:Nat):Int))/\if (!(v6.1.getD v6.2.2.toNat default))=true then ((Lt.preLeads8 a0_f v4.2.2 v6.2.2)/\J11 (Lt.leads8 a0_f v4.2.2 v6.2.2)) else (J11 false)) (fun v12=>if v12=true then (((0:Int)<=v6.2.2/\v6.2.2 < ((v6.1.length:Nat):Int))/\v6.2.2.toNat<v6.1.length/\J9 ((v6.1.set v6.2.2.toNat true),true)) else (J9 (v6.1,v6.2.1)))) (fun v10=>R5 (v10.1,v10.2,(IntKind.i64.wrap (v6.2.2+1))))) else (R3 (v6.1,v6.2.1,(IntKind.i64.wrap (v4.2.2+1)))))) (v4.1,v4.2.1,0)) else (R1 (v4.1,v4.2.1)))) ((v2.1.set 0 true),false,0)) else (KK v2.1)) (z1,(decide (0 < (z1.length:Int))))))
def F_countVars (a0_l:List Lt.Var) (a1_most:Int) (KK:Int->Prop):Prop:=
 (a0_l.length<=4611686018427387904->if (decide (a1_most < (a0_l.length:Int)))=true then (KK (IntKind.i64.wrap (a1_most+1))) else ((a0_l.length<=4611686018427387904->loopP (α:=Int×Int) (fun R1 v2=>joinP (α:=Bool) (fun J3=>(a0_l.length<=4611686018427387904->if (decide (v2.2 < (a0_l.length:Int)))=true then (J3 (decide (v2.1<=a1_most))) else (J3 false))) (fun v4=>if v4=true then (joinP (α:=Int) (fun J5=>((0:Int)<=v2.2/\v2.2.toNat<a0_l.length)/\(((a0_l.getD v2.2.toNat default).Name).length<=4611686018427387904->if (decide ((IntKind.i64.wrap (v2.1+(((a0_l.getD v2.2.toNat default).Name).length:Int)))<=a1_most))=true then (((0:Int)<=v2.2/\v2.2.toNat<a0_l.length)/\(((a0_l.getD v2.2.toNat default).Type_).length<=4611686018427387904->J5 (IntKind.i64.wrap ((IntKind.i64.wrap (v2.1+(((a0_l.getD v2.2.toNat default).Name).length:Int)))+(((a0_l.getD v2.2.toNat default).Type_).length:Int))))) else (J5 (IntKind.i64.wrap (v2.1+(((a0_l.getD v2.2.toNat default).Name).length:Int)))))) (fun v6=>R1 (v6,(IntKind.i64.wrap (v2.2+1))))) else (KK v2.1))) ((a0_l.length:Int),0))))
def F_countArgs (a0_l:List Lt.Arg) (a1_most:Int) (KK:Int->Prop):Prop:=
 (a0_l.length<=4611686018427387904->if (decide (a1_most < (a0_l.length:Int)))=true then (KK (IntKind.i64.wrap (a1_most+1))) else ((a0_l.length<=4611686018427387904->loopP (α:=Int×Int) (fun R1 v2=>joinP (α:=Bool) (fun J3=>(a0_l.length<=4611686018427387904->if (decide (v2.2 < (a0_l.length:Int)))=true then (J3 (decide (v2.1<=a1_most))) else (J3 false))) (fun v4=>if v4=true then (((0:Int)<=v2.2/\v2.2.toNat<a0_l.length)/\(((a0_l.getD v2.2.toNat default).S).length<=4611686018427387904->R1 ((IntKind.i64.wrap (v2.1+(((a0_l.getD v2.2.toNat default).S).length:Int))),(IntKind.i64.wrap (v2.2+1))))) else (KK v2.1))) ((a0_l.length:Int),0))))
def F_countInstr (a0_x:Lt.Instr) (a1_most:Int) (KK:Int->Prop):Prop:=
 have z2:=(IntKind.i64.wrap ((IntKind.i64.wrap ((IntKind.i64.wrap (1+(a0_x.Dst.length:Int)))+(a0_x.Frames.length:Int)))+(a0_x.Objs.length:Int))); joinP (α:=Bool) (fun J1=>(a0_x.Frames.length<=4611686018427387904->if (decide (a1_most < (a0_x.Frames.length:Int)))=true then (J1 true) else (J1 (decide (a1_most < (a0_x.Objs.length:Int)))))) (fun v2=>if v2=true then (KK (IntKind.i64.wrap (a1_most+1))) else ((a0_x.Dst.length<=4611686018427387904->(a0_x.Frames.length<=4611686018427387904->(a0_x.Objs.length<=4611686018427387904->joinP (α:=Int) (fun J3=>if (decide (z2<=a1_most))=true then ((a0_x.Name.length<=4611686018427387904->J3 (IntKind.i64.wrap (z2+(a0_x.Name.length:Int))))) else (J3 z2)) (fun v4=>joinP (α:=Int) (fun J5=>if (decide (v4<=a1_most))=true then (J5 (IntKind.i64.wrap (v4+(Lt.countArgs a0_x.Args a1_most)))) else (J5 v4)) (fun v6=>loopP (α:=Int×Int) (fun R7 v8=>have z4:=((0:Int)<=v8.2/\v8.2.toNat<a0_x.Frames.length); have z1:=a0_x.Frames.getD v8.2.toNat default; have z6:=(IntKind.i64.wrap (v8.1+((z1.Func).length:Int))); joinP (α:=Bool) (fun J9=>(a0_x.Frames.length<=4611686018427387904->if (decide (v8.2 < (a0_x.Frames.length:Int)))=true then (J9 (decide (v8.1<=a1_most))) else (J9 false))) (fun v10=>if v10=true then (z4/\((z1.Func).length<=4611686018427387904->joinP (α:=Int) (fun J11=>if (decide (z6<=a1_most))=true then (z4/\((z1.Block).length<=4611686018427387904->J11 (IntKind.i64.wrap (z6+((z1.Block).length:Int))))) else (J11 z6)) (fun v12=>loopP (α:=Int×Int) (fun R13 v14=>have z7:=(z1.Vars).getD v14.2.toNat default; have z3:=(IntKind.i64.wrap ((IntKind.i64.wrap (v14.1+1))+((z7.Name).length:Int))); joinP (α:=Bool) (fun J15=>z4/\((z1.Vars).length<=4611686018427387904->if (decide (v14.2 < ((z1.Vars).length:Int)))=true then (J15 (decide (v14.1<=a1_most))) else (J15 false))) (fun v16=>if v16=true then (joinP (α:=Int) (fun J17=>z4/\((0:Int)<=v14.2/\v14.2.toNat < (z1.Vars).length)/\((z7.Name).length<=4611686018427387904->if (decide (z3<=a1_most))=true then (z4/\((0:Int)<=v14.2/\v14.2.toNat < (z1.Vars).length)/\(((z7.A).S).length<=4611686018427387904->J17 (IntKind.i64.wrap (z3+(((z7.A).S).length:Int))))) else (J17 z3))) (fun v18=>R13 (v18,(IntKind.i64.wrap (v14.2+1))))) else (R7 (v14.1,(IntKind.i64.wrap (v8.2+1)))))) (v12,0)))) else (loopP (α:=Int×Int) (fun R19 v20=>have z8:=a0_x.Objs.getD v20.2.toNat default; have z5:=(IntKind.i64.wrap (v20.1+((z8.Class).length:Int))); joinP (α:=Bool) (fun J21=>(a0_x.Objs.length<=4611686018427387904->if (decide (v20.2 < (a0_x.Objs.length:Int)))=true then (J21 (decide (v20.1<=a1_most))) else (J21 false))) (fun v22=>if v22=true then (joinP (α:=Int) (fun J23=>((0:Int)<=v20.2/\v20.2.toNat<a0_x.Objs.length)/\((z8.Class).length<=4611686018427387904->if (decide (z5<=a1_most))=true then (((0:Int)<=v20.2/\v20.2.toNat<a0_x.Objs.length)/\J23 (IntKind.i64.wrap (z5+(Lt.countArgs (z8.Vals) a1_most)))) else (J23 z5))) (fun v24=>R19 (v24,(IntKind.i64.wrap (v20.2+1))))) else (KK v20.1))) (v8.1,0)))) (v6,0))))))))
def F_countBlock (a0_b:Lt.Block) (a1_most:Int) (KK:Int->Prop):Prop:=
 have z5:=(IntKind.i64.wrap (1+(a0_b.Name.length:Int))); joinP (α:=Bool) (fun J1=>(a0_b.Phis.length<=4611686018427387904->if (decide (a1_most < (a0_b.Phis.length:Int)))=true then (J1 true) else (if (decide (a1_most < (a0_b.Code.length:Int)))=true then (J1 true) else (J1 (decide (a1_most < (a0_b.End.To.length:Int))))))) (fun v2=>if v2=true then (KK (IntKind.i64.wrap (a1_most+1))) else ((a0_b.Name.length<=4611686018427387904->joinP (α:=Int) (fun J3=>if (decide (z5<=a1_most))=true then ((a0_b.End.A.S.length<=4611686018427387904->J3 (IntKind.i64.wrap (z5+(a0_b.End.A.S.length:Int))))) else (J3 z5)) (fun v4=>loopP (α:=Int×Int) (fun R5 v6=>joinP (α:=Bool) (fun J7=>(a0_b.End.To.length<=4611686018427387904->if (decide (v6.2 < (a0_b.End.To.length:Int)))=true then (J7 (decide (v6.1<=a1_most))) else (J7 false))) (fun v8=>if v8=true then (((0:Int)<=v6.2/\v6.2.toNat<a0_b.End.To.length)/\((a0_b.End.To.getD v6.2.toNat default).length<=4611686018427387904->R5 ((IntKind.i64.wrap ((IntKind.i64.wrap (v6.1+1))+((a0_b.End.To.getD v6.2.toNat default).length:Int))),(IntKind.i64.wrap (v6.2+1))))) else (loopP (α:=Int×Int) (fun R9 v10=>have z3:=((0:Int)<=v10.2/\v10.2.toNat<a0_b.Phis.length); have z1:=a0_b.Phis.getD v10.2.toNat default; joinP (α:=Bool) (fun J11=>(a0_b.Phis.length<=4611686018427387904->if (decide (v10.2 < (a0_b.Phis.length:Int)))=true then (J11 (decide (v10.1<=a1_most))) else (J11 false))) (fun v12=>if v12=true then (z3/\((z1.Dst).length<=4611686018427387904->loopP (α:=Int×Int) (fun R13 v14=>have z4:=(z1.Ins).getD v14.2.toNat default; have z2:=(IntKind.i64.wrap ((IntKind.i64.wrap (v14.1+1))+((z4.Block).length:Int))); joinP (α:=Bool) (fun J15=>z3/\((z1.Ins).length<=4611686018427387904->if (decide (v14.2 < ((z1.Ins).length:Int)))=true then (J15 (decide (v14.1<=a1_most))) else (J15 false))) (fun v16=>if v16=true then (joinP (α:=Int) (fun J17=>z3/\((0:Int)<=v14.2/\v14.2.toNat < (z1.Ins).length)/\((z4.Block).length<=4611686018427387904->if (decide (z2<=a1_most))=true then (z3/\((0:Int)<=v14.2/\v14.2.toNat < (z1.Ins).length)/\(((z4.A).S).length<=4611686018427387904->J17 (IntKind.i64.wrap (z2+(((z4.A).S).length:Int))))) else (J17 z2))) (fun v18=>R13 (v18,(IntKind.i64.wrap (v14.2+1))))) else (R9 (v14.1,(IntKind.i64.wrap (v10.2+1)))))) ((IntKind.i64.wrap ((IntKind.i64.wrap (v10.1+1))+((z1.Dst).length:Int))),0))) else (loopP (α:=Int×Int) (fun R19 v20=>joinP (α:=Bool) (fun J21=>(a0_b.Code.length<=4611686018427387904->if (decide (v20.2 < (a0_b.Code.length:Int)))=true then (J21 (decide (v20.1<=a1_most))) else (J21 false))) (fun v22=>if v22=true then (((0:Int)<=v20.2/\v20.2.toNat<a0_b.Code.length)/\(Lt.preCI (a0_b.Code.getD v20.2.toNat default) a1_most)/\R19 ((IntKind.i64.wrap (v20.1+(Lt.countInstr (a0_b.Code.getD v20.2.toNat default) a1_most))),(IntKind.i64.wrap (v20.2+1)))) else (KK v20.1))) (v10.1,0)))) (v6.1,0)))) (v4,0)))))
def F_FewFunc (a0_f:Lt.Func) (a1_most:Int) (KK:Int->Prop):Prop:=
 have z3:=(IntKind.i64.wrap (1+(a0_f.Name.length:Int))); (a0_f.Blocks.length<=4611686018427387904->if (decide (a1_most < (a0_f.Blocks.length:Int)))=true then (KK (IntKind.i64.wrap (a1_most+1))) else ((a0_f.Name.length<=4611686018427387904->joinP (α:=Int) (fun J1=>if (decide (z3<=a1_most))=true then ((a0_f.Result.length<=4611686018427387904->J1 (IntKind.i64.wrap (z3+(a0_f.Result.length:Int))))) else (J1 z3)) (fun v2=>joinP (α:=Int) (fun J3=>if (decide (v2<=a1_most))=true then (J3 (IntKind.i64.wrap (v2+(Lt.countVars a0_f.Params a1_most)))) else (J3 v2)) (fun v4=>joinP (α:=Int) (fun J5=>if (decide (v4<=a1_most))=true then (J5 (IntKind.i64.wrap (v4+(Lt.countVars a0_f.Vars a1_most)))) else (J5 v4)) (fun v6=>loopP (α:=Int×Int) (fun R7 v8=>have z1:=a0_f.Blocks.getD v8.2.toNat default; have z2:=Lt.Block.mk (z1.Name) (z1.Phis) (z1.Code) (Lt.Term.mk ((z1.End).Kind) ((z1.End).A) ((z1.End).To) ((z1.End).N)); joinP (α:=Bool) (fun J9=>(a0_f.Blocks.length<=4611686018427387904->if (decide (v8.2 < (a0_f.Blocks.length:Int)))=true then (J9 (decide (v8.1<=a1_most))) else (J9 false))) (fun v10=>if v10=true then (((0:Int)<=v8.2/\v8.2.toNat<a0_f.Blocks.length)/\(Lt.preCB z2 a1_most)/\R7 ((IntKind.i64.wrap (v8.1+(Lt.countBlock z2 a1_most))),(IntKind.i64.wrap (v8.2+1)))) else (KK v8.1))) (v6,0)))))))
def F_rPut (a0_out:List UInt8) (a1_l:List (List UInt8)) (KK:(List UInt8)->Prop):Prop:=
 loopP (α:=List UInt8×Int) (fun R1 v2=>(a1_l.length<=4611686018427387904->if (decide (v2.2 < (a1_l.length:Int)))=true then (joinP (α:=List UInt8) (fun J3=>if (decide (0<v2.2))=true then ((v2.1.length+([(32:UInt8)]:List UInt8).length<=4611686018427387904/\(v2.1.length+([(32:UInt8)]:List UInt8).length)*1<=140737488355328)/\J3 (v2.1++([(32:UInt8)]:List UInt8))) else (J3 v2.1)) (fun v4=>((0:Int)<=v2.2/\v2.2.toNat<a1_l.length)/\(v4.length+(a1_l.getD v2.2.toNat default).length<=4611686018427387904/\(v4.length+(a1_l.getD v2.2.toNat default).length)*1<=140737488355328)/\R1 ((v4++(a1_l.getD v2.2.toNat default)),(IntKind.i64.wrap (v2.2+1))))) else ((v2.1.length+([(10:UInt8)]:List UInt8).length<=4611686018427387904/\(v2.1.length+([(10:UInt8)]:List UInt8).length)*1<=140737488355328)/\KK (v2.1++([(10:UInt8)]:List UInt8))))) (a0_out,0)
def F_rVars (a0_out:List UInt8) (a1_first:List UInt8) (a2_l:List Lt.Var) (KK:(List UInt8)->Prop):Prop:=
 loopP (α:=List UInt8×Int) (fun R1 v2=>(a2_l.length<=4611686018427387904->if (decide (v2.2 < (a2_l.length:Int)))=true then (((0:Int)<=v2.2/\v2.2.toNat<a2_l.length)/\((0:Int)<=v2.2/\v2.2.toNat<a2_l.length)/\(Lt.preRPut v2.1 [a1_first,(a2_l.getD v2.2.toNat default).Name,(a2_l.getD v2.2.toNat default).Type_])/\R1 ((Lt.rPut v2.1 [a1_first,(a2_l.getD v2.2.toNat default).Name,(a2_l.getD v2.2.toNat default).Type_]),(IntKind.i64.wrap (v2.2+1)))) else (KK v2.1))) (a0_out,0)
def F_rSize (a0_n:Int) (KK:Int->Prop):Prop:=
 if (decide (a0_n < 0))=true then (KK (IntKind.u64.wrap (0 - (IntKind.u64.wrap a0_n)))) else (KK (IntKind.u64.wrap a0_n))
def F_rNum (a0_n:Int) (KK:(List UInt8)->Prop):Prop:=
 joinP (α:=List UInt8) (fun J1=>loopP (α:=List UInt8×Int) (fun R3 v4=>(10:Int)≠0/\(([(UInt8.ofNat (IntKind.u8.wrap (IntKind.u64.wrap (48+(Int.tmod v4.2 10)))).toNat)]:List UInt8).length+v4.1.length<=4611686018427387904/\(([(UInt8.ofNat (IntKind.u8.wrap (IntKind.u64.wrap (48+(Int.tmod v4.2 10)))).toNat)]:List UInt8).length+v4.1.length)*1<=140737488355328)/\(10:Int)≠0/\if (decide ((IntKind.u64.wrap (Int.tdiv v4.2 10))=0))=true then (J1 (([(UInt8.ofNat (IntKind.u8.wrap (IntKind.u64.wrap (48+(Int.tmod v4.2 10)))).toNat)]:List UInt8)++v4.1)) else (R3 ((([(UInt8.ofNat (IntKind.u8.wrap (IntKind.u64.wrap (48+(Int.tmod v4.2 10)))).toNat)]:List UInt8)++v4.1),(IntKind.u64.wrap (Int.tdiv v4.2 10))))) ([],(Lt.rSize a0_n))) (fun v2=>if (decide (a0_n < 0))=true then ([45].length+v2.length<=4611686018427387904/\KK ([45]++v2)) else (KK v2))
def F_rFlo (a0_n:Int) (KK:(List UInt8)->Prop):Prop:=
 loopP (α:=Int×List UInt8×Int) (fun R1 v2=>if (decide (v2.2.2 < 16))=true then ((16:Int)≠0/\joinP (α:=UInt8) (fun J3=>if (decide ((((UInt8.ofNat (IntKind.u8.wrap (Int.tmod v2.1 16)).toNat).toNat:Nat):Int) < (((10:UInt8).toNat:Nat):Int)))=true then (J3 (UInt8.ofNat (IntKind.u8.wrap ((((UInt8.ofNat (IntKind.u8.wrap (Int.tmod v2.1 16)).toNat).toNat:Nat):Int)+(((48:UInt8).toNat:Nat):Int))).toNat)) else (J3 (UInt8.ofNat (IntKind.u8.wrap ((((UInt8.ofNat (IntKind.u8.wrap (Int.tmod v2.1 16)).toNat).toNat:Nat):Int)+(((87:UInt8).toNat:Nat):Int))).toNat))) (fun v4=>(([v4]:List UInt8).length+v2.2.1.length<=4611686018427387904/\(([v4]:List UInt8).length+v2.2.1.length)*1<=140737488355328)/\(16:Int)≠0/\R1 ((IntKind.u64.wrap (Int.tdiv v2.1 16)),(([v4]:List UInt8)++v2.2.1),(IntKind.i64.wrap (v2.2.2+1))))) else ([48,102].length+v2.2.1.length<=4611686018427387904/\KK ([48,102]++v2.2.1))) ((IntKind.u64.wrap (Lt.rPlain a0_n)),[],0)
def F_rIsNan (a0_n:Int) (KK:Bool->Prop):Prop:=
 (9223372036854775808:Int)≠0/\KK (decide (9218868437227405312 < (Int.tmod (IntKind.u64.wrap a0_n) 9223372036854775808)))
def F_rPlain (a0_n:Int) (KK:Int->Prop):Prop:=
 if (Lt.rIsNan a0_n)=true then (KK 9221120237041090560) else (KK a0_n)
def F_rRight (a0_a:Lt.Arg) (KK:Bool->Prop):Prop:=
 have z2:=decide (a0_a.Kind=4); have z1:=decide (a0_a.Kind=5); if (decide (a0_a.Kind=1))=true then (if (Lt.rName a0_a.S)=true then (KK (decide (a0_a.N=0))) else (KK false)) else (joinP (α:=Bool) (fun J1=>if (decide (a0_a.Kind < 1))=true then (J1 true) else (if (decide (5<a0_a.Kind))=true then (J1 true) else (J1 (!decide (a0_a.S=([]:List UInt8)))))) (fun v2=>if v2=true then (KK false) else (joinP (α:=Bool) (fun J3=>if (decide (a0_a.Kind=2))=true then ((J3 true)/\(J3 true)) else (if (decide (a0_a.Kind=3))=true then ((if (decide ((Lt.rPlain a0_a.N)=a0_a.N))=true then (J3 true) else (if z2=true then (if (decide (a0_a.N=0))=true then (J3 true) else (if z1=true then (if (decide (0<=a0_a.N))=true then (J3 (decide (a0_a.N<=999))) else (J3 false)) else (J3 false))) else (if z1=true then (if (decide (0<=a0_a.N))=true then (J3 (decide (a0_a.N<=999))) else (J3 false)) else (J3 false))))/\(if (decide ((Lt.rPlain a0_a.N)=a0_a.N))=true then (J3 true) else (if z2=true then (if (decide (a0_a.N=0))=true then (J3 true) else (if z1=true then (if (decide (0<=a0_a.N))=true then (J3 (decide (a0_a.N<=999))) else (J3 false)) else (J3 false))) else (if z1=true then (if (decide (0<=a0_a.N))=true then (J3 (decide (a0_a.N<=999))) else (J3 false)) else (J3 false))))) else ((if z2=true then (if (decide (a0_a.N=0))=true then (J3 true) else (if z1=true then (if (decide (0<=a0_a.N))=true then (J3 (decide (a0_a.N<=999))) else (J3 false)) else (J3 false))) else (if z1=true then (if (decide (0<=a0_a.N))=true then (J3 (decide (a0_a.N<=999))) else (J3 false)) else (J3 false)))/\(if z2=true then (if (decide (a0_a.N=0))=true then (J3 true) else (if z1=true then (if (decide (0<=a0_a.N))=true then (J3 (decide (a0_a.N<=999))) else (J3 false)) else (J3 false))) else (if z1=true then (if (decide (0<=a0_a.N))=true then (J3 (decide (a0_a.N<=999))) else (J3 false)) else (J3 false)))))) (fun v4=>KK v4))))
def F_rName (a0_s:List UInt8) (KK:Bool->Prop):Prop:=
 loopP (α:=Int) (fun R1 v2=>have z1:=(((a0_s.getD v2.toNat 0).toNat:Nat):Int); have z3:=(decide (z1 < (((97:UInt8).toNat:Nat):Int))); have z2:=(decide ((((122:UInt8).toNat:Nat):Int)<z1)); (a0_s.length<=4611686018427387904->if (decide (v2 < (a0_s.length:Int)))=true then (((0:Int)<=v2/\v2.toNat<a0_s.length)/\joinP (α:=Bool) (fun J3=>if (decide ((((48:UInt8).toNat:Nat):Int)<=z1))=true then (J3 (decide (z1<=(((57:UInt8).toNat:Nat):Int)))) else (J3 false)) (fun v4=>joinP (α:=Bool) (fun J5=>if v4=true then (if (!(decide (0<v2)))=true then (if (!decide (z1=(((95:UInt8).toNat:Nat):Int)))=true then (if (decide (z1 < (((65:UInt8).toNat:Nat):Int)))=true then (if z3=true then (J5 true) else (J5 z2)) else (if (decide ((((90:UInt8).toNat:Nat):Int)<z1))=true then (if z3=true then (J5 true) else (J5 z2)) else (J5 false))) else (J5 false)) else (J5 false)) else (if (!false)=true then (if (!decide (z1=(((95:UInt8).toNat:Nat):Int)))=true then (if (decide (z1 < (((65:UInt8).toNat:Nat):Int)))=true then (if z3=true then (J5 true) else (J5 z2)) else (if (decide ((((90:UInt8).toNat:Nat):Int)<z1))=true then (if z3=true then (J5 true) else (J5 z2)) else (J5 false))) else (J5 false)) else (J5 false))) (fun v6=>if v6=true then (KK false) else (R1 (IntKind.i64.wrap (v2+1)))))) else (joinP (α:=Bool) (fun J7=>(a0_s.length<=4611686018427387904->if (decide (1<=(a0_s.length:Int)))=true then (if (decide ((a0_s.length:Int)<=16))=true then (if (!decide (a0_s=[110,117,108,108]))=true then (if (!decide (a0_s=[105,110,116]))=true then (J7 (!decide (a0_s=[102,108,111,97,116]))) else (J7 false)) else (J7 false)) else (J7 false)) else (J7 false))) (fun v8=>KK v8)))) 0
def F_rWord (a0_a:Lt.Arg) (KK:(List UInt8)->Prop):Prop:=
 if (!(Lt.rRight a0_a))=true then (KK ([]:List UInt8)) else (if (decide (a0_a.Kind=1))=true then (KK a0_a.S) else (if (decide (a0_a.Kind=2))=true then ((Lt.preNum a0_a.N)/\KK (Lt.rNum a0_a.N)) else (if (decide (a0_a.Kind=3))=true then (KK (Lt.rFlo a0_a.N)) else (if (decide (a0_a.Kind=4))=true then (KK [110,117,108,108]) else ((Lt.preNum a0_a.N)/\[35].length+(Lt.rNum a0_a.N).length<=4611686018427387904/\KK ([35]++(Lt.rNum a0_a.N)))))))
def F_rArgs (a0_l:List (List UInt8)) (a1_a:List Lt.Arg) (KK:(List (List UInt8))->Prop):Prop:=
 loopP (α:=List (List UInt8)×Int) (fun R1 v2=>(a1_a.length<=4611686018427387904->if (decide (v2.2 < (a1_a.length:Int)))=true then (((0:Int)<=v2.2/\v2.2.toNat<a1_a.length)/\(Lt.prePut (a1_a.getD v2.2.toNat default))/\(v2.1.length+([(Lt.rWord (a1_a.getD v2.2.toNat default))]:List (List UInt8)).length<=4611686018427387904/\(v2.1.length+([(Lt.rWord (a1_a.getD v2.2.toNat default))]:List (List UInt8)).length)*16<=140737488355328)/\R1 ((v2.1++([(Lt.rWord (a1_a.getD v2.2.toNat default))]:List (List UInt8))),(IntKind.i64.wrap (v2.2+1)))) else (KK v2.1))) (a0_l,0)
def F_rEnds (a0_out:List UInt8) (a1_t:Lt.Term) (KK:(List UInt8)->Prop):Prop:=
 have z2:=([(Lt.rNum a1_t.N)]:List (List UInt8)); have z1:=([([]:List UInt8),[106,117,109,112],[98,114,97,110,99,104],[114,101,116],[116,114,97,112]].getD a1_t.Kind.toNat default); joinP (α:=Bool) (fun J1=>if (decide (a1_t.Kind < 1))=true then (J1 true) else (J1 (decide (4<a1_t.Kind)))) (fun v2=>if v2=true then (KK a0_out) else (((0:Int)<=a1_t.Kind/\a1_t.Kind < (([([]:List UInt8),[106,117,109,112],[98,114,97,110,99,104],[114,101,116],[116,114,97,112]].length:Nat):Int))/\joinP (α:=List (List UInt8)) (fun J3=>joinP (α:=Bool) (fun J5=>if (decide (a1_t.Kind=2))=true then (J5 true) else (J5 (decide (a1_t.Kind=3)))) (fun v6=>if v6=true then ((Lt.prePut a1_t.A)/\(([z1]:List (List UInt8)).length+([(Lt.rWord a1_t.A)]:List (List UInt8)).length<=4611686018427387904/\(([z1]:List (List UInt8)).length+([(Lt.rWord a1_t.A)]:List (List UInt8)).length)*16<=140737488355328)/\J3 [z1,(Lt.rWord a1_t.A)]) else (J3 [z1]))) (fun v4=>(v4.length+a1_t.To.length<=4611686018427387904/\(v4.length+a1_t.To.length)*16<=140737488355328)/\joinP (α:=List (List UInt8)) (fun J7=>if (decide (a1_t.Kind=4))=true then ((Lt.preNum a1_t.N)/\((v4++a1_t.To).length+z2.length<=4611686018427387904/\((v4++a1_t.To).length+z2.length)*16<=140737488355328)/\J7 ((v4++a1_t.To)++z2)) else (J7 (v4++a1_t.To))) (fun v8=>(Lt.preRPut a0_out v8)/\KK (Lt.rPut a0_out v8)))))
def F_rOf (a0_op:Int) (KK:(Lt.RForm×Bool)->Prop):Prop:=
 have z1:=gw.getD a0_op.toNat default; have z4:=Lt.RForm.mk z1 false (decide (a0_op<=32)) 0 0; have z3:=Lt.RForm.mk z1 (!decide (a0_op=34)) true 0 0; have z2:=Lt.RForm.mk z1 false true 0 0; joinP (α:=Bool) (fun J1=>if (decide (a0_op < 1))=true then (J1 true) else (J1 (decide (34<a0_op)))) (fun v2=>if v2=true then (KK ((Lt.RForm.mk ([]:List UInt8) false false 0 0),false)) else (joinP (α:=Lt.RForm) (fun J3=>((0:Int)<=a0_op/\a0_op < ((35:Nat):Int))/\a0_op.toNat<gw.length/\if (!decide (a0_op=27))=true then (if (!decide (a0_op=30))=true then (if (!decide (a0_op=33))=true then (if (decide (a0_op=25))=true then (J3 z3) else (if (decide (a0_op=26))=true then (J3 z3) else (if (decide (a0_op=27))=true then (J3 z3) else (if (decide (29<=a0_op))=true then (J3 (Lt.RForm.mk z1 (!decide (a0_op=34)) (decide (a0_op<=32)) 0 0)) else (J3 (Lt.RForm.mk z1 (!decide (a0_op=34)) false 0 0)))))) else (if (decide (a0_op=25))=true then (J3 z2) else (if (decide (a0_op=26))=true then (J3 z2) else (if (decide (a0_op=27))=true then (J3 z2) else (if (decide (29<=a0_op))=true then (J3 z4) else (J3 (Lt.RForm.mk z1 false false 0 0))))))) else (if (decide (a0_op=25))=true then (J3 z2) else (if (decide (a0_op=26))=true then (J3 z2) else (if (decide (a0_op=27))=true then (J3 z2) else (if (decide (29<=a0_op))=true then (J3 z4) else (J3 (Lt.RForm.mk z1 false false 0 0))))))) else (if (decide (a0_op=25))=true then (J3 z2) else (if (decide (a0_op=26))=true then (J3 z2) else (if (decide (a0_op=27))=true then (J3 z2) else (if (decide (29<=a0_op))=true then (J3 z4) else (J3 (Lt.RForm.mk z1 false false 0 0))))))) (fun v4=>joinP (α:=Lt.RForm) (fun J5=>joinP (α:=Bool) (fun J7=>if (decide (a0_op=22))=true then (J7 (decide (a0_op=22))) else (if (decide (a0_op=23))=true then (J7 (decide (a0_op=23))) else (if (decide (a0_op=24))=true then (J7 (decide (a0_op=24))) else (if (decide (a0_op=26))=true then (J7 (decide (a0_op=26))) else (if (decide (a0_op=30))=true then (J7 (decide (a0_op=30))) else (J7 (decide (a0_op=33)))))))) (fun v8=>if v8=true then (J5 (Lt.RForm.mk v4.Word v4.Dst v4.Named 1 1)) else (joinP (α:=Bool) (fun J9=>if (decide (a0_op=25))=true then (J9 (decide (a0_op=25))) else (if (decide (a0_op=31))=true then (J9 (decide (a0_op=31))) else (J9 (decide (a0_op=32))))) (fun v10=>if v10=true then (J5 (Lt.RForm.mk v4.Word v4.Dst v4.Named v4.Least 8)) else (joinP (α:=Bool) (fun J11=>if (decide (a0_op=29))=true then (J11 (decide (a0_op=29))) else (J11 (decide (a0_op=34)))) (fun v12=>if v12=true then (J5 (Lt.RForm.mk v4.Word v4.Dst v4.Named v4.Least 0)) else (J5 (Lt.RForm.mk v4.Word v4.Dst v4.Named 2 2)))))))) (fun v6=>KK (v6,true)))))
def F_rCode (a0_out:List UInt8) (a1_x:Lt.Instr) (KK:(List UInt8)->Prop):Prop:=
 have z6:=([a1_x.Name]:List (List UInt8)); have z4:=([((Lt.rOf a1_x.Op).1).Word]:List (List UInt8)); joinP (α:=List (List UInt8)) (fun J1=>if (((Lt.rOf a1_x.Op).1).Dst)=true then ((([]:List (List UInt8)).length+([a1_x.Dst,[61]]:List (List UInt8)).length<=4611686018427387904/\(([]:List (List UInt8)).length+([a1_x.Dst,[61]]:List (List UInt8)).length)*16<=140737488355328)/\J1 [a1_x.Dst,[61]]) else (J1 [])) (fun v2=>have z9:=Lt.rArgs (v2++z4) ((a1_x.Args.drop 0).take (1 - 0)); (v2.length+z4.length<=4611686018427387904/\(v2.length+z4.length)*16<=140737488355328)/\joinP (α:=List (List UInt8)) (fun J3=>joinP (α:=Bool) (fun J5=>if (decide (a1_x.Op=26))=true then (J5 (decide (0 < (a1_x.Args.length:Int)))) else (if (decide (a1_x.Op=27))=true then (J5 (decide (0 < (a1_x.Args.length:Int)))) else (J5 false))) (fun v6=>if v6=true then ((0:Int)<=1/\(0<=1/\1<=a1_x.Args.length)/\(Lt.preRArgs (v2++z4) ((a1_x.Args.drop 0).take (1 - 0)))/\(z9.length+z6.length<=4611686018427387904/\(z9.length+z6.length)*16<=140737488355328)/\(0:Int)<=1/\(1<=a1_x.Args.length/\a1_x.Args.length<=a1_x.Args.length)/\(Lt.preRArgs (z9++z6) ((a1_x.Args.drop 1).take (a1_x.Args.length - 1)))/\J3 (Lt.rArgs (z9++z6) ((a1_x.Args.drop 1).take (a1_x.Args.length - 1)))) else (joinP (α:=List (List UInt8)) (fun J7=>if (((Lt.rOf a1_x.Op).1).Named)=true then (((v2++z4).length+z6.length<=4611686018427387904/\((v2++z4).length+z6.length)*16<=140737488355328)/\J7 ((v2++z4)++z6)) else (J7 (v2++z4))) (fun v8=>(Lt.preRArgs v8 a1_x.Args)/\J3 (Lt.rArgs v8 a1_x.Args))))) (fun v4=>(Lt.preRPut a0_out v4)/\loopP (α:=List UInt8×Int) (fun R9 v10=>have z2:=((0:Int)<=v10.2/\v10.2.toNat<a1_x.Frames.length); have z1:=a1_x.Frames.getD v10.2.toNat default; (a1_x.Frames.length<=4611686018427387904->if (decide (v10.2 < (a1_x.Frames.length:Int)))=true then (joinP (α:=List (List UInt8)) (fun J11=>have z7:=z2/\(z2/\(Lt.preNum (z1.At))/\J11 [[97,116],z1.Func,z1.Block,(Lt.rNum (z1.At))])/\((Lt.preNum (z1.At))/\z2/\J11 [[97,116],z1.Func,z1.Block,(Lt.rNum (z1.At))]); z2/\z7/\z7/\((Lt.preNum (z1.At))/\z2/\z2/\J11 [[97,116],z1.Func,z1.Block,(Lt.rNum (z1.At))])) (fun v12=>loopP (α:=List (List UInt8)×Int) (fun R13 v14=>have z11:=((0:Int)<=v14.2/\v14.2.toNat < (z1.Vars).length); have z10:=(z1.Vars).getD v14.2.toNat default; have z3:=([z10.Name,(Lt.rWord (z10.A))]:List (List UInt8)); have z12:=v14.1.length+z3.length<=4611686018427387904/\(v14.1.length+z3.length)*16<=140737488355328; z2/\((z1.Vars).length<=4611686018427387904->if (decide (v14.2 < ((z1.Vars).length:Int)))=true then (joinP (α:=List (List UInt8)) (fun J15=>z2/\z11/\(z2/\z11/\(Lt.prePut (z10.A))/\z12/\J15 (v14.1++z3))/\((Lt.prePut (z10.A))/\z2/\z11/\z12/\J15 (v14.1++z3))) (fun v16=>R13 (v16,(IntKind.i64.wrap (v14.2+1))))) else ((Lt.preRPut v10.1 v14.1)/\R9 ((Lt.rPut v10.1 v14.1),(IntKind.i64.wrap (v10.2+1)))))) (v12,0))) else (loopP (α:=List UInt8×Int) (fun R17 v18=>have z8:=a1_x.Objs.getD v18.2.toNat default; (a1_x.Objs.length<=4611686018427387904->if (decide (v18.2 < (a1_x.Objs.length:Int)))=true then (joinP (α:=List UInt8) (fun J19=>have z5:=(((0:Int)<=v18.2/\v18.2.toNat<a1_x.Objs.length)/\(Lt.preRArgs [[111,98,106],z8.Class] (z8.Vals))/\(Lt.preRPut v18.1 (Lt.rArgs [[111,98,106],z8.Class] (z8.Vals)))/\J19 (Lt.rPut v18.1 (Lt.rArgs [[111,98,106],z8.Class] (z8.Vals)))); ((0:Int)<=v18.2/\v18.2.toNat<a1_x.Objs.length)/\z5/\z5) (fun v20=>R17 (v20,(IntKind.i64.wrap (v18.2+1))))) else (KK v18.1))) (v10.1,0)))) ((Lt.rPut a0_out v4),0)))
def F_rLines (a0_p:Lt.Program) (KK:(List UInt8)->Prop):Prop:=
 joinP (α:=List UInt8) (fun J1=>if a0_p.SSA=true then ((Lt.preRPut [] [[115,115,97]])/\J1 (Lt.rPut [] [[115,115,97]])) else (J1 [])) (fun v2=>loopP (α:=List UInt8×Int) (fun R3 v4=>have z15:=((0:Int)<=v4.2/\v4.2.toNat<a0_p.Classes.length); have z7:=a0_p.Classes.getD v4.2.toNat default; have z13:=Lt.rPut v4.1 [[99,108,97,115,115],z7.Name]; (a0_p.Classes.length<=4611686018427387904->if (decide (v4.2 < (a0_p.Classes.length:Int)))=true then (joinP (α:=List UInt8) (fun J5=>have z6:=(z15/\(Lt.preRPut v4.1 [[99,108,97,115,115],z7.Name])/\(Lt.preRVars z13 [102,105,101,108,100] (z7.Fields))/\J5 (Lt.rVars z13 [102,105,101,108,100] (z7.Fields))); z15/\(((Lt.preRPut v4.1 [[99,108,97,115,115],z7.Name])/\z15/\(Lt.preRVars z13 [102,105,101,108,100] (z7.Fields))/\J5 (Lt.rVars z13 [102,105,101,108,100] (z7.Fields)))/\z6)/\z6) (fun v6=>R3 (v6,(IntKind.i64.wrap (v4.2+1))))) else ((Lt.preRVars v4.1 [103,108,111,98,97,108] a0_p.Globals)/\loopP (α:=List UInt8×Int) (fun R7 v8=>have z16:=((0:Int)<=v8.2/\v8.2.toNat<a0_p.Externs.length); have z8:=a0_p.Externs.getD v8.2.toNat default; have z21:=Lt.rPut v8.1 [[101,120,116,101,114,110],z8.Name,(Lt.rNum (z8.N))]; have z20:=Lt.preRPut v8.1 [[101,120,116,101,114,110],z8.Name,(Lt.rNum (z8.N))]; (a0_p.Externs.length<=4611686018427387904->if (decide (v8.2 < (a0_p.Externs.length:Int)))=true then (joinP (α:=List UInt8) (fun J9=>z16/\(z16/\(Lt.preNum (z8.N))/\z20/\J9 z21)/\((Lt.preNum (z8.N))/\z16/\z20/\J9 z21)) (fun v10=>R7 (v10,(IntKind.i64.wrap (v8.2+1))))) else (loopP (α:=List UInt8×Int) (fun R11 v12=>have z1:=a0_p.Funcs.getD v12.2.toNat default; have z14:=Lt.rPut v12.1 [[102,117,110,99],z1.Name,z1.Result]; have z12:=Lt.preRPut v12.1 [[102,117,110,99],z1.Name,z1.Result]; have z10:=Lt.rVars z14 [112,97,114,97,109] (z1.Params); (a0_p.Funcs.length<=4611686018427387904->if (decide (v12.2 < (a0_p.Funcs.length:Int)))=true then (((0:Int)<=v12.2/\v12.2.toNat<a0_p.Funcs.length)/\joinP (α:=List UInt8) (fun J13=>have z3:=(Lt.preRVars z14 [112,97,114,97,109] (z1.Params))/\(Lt.preRVars z10 [118,97,114] (z1.Vars))/\J13 (Lt.rVars z10 [118,97,114] (z1.Vars)); have z2:=z12/\(Lt.preRVars z14 [112,97,114,97,109] (z1.Params))/\(Lt.preRVars z10 [118,97,114] (z1.Vars))/\J13 (Lt.rVars z10 [118,97,114] (z1.Vars)); ((z12/\z3/\z3)/\((z12/\z3/\z3)/\z2)/\(z2/\z2))/\(((z12/\z3/\z3)/\z2)/\z2)/\((z2/\z2)/\z2)) (fun v14=>loopP (α:=List UInt8×Int) (fun R15 v16=>have z4:=(z1.Blocks).getD v16.2.toNat default; have z22:=Lt.Term.mk ((z4.End).Kind) ((z4.End).A) ((z4.End).To) ((z4.End).N); ((z1.Blocks).length<=4611686018427387904->if (decide (v16.2 < ((z1.Blocks).length:Int)))=true then (((0:Int)<=v16.2/\v16.2.toNat < (z1.Blocks).length)/\(Lt.preRPut v16.1 [[98,108,111,99,107],z4.Name])/\loopP (α:=List UInt8×Int) (fun R17 v18=>have z11:=((0:Int)<=v18.2/\v18.2.toNat < (z4.Phis).length); have z9:=((z4.Phis).getD v18.2.toNat default).Ins; ((z4.Phis).length<=4611686018427387904->if (decide (v18.2 < ((z4.Phis).length:Int)))=true then (z11/\loopP (α:=List (List UInt8)×Int) (fun R19 v20=>have z19:=z9.getD v20.2.toNat default; have z18:=((0:Int)<=v20.2/\v20.2.toNat<z9.length); have z5:=([z19.Block,(Lt.rWord (z19.A))]:List (List UInt8)); have z17:=v20.1.length+z5.length<=4611686018427387904/\(v20.1.length+z5.length)*16<=140737488355328; z11/\(z9.length<=4611686018427387904->if (decide (v20.2 < (z9.length:Int)))=true then (joinP (α:=List (List UInt8)) (fun J21=>z11/\z18/\(z11/\z18/\(Lt.prePut (z19.A))/\z17/\J21 (v20.1++z5))/\((Lt.prePut (z19.A))/\z11/\z18/\z17/\J21 (v20.1++z5))) (fun v22=>R19 (v22,(IntKind.i64.wrap (v20.2+1))))) else ((Lt.preRPut v18.1 v20.1)/\R17 ((Lt.rPut v18.1 v20.1),(IntKind.i64.wrap (v18.2+1)))))) ([[112,104,105],((z4.Phis).getD v18.2.toNat default).Dst],0)) else (loopP (α:=List UInt8×Int) (fun R23 v24=>((z4.Code).length<=4611686018427387904->if (decide (v24.2 < ((z4.Code).length:Int)))=true then (((0:Int)<=v24.2/\v24.2.toNat < (z4.Code).length)/\(Lt.preRCode v24.1 ((z4.Code).getD v24.2.toNat default))/\R23 ((Lt.rCode v24.1 ((z4.Code).getD v24.2.toNat default)),(IntKind.i64.wrap (v24.2+1)))) else ((Lt.preREnds v24.1 z22)/\R15 ((Lt.rEnds v24.1 z22),(IntKind.i64.wrap (v16.2+1)))))) (v18.1,0)))) ((Lt.rPut v16.1 [[98,108,111,99,107],z4.Name]),0)) else (R11 (v16.1,(IntKind.i64.wrap (v12.2+1)))))) (v14,0))) else (KK v12.1))) (v8.1,0)))) ((Lt.rVars v4.1 [103,108,111,98,97,108] a0_p.Globals),0)))) (v2,0))
def F_right8 (a0_f:Lt.Func) (KK:Bool->Prop):Prop:=
 loopP (α:=Int) (fun R1 v2=>have z1:=((a0_f.Blocks.getD v2.toNat default).End).To; (a0_f.Blocks.length<=4611686018427387904->if (decide (v2 < (a0_f.Blocks.length:Int)))=true then (((0:Int)<=v2/\v2.toNat<a0_f.Blocks.length)/\if (!decide ((Lt.place8 a0_f ((a0_f.Blocks.getD v2.toNat default).Name)).1=v2))=true then (KK false) else (((0:Int)<=v2/\v2.toNat<a0_f.Blocks.length)/\loopP (α:=Int) (fun R3 v4=>(z1.length<=4611686018427387904->if (decide (v4 < (z1.length:Int)))=true then (((0:Int)<=v4/\v4.toNat<z1.length)/\joinP (α:=Bool) (fun J5=>if (!((Lt.place8 a0_f (z1.getD v4.toNat default)).2))=true then (J5 true) else (J5 (decide ((Lt.place8 a0_f (z1.getD v4.toNat default)).1=0)))) (fun v6=>if v6=true then (KK false) else (loopP (α:=Int) (fun R7 v8=>if (decide (v8<v4))=true then (((0:Int)<=v8/\v8.toNat<z1.length)/\((0:Int)<=v4/\v4.toNat<z1.length)/\if (decide ((z1.getD v8.toNat default)=(z1.getD v4.toNat default)))=true then (KK false) else (R7 (IntKind.i64.wrap (v8+1)))) else (R3 (IntKind.i64.wrap (v4+1)))) 0))) else (R1 (IntKind.i64.wrap (v2+1))))) 0)) else ((Lt.preR8 a0_f)/\(∀ y9:List Bool,Lt.postCome8 a0_f y9->loopP (α:=Int) (fun R10 v11=>(y9.length<=4611686018427387904->if (decide (v11 < (y9.length:Int)))=true then (((0:Int)<=v11/\v11.toNat<y9.length)/\if (!(y9.getD v11.toNat default))=true then (KK false) else (R10 (IntKind.i64.wrap (v11+1)))) else ((y9.length<=4611686018427387904->KK (decide (0 < (y9.length:Int))))))) 0)))) 0
def F_few8 (a0_f:Lt.Func) (KK:Bool->Prop):Prop:=
 (a0_f.Blocks.length<=4611686018427387904->if (decide (60 < (a0_f.Blocks.length:Int)))=true then (KK false) else (loopP (α:=Int) (fun R1 v2=>(a0_f.Blocks.length<=4611686018427387904->if (decide (v2 < (a0_f.Blocks.length:Int)))=true then (joinP (α:=Bool) (fun J3=>((0:Int)<=v2/\v2.toNat<a0_f.Blocks.length)/\((((a0_f.Blocks.getD v2.toNat default).End).To).length<=4611686018427387904->if (decide (8 < ((((a0_f.Blocks.getD v2.toNat default).End).To).length:Int)))=true then (J3 true) else (((0:Int)<=v2/\v2.toNat<a0_f.Blocks.length)/\J3 (decide (40 < (((a0_f.Blocks.getD v2.toNat default).Phis).length:Int)))))) (fun v4=>if v4=true then (KK false) else (loopP (α:=Int) (fun R5 v6=>((0:Int)<=v2/\v2.toNat<a0_f.Blocks.length)/\(((a0_f.Blocks.getD v2.toNat default).Phis).length<=4611686018427387904->if (decide (v6 < (((a0_f.Blocks.getD v2.toNat default).Phis).length:Int)))=true then (((0:Int)<=v2/\v2.toNat<a0_f.Blocks.length)/\((0:Int)<=v6/\v6.toNat < ((a0_f.Blocks.getD v2.toNat default).Phis).length)/\(((((a0_f.Blocks.getD v2.toNat default).Phis).getD v6.toNat default).Ins).length<=4611686018427387904->if (decide (60 < (((((a0_f.Blocks.getD v2.toNat default).Phis).getD v6.toNat default).Ins).length:Int)))=true then (KK false) else (R5 (IntKind.i64.wrap (v6+1))))) else (R1 (IntKind.i64.wrap (v2+1))))) 0))) else (KK true))) 0))
def F_few17 (a0_f:Lt.Func) (KK:Bool->Prop):Prop:=
 joinP (α:=Bool) (fun J1=>(Lt.preFF a0_f 3000)/\if (decide ((Lt.FewFunc a0_f 3000)<=3000))=true then (if (Lt.few8 a0_f)=true then (if (decide ((a0_f.Blocks.length:Int)<=40))=true then (if (decide ((IntKind.i64.wrap ((a0_f.Params.length:Int)+(a0_f.Vars.length:Int)))<=100))=true then ((Lt.preR8 a0_f)/\(∀ y3:Bool,Lt.postRight8 a0_f y3->J1 y3)) else (J1 false)) else (J1 false)) else (J1 false)) else (J1 false)) (fun v2=>KK v2)
def F_spPlace (a0_f:Lt.Func) (a1_name:List UInt8) (KK:(Int×Bool)->Prop):Prop:=
 (a0_f.Blocks.length<=4611686018427387904->loopP (α:=Int) (fun R1 v2=>if (decide (v2 < (a0_f.Blocks.length:Int)))=true then (((0:Int)<=v2/\v2.toNat<a0_f.Blocks.length)/\if (decide ((a0_f.Blocks.getD v2.toNat default).Name=a1_name))=true then (KK (v2,true)) else (R1 (IntKind.i64.wrap (v2+1)))) else (KK (0,false))) 0)
def F_flOf (a0_f:Lt.Func) (KK:(List (List Int))->Prop):Prop:=
 have z3:=(a0_f.Blocks.length:Int); (a0_f.Blocks.length<=4611686018427387904->((0:Int)<=z3/\z3<=4611686018427387904/\24*z3.toNat<=281474976710656)/\(a0_f.Blocks.length<=4611686018427387904->loopP (α:=List (List Int)×Int) (fun R1 v2=>have z1:=((a0_f.Blocks.getD v2.2.toNat default).End).To; if (decide (v2.2<z3))=true then (((0:Int)<=v2.2/\v2.2.toNat<a0_f.Blocks.length)/\(z1.length<=4611686018427387904->loopP (α:=List (List Int)×Int) (fun R3 v4=>have z2:=Lt.spPlace a0_f (z1.getD v4.2.toNat default); if (decide (v4.2 < (z1.length:Int)))=true then (joinP (α:=List (List Int)) (fun J5=>((0:Int)<=v4.2/\v4.2.toNat<z1.length)/\if (z2.2)=true then (((0:Int)<=v2.2/\v2.2 < ((v4.1.length:Nat):Int))/\((v4.1.getD v2.2.toNat []).length+([z2.1]:List Int).length<=4611686018427387904/\((v4.1.getD v2.2.toNat []).length+([z2.1]:List Int).length)*8<=140737488355328)/\((0:Int)<=v2.2/\v2.2 < ((v4.1.length:Nat):Int))/\v2.2.toNat<v4.1.length/\v2.2.toNat=v2.2.toNat/\J5 (v4.1.set v2.2.toNat ((v4.1.getD v2.2.toNat [])++([z2.1]:List Int)))) else (J5 v4.1)) (fun v6=>R3 (v6,(IntKind.i64.wrap (v4.2+1))))) else (R1 (v4.1,(IntKind.i64.wrap (v2.2+1))))) (v2.1,0))) else (KK v2.1)) ((List.replicate z3.toNat (dflt (.sl (.i .i64)))),0)))
def F_hasInt (a0_s:List Int) (a1_v:Int) (KK:Bool->Prop):Prop:=
 KK (decide (0<=(Lt.ixInt a0_s a1_v)))
def F_ixInt (a0_s:List Int) (a1_v:Int) (KK:Int->Prop):Prop:=
 (a0_s.length<=4611686018427387904->loopP (α:=Int) (fun R1 v2=>if (decide (v2 < (a0_s.length:Int)))=true then (((0:Int)<=v2/\v2.toNat<a0_s.length)/\if (decide (a1_v=(a0_s.getD v2.toNat default)))=true then (KK v2) else (R1 (IntKind.i64.wrap (v2+1)))) else (KK (-1))) 0)
def F_flPreds (a0_g:List (List Int)) (KK:(List (List Int))->Prop):Prop:=
 (a0_g.length<=4611686018427387904->((0:Int)<=(a0_g.length:Int)/\(a0_g.length:Int)<=4611686018427387904/\24*(a0_g.length:Int).toNat<=281474976710656)/\(a0_g.length<=4611686018427387904->loopP (α:=List (List Int)×Int) (fun R1 v2=>have z3:=a0_g.getD v2.2.toNat []; if (decide (v2.2 < (a0_g.length:Int)))=true then (((0:Int)<=v2.2/\v2.2.toNat<a0_g.length)/\(z3.length<=4611686018427387904->loopP (α:=List (List Int)×Int) (fun R3 v4=>have z1:=z3.getD v4.2.toNat default; have z2:=((0:Int)<=z1/\z1 < ((v4.1.length:Nat):Int)); if (decide (v4.2 < (z3.length:Int)))=true then (joinP (α:=List (List Int)) (fun J5=>((0:Int)<=v4.2/\v4.2.toNat<z3.length)/\joinP (α:=Bool) (fun J7=>if (decide (0<=z1))=true then (if (decide (z1 < (a0_g.length:Int)))=true then (z2/\True/\J7 (!(Lt.hasInt (v4.1.getD z1.toNat []) v2.2))) else (J7 false)) else (J7 false)) (fun v8=>if v8=true then (z2/\((v4.1.getD z1.toNat []).length+([v2.2]:List Int).length<=4611686018427387904/\((v4.1.getD z1.toNat []).length+([v2.2]:List Int).length)*8<=140737488355328)/\z2/\z1.toNat<v4.1.length/\z1.toNat=z1.toNat/\J5 (v4.1.set z1.toNat ((v4.1.getD z1.toNat [])++([v2.2]:List Int)))) else (J5 v4.1))) (fun v6=>R3 (v6,(IntKind.i64.wrap (v4.2+1))))) else (R1 (v4.1,(IntKind.i64.wrap (v2.2+1))))) (v2.1,0))) else (KK v2.1)) ((List.replicate (a0_g.length:Int).toNat (dflt (.sl (.i .i64)))),0)))
def F_spWays (a0_f:Lt.Func) (KK:(List Lt.way)->Prop):Prop:=
 (Lt.preOf a0_f)/\(Lt.prePreds (Lt.flOf a0_f))/\(a0_f.Blocks.length<=4611686018427387904->loopP (α:=List Lt.way×Int) (fun R1 v2=>have z2:=((a0_f.Blocks.getD v2.2.toNat default).End).To; if (decide (v2.2 < (a0_f.Blocks.length:Int)))=true then (joinP (α:=List Lt.way) (fun J3=>((0:Int)<=v2.2/\v2.2.toNat<a0_f.Blocks.length)/\(z2.length<=4611686018427387904->if (decide ((z2.length:Int) < 2))=true then (J3 v2.1) else ((z2.length<=4611686018427387904->loopP (α:=List Lt.way×Int) (fun R5 v6=>have z1:=Lt.spPlace a0_f (z2.getD v6.2.toNat default); have z3:=([(Lt.way.mk v2.2 v6.2 (z1.1))]:List Lt.way); if (decide (v6.2 < (z2.length:Int)))=true then (joinP (α:=List Lt.way) (fun J7=>((0:Int)<=v6.2/\v6.2.toNat<z2.length)/\joinP (α:=Bool) (fun J9=>if (z1.2)=true then (((0:Int)<=z1.1/\(z1.1).toNat < (Lt.flPreds (Lt.flOf a0_f)).length)/\J9 (decide (1 < (((Lt.flPreds (Lt.flOf a0_f)).getD (z1.1).toNat []).length:Int)))) else (J9 false)) (fun v10=>if v10=true then ((v6.1.length+z3.length<=4611686018427387904/\(v6.1.length+z3.length)*24<=140737488355328)/\J7 (v6.1++z3)) else (J7 v6.1))) (fun v8=>R5 (v8,(IntKind.i64.wrap (v6.2+1))))) else (J3 v6.1)) (v2.1,0))))) (fun v4=>R1 (v4,(IntKind.i64.wrap (v2.2+1))))) else (KK v2.1)) ([],0))
def F_spAll (a0_f:Lt.Func) (KK:Lt.Func->Prop):Prop:=
 (a0_f.Blocks.length<=4611686018427387904->loopP (α:=Int×List ((List UInt8)×Bool)) (fun R1 v2=>if (decide (v2.1 < (a0_f.Blocks.length:Int)))=true then (((0:Int)<=v2.1/\v2.1.toNat<a0_f.Blocks.length)/\R1 ((IntKind.i64.wrap (v2.1+1)),(insE .s v2.2 ((a0_f.Blocks.getD v2.1.toNat default).Name) true))) else ((([a0_f.Params,a0_f.Vars]:List _).length<=4611686018427387904->loopP (α:=Int×List ((List UInt8)×Bool)) (fun R3 v4=>have z7:=[a0_f.Params,a0_f.Vars].getD v4.1.toNat []; if (decide (v4.1 < (([a0_f.Params,a0_f.Vars]:List _).length:Int)))=true then (((0:Int)<=v4.1/\v4.1 < (([a0_f.Params,a0_f.Vars].length:Nat):Int))/\(z7.length<=4611686018427387904->loopP (α:=Int×List ((List UInt8)×Bool)) (fun R5 v6=>if (decide (v6.1 < (z7.length:Int)))=true then (((0:Int)<=v6.1/\v6.1.toNat<z7.length)/\R5 ((IntKind.i64.wrap (v6.1+1)),(insE .s v6.2 ((z7.getD v6.1.toNat default).Name) true))) else (R3 ((IntKind.i64.wrap (v4.1+1)),v6.2))) (0,v4.2))) else ((Lt.preWays a0_f)/\Lt.preCopied a0_f.Blocks/\((Lt.spWays a0_f).length<=4611686018427387904->loopP (α:=Int×List ((List UInt8)×Bool)×Lt.Func) (fun R7 v8=>have z11:=((v8.2.2.Blocks.length:Nat):Int); have z1:=(Lt.spWays a0_f).getD v8.1.toNat default; have z10:=v8.2.2.Blocks.getD (z1.to).toNat default; if (decide (v8.1 < ((Lt.spWays a0_f).length:Int)))=true then (((0:Int)<=v8.1/\v8.1.toNat < (Lt.spWays a0_f).length)/\loopP (α:=Int) (fun R9 v10=>have z8:=[115]++(Lt.numPut v10); have z4:=([(Lt.Block.mk z8 [] [] (Lt.Term.mk 1 (Lt.Arg.mk 0 ([]:List UInt8) 0) [z10.Name] 0))]:List Lt.Block); (Lt.preNum v10)/\[115].length+(Lt.numPut v10).length<=4611686018427387904/\if (!((lookE (β:=Bool) .s v8.2.1 z8).getD (dflt .bo)))=true then (((0:Int)<=z1.from_/\z1.from_<z11)/\((0:Int)<=z1.to/\z1.to<z11)/\((0:Int)<=z1.to/\z1.to<z11)/\((z10.Phis).length<=4611686018427387904->loopP (α:=Int×Lt.Func) (fun R11 v12=>have z9:=(v12.2.Blocks.getD (z1.to).toNat default).Phis; have z5:=v12.2.Blocks.getD (z1.from_).toNat default; have z2:=v12.2.Blocks.set (z1.from_).toNat (Lt.Block.mk (z5.Name) (z5.Phis) (z5.Code) (Lt.Term.mk ((z5.End).Kind) ((z5.End).A) (((z5.End).To).set (z1.at_).toNat z8) ((z5.End).N))); if (decide (v12.1 < ((z10.Phis).length:Int)))=true then (((0:Int)<=v12.1/\v12.1 < ((z9.length:Nat):Int))/\(((z9.getD v12.1.toNat default).Ins).length<=4611686018427387904->loopP (α:=Int×Lt.Func) (fun R13 v14=>have z3:=v14.2.Blocks.getD (z1.to).toNat default; have z12:=((0:Int)<=v12.1/\v12.1 < (((z3.Phis).length:Nat):Int)); have z6:=(z3.Phis).getD v12.1.toNat default; if (decide (v14.1 < (((z9.getD v12.1.toNat default).Ins).length:Int)))=true then (joinP (α:=Lt.Func) (fun J15=>z12/\((0:Int)<=v14.1/\v14.1 < (((z6.Ins).length:Nat):Int))/\if (decide (((z6.Ins).getD v14.1.toNat default).Block=(v8.2.2.Blocks.getD (z1.from_).toNat default).Name))=true then (z12/\((0:Int)<=v14.1/\v14.1 < (((z6.Ins).length:Nat):Int))/\(z1.to).toNat<v14.2.Blocks.length/\v12.1.toNat < (z3.Phis).length/\v14.1.toNat < (z6.Ins).length/\J15 (Lt.Func.mk v14.2.Name v14.2.Result v14.2.Params v14.2.Vars (v14.2.Blocks.set (z1.to).toNat (Lt.Block.mk (z3.Name) ((z3.Phis).set v12.1.toNat (Lt.Phi.mk (z6.Dst) ((z6.Ins).set v14.1.toNat (Lt.In.mk z8 (((z6.Ins).getD v14.1.toNat default).A))))) (z3.Code) (Lt.Term.mk ((z3.End).Kind) ((z3.End).A) ((z3.End).To) ((z3.End).N)))))) else (J15 v14.2)) (fun v16=>R13 ((IntKind.i64.wrap (v14.1+1)),v16))) else (R11 ((IntKind.i64.wrap (v12.1+1)),v14.2))) (0,v12.2))) else (((0:Int)<=z1.from_/\z1.from_ < ((v12.2.Blocks.length:Nat):Int))/\((0:Int)<=z1.at_/\z1.at_ < ((((z5.End).To).length:Nat):Int))/\(z1.from_).toNat<v12.2.Blocks.length/\(z1.at_).toNat < ((z5.End).To).length/\(z2.length+z4.length<=4611686018427387904/\(z2.length+z4.length)*136<=140737488355328)/\R7 ((IntKind.i64.wrap (v8.1+1)),(insE .s v8.2.1 z8 true),(Lt.Func.mk v12.2.Name v12.2.Result v12.2.Params v12.2.Vars (z2++z4))))) (0,v8.2.2))) else (R9 (IntKind.i64.wrap (v10+1)))) 0) else (KK v8.2.2)) (0,v4.2,a0_f)))) (0,v2.2)))) (0,[]))
def F_SplitKeeps (a0_f:Lt.Func) (KK:Bool->Prop):Prop:=
 have z7:=Lt.Program.mk false [] [] [] [a0_f]; joinP (α:=Bool) (fun J1=>if (!Lt.awake17)=true then (J1 true) else ((Lt.preFew17 a0_f)/\(∀ y3:Bool,Lt.postFew17 a0_f y3->J1 (!y3)))) (fun v2=>if v2=true then (KK Lt.awake17) else ((Lt.preRLines z7)/\(Lt.preAll a0_f)/\loopP (α:=Int×Lt.Func) (fun R4 v5=>(v5.2.Blocks.length<=4611686018427387904->if (decide (v5.1 < (v5.2.Blocks.length:Int)))=true then (loopP (α:=Int×Lt.Func) (fun R6 v7=>((0:Int)<=v5.1/\v5.1 < ((v7.2.Blocks.length:Nat):Int))/\(((v7.2.Blocks.getD v5.1.toNat default).Phis).length<=4611686018427387904->if (decide (v7.1 < (((v7.2.Blocks.getD v5.1.toNat default).Phis).length:Int)))=true then (loopP (α:=Int×Lt.Func) (fun R8 v9=>have z5:=((0:Int)<=v5.1/\v5.1 < ((v9.2.Blocks.length:Nat):Int)); have z1:=v9.2.Blocks.getD v5.1.toNat default; have z8:=Lt.Term.mk ((z1.End).Kind) ((z1.End).A) ((z1.End).To) ((z1.End).N); have z6:=((0:Int)<=v7.1/\v7.1 < (((z1.Phis).length:Nat):Int)); have z3:=((z1.Phis).getD v7.1.toNat default).Ins; z5/\z6/\(z3.length<=4611686018427387904->if (decide (v9.1 < (z3.length:Int)))=true then (z5/\z6/\((0:Int)<=v9.1/\v9.1 < ((z3.length:Nat):Int))/\v5.1.toNat<v9.2.Blocks.length/\v7.1.toNat < (z1.Phis).length/\v9.1.toNat<z3.length/\R8 ((IntKind.i64.wrap (v9.1+1)),(Lt.Func.mk v9.2.Name v9.2.Result v9.2.Params v9.2.Vars (v9.2.Blocks.set v5.1.toNat (Lt.Block.mk (z1.Name) ((z1.Phis).set v7.1.toNat (Lt.Phi.mk (((z1.Phis).getD v7.1.toNat default).Dst) (z3.set v9.1.toNat (Lt.In.mk [115,112,111,105,108,116] ((z3.getD v9.1.toNat default).A))))) (z1.Code) z8))))) else (z5/\z6/\v5.1.toNat<v9.2.Blocks.length/\v7.1.toNat < (z1.Phis).length/\R6 ((IntKind.i64.wrap (v7.1+1)),(Lt.Func.mk v9.2.Name v9.2.Result v9.2.Params v9.2.Vars (v9.2.Blocks.set v5.1.toNat (Lt.Block.mk (z1.Name) ((z1.Phis).set v7.1.toNat (Lt.Phi.mk [115,112,111,105,108,116] z3)) (z1.Code) z8))))))) (0,v7.2)) else (loopP (α:=Int×Lt.Func) (fun R10 v11=>have z4:=((0:Int)<=v5.1/\v5.1 < ((v11.2.Blocks.length:Nat):Int)); have z2:=v11.2.Blocks.getD v5.1.toNat default; z4/\(((z2.End).To).length<=4611686018427387904->if (decide (v11.1 < (((z2.End).To).length:Int)))=true then (z4/\((0:Int)<=v11.1/\v11.1 < ((((z2.End).To).length:Nat):Int))/\v5.1.toNat<v11.2.Blocks.length/\v11.1.toNat < ((z2.End).To).length/\R10 ((IntKind.i64.wrap (v11.1+1)),(Lt.Func.mk v11.2.Name v11.2.Result v11.2.Params v11.2.Vars (v11.2.Blocks.set v5.1.toNat (Lt.Block.mk (z2.Name) (z2.Phis) (z2.Code) (Lt.Term.mk ((z2.End).Kind) ((z2.End).A) (((z2.End).To).set v11.1.toNat [115,112,111,105,108,116]) ((z2.End).N))))))) else (z4/\v5.1.toNat<v11.2.Blocks.length/\R4 ((IntKind.i64.wrap (v5.1+1)),(Lt.Func.mk v11.2.Name v11.2.Result v11.2.Params v11.2.Vars (v11.2.Blocks.set v5.1.toNat (Lt.Block.mk [115,112,111,105,108,116] (z2.Phis) (z2.Code) (Lt.Term.mk ((z2.End).Kind) ((z2.End).A) ((z2.End).To) ((z2.End).N))))))))) (0,v7.2)))) (0,v5.2)) else ((Lt.preRLines z7)/\KK (decide ((Lt.rLines z7)=(Lt.rLines z7)))))) (0,(Lt.spAll a0_f))))
end Go.Am
end
