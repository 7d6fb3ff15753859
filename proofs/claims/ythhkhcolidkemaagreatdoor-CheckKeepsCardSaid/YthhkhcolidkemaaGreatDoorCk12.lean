/-
  Part 12: AmLay · AmNiceM · AmNice14 · AmNice14b · AmNice14c · AmNice14d · AmG23 · AmG22 · AmG18c · AmG16 · AmG15 · AmG14 · AmLoopE · AmL20 · AmL21 · AmL22 · AmL23 · AmG17 · AmL24 · AmL25.
-/
import Derived.Test.YthhkhcolidkemaaGreatDoorCk11
import Derived.Shelf.Small.Strs
import Derived.Shelf.Small.Wraps
import Derived.Shelf.Strings.Cut
import Derived.Shelf.Strings.Split
import Derived.Test.YthhkhcolidkemaaGreatDoorProg
set_option linter.unusedSimpArgs false
set_option linter.unusedVariables false
set_option linter.unusedSectionVars false
set_option linter.unnecessarySimpa false
open Lt
open Go.Proofs.Tryz
open Go.IntKind (i64)
section
namespace Go.Proofs
open Go.Shelf
def Tryz.lays137_ren:Go.Shelf.Ren:=⟨fun|137=>265|217=>228|266=>243|n=>n,fun|9=>9|5=>5|3=>3|n=>n,fun|n=>n⟩
theorem Tryz.lays137:Go.Proofs.Lays.n137 prog Tryz.lays137_ren:={
 mixed:=by kernel_rfl
 f137:=func265.trans (congrArg some kQ0)
 f217:=func228.trans (congrArg some kQ0)
 f266:=func243.trans (congrArg some kQ0)
 t3:=underlying3
 a3:=isAgg3
 z3:=sizeOf3
 v3:=zeroValue3
 t5:=underlying5
 a5:=isAgg5
 z5:=sizeOf5
 v5:=zeroValue5
 t9:=underlying9
 a9:=isAgg9
 z9:=sizeOf9
 v9:=zeroValue9 }
open Go.RowKit in
theorem Tryz.strings_IndexByte(s:ByteArray)(c:Int)(w:World) :
  Calls prog 265 #[.string s,.int .u8 c] w fun e w'=>e=.returned (.int .i64 (Lib.indexByte s.data.toList c.toNat.toUInt8))/\w'=w:=Any.strings_IndexByte Tryz.lays137 s c w
def Tryz.lays103_ren:Go.Shelf.Ren:=⟨fun|103=>264|210=>272|206=>274|n=>n,fun|9=>9|4=>4|24=>161|3=>3|n=>n,fun|n=>n⟩
theorem Tryz.lays103:Go.Proofs.Lays.n103 prog Tryz.lays103_ren:={
 mixed:=by kernel_rfl
 f103:=func264.trans (congrArg some kQ0)
 f206:=func274.trans (congrArg some kQ0)
 f210:=func272.trans (congrArg some kQ0)
 t3:=underlying3
 a3:=isAgg3
 z3:=sizeOf3
 v3:=zeroValue3
 t4:=underlying4
 a4:=isAgg4
 z4:=sizeOf4
 v4:=zeroValue4
 t9:=underlying9
 a9:=isAgg9
 z9:=sizeOf9
 v9:=zeroValue9
 t24:=underlying161
 a24:=isAgg161
 z24:=sizeOf161
 v24:=zeroValue161 }
open Go.RowKit in
theorem Tryz.strings_CutPrefix(s p:ByteArray)(w:World) :
  Calls prog 264 #[.string s,.string p] w fun e w'=>e=.returned (.tuple #[.string ⟨(Lib.trimPrefix s.data.toList p.data.toList).toArray⟩,.bool (Lib.hasPrefix s.data.toList p.data.toList)])/\w'=w:=Any.strings_CutPrefix Tryz.lays103 s p w
def Tryz.lays145_ren:Go.Shelf.Ren:=⟨fun|145=>76|220=>130|219=>189|217=>228|225=>229|224=>230|267=>231|266=>243|314=>244|n=>n,fun|9=>9|4=>4|59=>128|3=>3|5=>5|46=>280|146=>286|51=>285|n=>n,fun|1=>1|n=>n⟩
theorem Tryz.lays145:Go.Proofs.Lays.n145 prog Tryz.lays145_ren:={
 mixed:=by kernel_rfl
 f145:=func76.trans (congrArg some kQ0)
 f217:=func228.trans (congrArg some kQ0)
 f219:=func189.trans (congrArg some kQ0)
 f220:=func130.trans (congrArg some kQ0)
 f224:=func230.trans (congrArg some kQ0)
 f225:=func229.trans (congrArg some kQ0)
 f266:=func243.trans (congrArg some kQ0)
 f267:=func231.trans (congrArg some kQ0)
 f314:=func244.trans (congrArg some kQ0)
 t3:=underlying3
 a3:=isAgg3
 z3:=sizeOf3
 v3:=zeroValue3
 t4:=underlying4
 a4:=isAgg4
 z4:=sizeOf4
 v4:=zeroValue4
 t5:=underlying5
 a5:=isAgg5
 z5:=sizeOf5
 v5:=zeroValue5
 t9:=underlying9
 a9:=isAgg9
 z9:=sizeOf9
 v9:=zeroValue9
 t46:=underlying280
 a46:=isAgg280
 z46:=sizeOf280
 v46:=zeroValue280
 t51:=underlying285
 a51:=isAgg285
 z51:=sizeOf285
 v51:=zeroValue285
 t59:=underlying128
 a59:=isAgg128
 z59:=sizeOf128
 v59:=zeroValue128
 t146:=underlying286
 a146:=isAgg286
 z146:=sizeOf286
 v146:=zeroValue286
 g1:=by kernel_rfl }
open Go.RowKit Go.Lib in
theorem Tryz.strings_Cut(s sep:ByteArray)(m:Int)(w:World)(hs:s.size < 4294967281)(hm:w.cell? ⟨1,0,none⟩=some (.int .i64 m)) :
  Calls prog 76 #[.string s,.string sep] w fun e w'=>e=.returned (.tuple #[.string ⟨(Lib.cut s.data.toList sep.data.toList).1.toArray⟩,.string ⟨(Lib.cut s.data.toList sep.data.toList).2.1.toArray⟩,.bool (Lib.cut s.data.toList sep.data.toList).2.2])/\∃n,w'=w.drewN n:=Any.strings_Cut Tryz.lays145 s sep m w hs hm
def Tryz.lays146_ren:Go.Shelf.Ren:=⟨fun|146=>75|221=>129|268=>186|138=>187|143=>188|195=>225|197=>226|218=>227|219=>189|260=>242|217=>228|225=>229|224=>230|267=>231|266=>243|314=>244|n=>n,fun|9=>9|31=>45|3=>3|4=>4|0=>0|105=>276|21=>21|5=>5|46=>280|119=>294|139=>297|138=>296|146=>286|51=>285|n=>n,fun|1=>1|3=>2|4=>3|n=>n⟩
theorem Tryz.lays146:Go.Proofs.Lays.n146 prog Tryz.lays146_ren:={
 mixed:=by kernel_rfl
 f138:=func187.trans (congrArg some kQ0)
 f143:=func188.trans (congrArg some kQ0)
 f146:=func75.trans (congrArg some kQ0)
 f195:=func225.trans (congrArg some kQ0)
 f197:=func226.trans (congrArg some kQ0)
 f217:=func228.trans (congrArg some kQ0)
 f218:=func227.trans (congrArg some kQ0)
 f219:=func189.trans (congrArg some kQ0)
 f221:=func129.trans (congrArg some kQ0)
 f224:=func230.trans (congrArg some kQ0)
 f225:=func229.trans (congrArg some kQ0)
 f260:=func242.trans (congrArg some kQ0)
 f266:=func243.trans (congrArg some kQ0)
 f267:=func231.trans (congrArg some kQ0)
 f268:=func186.trans (congrArg some kQ0)
 f314:=func244.trans (congrArg some kQ0)
 t0:=underlying0
 a0:=isAgg0
 z0:=sizeOf0
 v0:=zeroValue0
 t3:=underlying3
 a3:=isAgg3
 z3:=sizeOf3
 v3:=zeroValue3
 t4:=underlying4
 a4:=isAgg4
 z4:=sizeOf4
 v4:=zeroValue4
 t5:=underlying5
 a5:=isAgg5
 z5:=sizeOf5
 v5:=zeroValue5
 t9:=underlying9
 a9:=isAgg9
 z9:=sizeOf9
 v9:=zeroValue9
 t21:=underlying21
 a21:=isAgg21
 z21:=sizeOf21
 v21:=zeroValue21
 t31:=underlying45
 a31:=isAgg45
 z31:=sizeOf45
 v31:=zeroValue45
 t46:=underlying280
 a46:=isAgg280
 z46:=sizeOf280
 v46:=zeroValue280
 t51:=underlying285
 a51:=isAgg285
 z51:=sizeOf285
 v51:=zeroValue285
 t105:=underlying276
 a105:=isAgg276
 z105:=sizeOf276
 v105:=zeroValue276
 t119:=underlying294
 a119:=isAgg294
 z119:=sizeOf294
 t138:=underlying296
 a138:=isAgg296
 z138:=sizeOf296
 v138:=zeroValue296
 t139:=underlying297
 a139:=isAgg297
 z139:=sizeOf297
 v139:=zeroValue297
 t146:=underlying286
 a146:=isAgg286
 z146:=sizeOf286
 v146:=zeroValue286
 g1:=by kernel_rfl
 g3:=by kernel_rfl
 g4:=by kernel_rfl }
open Go.RowKit Go.Lib in
theorem Tryz.strings_Split(s sep:ByteArray)(m:Int)(w:World)(hs:s.size < 4294967281)(hm:w.cell? ⟨1,0,none⟩=some (.int .i64 m))(h1:1<=sep.size) :
  Calls prog 75 #[.string s,.string sep] w fun e w'=>
   e=.returned (.slice (some ⟨w.heap.size,0,none⟩) (Lib.countB s sep+1) (Lib.countB s sep+1))/\w'=w.alloc (.cells ((Lib.splitB sep 0 (Lib.countB s sep) s).map Value.string).toArray 9):=Any.strings_Split Tryz.lays146 kQ0 s sep m w hs hm h1
end Go.Proofs
end

section
namespace Lt
open Go
def jw:Bool->List (List UInt8)->List UInt8
 |_,[]=>[]
 |b,w::r=>(if b then [32]else [])++w++jw true r
def OH(c:Int):Bool:=(((decide (97<=c))&&(decide (c<=122)))||((decide (65<=c))&&(decide (c<=90))))||(decide (c=95))
def letter(c:UInt8):Bool:=OH ((c.toNat:Nat):Int)
def pW(c:UInt8):Bool:=(decide (48<=((c.toNat:Nat):Int)))&&(decide (((c.toNat:Nat):Int)<=57))
def kept(s:List UInt8):Bool:=((decide (s=[110,117,108,108]))||(decide (s=[105,110,116])))||(decide (s=[102,108,111,97,116]))
def y9(c:UInt8):Bool:=letter c||pW c
def Name(s:List UInt8):Bool:=(!decide (s=[])&&decide (s.length<=16)&&letter (s.getD 0 0)&&!kept s)&&s.all y9
def kind(s:List UInt8):Bool:=((decide (s=[105,110,116]))||(decide (s=[102,108,111,97,116])))||Name s
def typed(l:List Var)(most:Int):Bool:=decide ((l.length:Int)<=most)&&l.all fun v=>Name v.Name&&kind v.Type_
def Plain(n:Int):Int:=
 if((decide ((i64.wrap ((BitVec.ofInt i64.bits n &&& BitVec.ofInt i64.bits 9218868437227405312).toNat:Nat))=9218868437227405312))&&(!decide ((i64.wrap ((BitVec.ofInt i64.bits n &&& BitVec.ofInt i64.bits 4503599627370495).toNat:Nat))=0)))=true then 9221120237041090560 else n
def mE(a:Arg):Bool:=
 if a.Kind=1 then Name a.S&&decide (a.N=0)
 else if a.Kind=2 then decide (a.S=[])
 else if a.Kind=3 then decide (a.S=[])&&decide (Plain a.N=a.N)
 else if a.Kind=4 then decide (a.S=[])&&decide (a.N=0)
 else if a.Kind=5 then(decide (a.S=[])&&decide (0<=a.N))&&decide (a.N<=999)
 else false
def ib(objs:Bool)(a:Arg):Bool:=mE a&&!(decide (a.Kind=5)&&!objs)
def cZ(l:List Arg)(objs:Bool):Bool:=l.all (ib objs)
def ur(b:Bind):Bool:=Name b.Name&&ib true b.A
def frame(f:Frame):Bool:=(Name f.Func&&Name f.Block&&decide (0<=f.At)&&decide (f.At<=1024)&&decide (f.Vars.length<=16))&&f.Vars.all ur
def virt(o:Virt):Bool:=Name o.Class&&decide (o.Vals.length<=8)&&cZ o.Vals true
def Q1(l:List UInt8):Nat->Int->Nat->Nat->List UInt8
 |0,_,_,_=>[]
 |k+1,n,f,i=>
  if i<l.length then
   if(((l.getD i 0).toNat:Nat):Int)=32 then
    if i64.wrap (n - 1)=0 then(l.drop (f+1)).take (i - (f+1))else Q1 l k (i64.wrap (n - 1)) i (i+1)
   else Q1 l k n f (i+1)
  else []
def nth(l:List UInt8)(n:Int):List UInt8:=Q1 l (l.length+1) n 0 1
def two:List UInt8:=32::97::100::100::32::115::117::98::32::109::117::108::32::100::105::118::32::114::101::109::32::97::110::100::32::111::114::32::120::111::114::32::115::104::108::32::115::104::114::32::101::113::32::110::101::32::108::116::32::108::101::32::102::97::100::100::32::102::115::117::98::32::102::109::117::108::32::102::100::105::118::32::102::101::113::32::102::108::116::32::102::108::101::32::[]
def Of(op:Int):Form×Bool:=
 if 1<=op/\op<=21 then(⟨nth two op,true,false,2,2⟩,true)
 else if 22<=op/\op<=24 then(⟨nth [32,105,116,111,102,32,102,116,111,105,32,109,111,118,32] (i64.wrap (op - 21)),true,false,1,1⟩,true)
 else if op=25 then(⟨[110,101,119],true,true,0,8⟩,true)
 else if op=26 then(⟨[108,111,97,100],true,true,1,1⟩,true)
 else if op=27 then(⟨[115,116,111,114,101],false,true,2,2⟩,true)
 else if op=28 then(⟨[115,97,109,101],true,false,2,2⟩,true)
 else if op=29 then(⟨[103,108,111,97,100],true,true,0,0⟩,true)
 else if op=30 then(⟨[103,115,116,111,114,101],false,true,1,1⟩,true)
 else if op=31 then(⟨[99,97,108,108],true,true,0,8⟩,true)
 else if op=32 then(⟨[101,120,116],true,true,0,8⟩,true)
 else if op=33 then(⟨[111,117,116],false,false,1,1⟩,true)
 else if op=34 then(⟨[103,117,97,114,100],false,false,0,0⟩,true)
 else(⟨[],false,false,0,0⟩,false)
def instr(i:Instr):Bool:=
 ((Of i.Op).2&&((Of i.Op).1.Dst==!decide (i.Dst=[]))&&((Of i.Op).1.Named==!decide (i.Name=[]))&&!((Of i.Op).1.Dst&&!Name i.Dst)&&!((Of i.Op).1.Named&&!Name i.Name))
 && (decide ((Of i.Op).1.Least<=(i.Args.length:Int))&&decide ((i.Args.length:Int)<=(Of i.Op).1.Most)&&cZ i.Args false&&decide (i.Frames.length<=16)&&decide (i.Objs.length<=99))
 && (if i.Op≠31/\i.Op≠34 then decide (i.Frames=[])&&decide (i.Objs=[])else i.Frames.all frame&&i.Objs.all virt)
def DL(i:In):Bool:=Name i.Block&&ib false i.A
def phi(x:Phi):Bool:=(Name x.Dst&&!decide (x.Ins=[])&&decide (x.Ins.length<=256))&&x.Ins.all DL
def OJ(a:Arg):Bool:=decide (a=⟨0,[],0⟩)
def tf(t:Term):Bool:=t.To.all Name &&
 (if t.Kind=1 then OJ t.A&&decide (t.To.length=1)&&decide (t.N=0)
  else if t.Kind=2 then ib false t.A&&decide (t.To.length=2)&&decide (t.N=0)
  else if t.Kind=3 then ib false t.A&&decide (t.To.length=0)&&decide (t.N=0)
  else if t.Kind=4 then OJ t.A&&decide (t.To.length=0)
  else false)
def block(b:Block):Bool:=(Name b.Name&&tf b.End)&&(b.Phis.all phi&&b.Code.all instr)
def blocks:List Block->Nat->Bool
 |[],_=>true
 |b::r,long=>(decide (long+(b.Phis.length+b.Code.length)<=1024)&&block b)&&blocks r (long+(b.Phis.length+b.Code.length))
def cG(f:Func):Bool:=(Name f.Name&&kind f.Result&&typed f.Params 6&&typed f.Vars 1024&&!decide (f.Blocks=[])&&decide (f.Blocks.length<=256))&&blocks f.Blocks 0
def qX(c:Class):Bool:=Name c.Name&&typed c.Fields 8
def kV(x:Extern):Bool:=Name x.Name&&decide (0<=x.N)&&decide (x.N<=8)
def dY(p:Program):Bool:=
 (decide (p.Classes.length<=8)&&decide (p.Externs.length<=8)&&decide (p.Funcs.length<=8)&&typed p.Globals 8) &&
 (p.Classes.all qX&&(p.Externs.all kV&&p.Funcs.all cG))
def digs(n:Nat):List UInt8:=if n < 10 then [UInt8.ofNat (48+n)]else digs (n / 10)++[UInt8.ofNat (48+n % 10)]
def Ea(n:Int):List UInt8:=(if n < 0 then [45]else [])++digs n.natAbs
abbrev plus(n:Int)(k:Nat):Int:=i64.wrap (n+(k:Int))
def upto(most n k:Int):Int:=if n<=most then i64.wrap (n+k)else n
def yl(most:Int):List Var->Int->Int
 |[],n=>n
 |v::r,n=>if n<=most then(let m:=plus n v.Name.length;yl most r (if m<=most then plus m v.Type_.length else m))else n
def bP(l:List Var)(most:Int):Int:=if most < (l.length:Int)then i64.wrap (most+1)else yl most l (l.length:Int)
def yk(most:Int):List Arg->Int->Int
 |[],n=>n
 |a::r,n=>if n<=most then yk most r (plus n a.S.length)else n
def dv(l:List Arg)(most:Int):Int:=if most < (l.length:Int)then i64.wrap (most+1)else yk most l (l.length:Int)
def ox(most:Int):List Bind->Int->Int
 |[],n=>n
 |b::r,n=>if n<=most then(let m:=plus (i64.wrap (n+1)) b.Name.length;ox most r (if m<=most then plus m b.A.S.length else m))else n
def kM(most:Int):List Frame->Int->Int
 |[],n=>n
 |f::r,n=>if n<=most then(let m:=plus n f.Func.length;kM most r (ox most f.Vars (if m<=most then plus m f.Block.length else m)))else n
def sC(most:Int):List Virt->Int->Int
 |[],n=>n
 |o::r,n=>if n<=most then(let m:=plus n o.Class.length;sC most r (if m<=most then i64.wrap (m+dv o.Vals most)else m))else n
def dJ(x:Instr)(most:Int):Int:=
 if(decide (most < (x.Frames.length:Int)))||(decide (most < (x.Objs.length:Int)))then i64.wrap (most+1)
 else
  sC most x.Objs (kM most x.Frames (upto most (upto most (plus (plus (plus 1 x.Dst.length) x.Frames.length) x.Objs.length) (x.Name.length:Int)) (dv x.Args most)))
def cTo(most:Int):List (List UInt8)->Int->Int
 |[],n=>n
 |t::r,n=>if n<=most then cTo most r (plus (i64.wrap (n+1)) t.length)else n
def Gy(most:Int):List In->Int->Int
 |[],n=>n
 |b::r,n=>if n<=most then(let m:=plus (i64.wrap (n+1)) b.Block.length;Gy most r (if m<=most then plus m b.A.S.length else m))else n
def sD(most:Int):List Phi->Int->Int
 |[],n=>n
 |x::r,n=>if n<=most then sD most r (Gy most x.Ins (plus (i64.wrap (n+1)) x.Dst.length))else n
def qc(most:Int):List Instr->Int->Int
 |[],n=>n
 |x::r,n=>if n<=most then qc most r (i64.wrap (n+dJ x most))else n
def dI(b:Block)(most:Int):Int:=
 if(decide (most < (b.Phis.length:Int)))||(decide (most < (b.Code.length:Int)))||(decide (most < (b.End.To.length:Int)))then i64.wrap (most+1)
 else
  qc most b.Code (sD most b.Phis (cTo most b.End.To (upto most (plus 1 b.Name.length) (b.End.A.S.length:Int))))
def mV(most:Int):List Block->Int->Int
 |[],n=>n
 |x::r,n=>if n<=most then mV most r (i64.wrap (n+dI x most))else n
def kG(f:Func)(most:Int):Int:=
 if most < (f.Blocks.length:Int)then i64.wrap (most+1)
 else
  mV most f.Blocks (upto most (upto most (upto most (plus 1 f.Name.length) (f.Result.length:Int)) (bP f.Params most)) (bP f.Vars most))
def jU(most:Int):List Class->Int->Int
 |[],n=>n
 |c::r,n=>if n<=most then(let m:=plus n c.Name.length;jU most r (if m<=most then i64.wrap (m+bP c.Fields most)else m))else n
def ii(most:Int):List Extern->Int->Int
 |[],n=>n
 |x::r,n=>if n<=most then ii most r (plus (i64.wrap (n+1)) x.Name.length)else n
def mW(most:Int):List Func->Int->Int
 |[],n=>n
 |x::r,n=>if n<=most then mW most r (i64.wrap (n+kG x most))else n
def Few(p:Program)(most:Int):Bool:=
 if(decide (50 < (p.Classes.length:Int)))||(decide (50 < (p.Externs.length:Int)))||(decide (50 < (p.Funcs.length:Int)))then false
 else decide (mW most p.Funcs (ii most p.Externs (jU most p.Classes (bP p.Globals most)))<=most)
def inR(n:Int):Prop:=-9223372036854775808<=n/\n < 9223372036854775808
def Arg.ok(a:Arg):Prop:=inR a.N
def Dn(l:List Arg):Prop:=∀a∈l,a.ok
def Bind.ok(b:Bind):Prop:=b.A.ok
def Frame.ok(f:Frame):Prop:=f.Vars.length<=4611686018427387904/\∀b∈f.Vars,b.ok
def Virt.ok(o:Virt):Prop:=Dn o.Vals
def Instr.ok(i:Instr):Prop:=Dn i.Args/\(∀f∈i.Frames,f.ok)/\(∀o∈i.Objs,o.ok)
def In.ok(i:In):Prop:=i.A.ok
def Phi.ok(x:Phi):Prop:=x.Ins.length<=4611686018427387904/\∀i∈x.Ins,i.ok
def Term.ok(t:Term):Prop:=t.A.ok/\inR t.N
def Block.ok(b:Block):Prop:=(∀x∈b.Phis,x.ok)/\(∀i∈b.Code,i.ok)/\b.End.ok
def Func.ok(f:Func):Prop:=∀b∈f.Blocks,b.ok
def Program.ok(p:Program):Prop:=∀f∈p.Funcs,f.ok
def room:Nat:=1099511627776
def fV(n:Int):Prop:=inR n
def kg(a:Arg):Prop:=a.ok
def U5(x:Instr)(most:Int):Prop:=x.ok/\most<=4611686018427387904
def U4(b:Block)(most:Int):Prop:=b.ok/\most<=4611686018427387904
def U6(f:Func)(most:Int):Prop:=f.ok/\most<=4611686018427387904
def Eh(p:Program)(most:Int):Prop:=p.ok/\most<=4611686018427387904
def Cu(n:Int):Int:=if n < 0 then IntKind.u64.wrap (0 - (IntKind.u64.wrap n))else IntKind.u64.wrap n
def iM(n:Int):List UInt8:=Ea n
def Et(n:Int):Bool:=decide (9218868437227405312 < (Int.tmod (IntKind.u64.wrap n) 9223372036854775808))
def oT(n:Int):Int:=if Et n=true then 9221120237041090560 else n
def ZA(x:Int):UInt8:=UInt8.ofNat (IntKind.u8.wrap ((IntKind.u8.wrap (Int.tmod x 16))+(if IntKind.u8.wrap (Int.tmod x 16) < 10 then 48 else 87))).toNat
def DJ:Nat->Int->List UInt8->List UInt8
 |0,_,l=>l
 |k+1,x,l=>DJ k (IntKind.u64.wrap (Int.tdiv x 16)) (ZA x::l)
def My(n:Int):List UInt8:=[48,102]++DJ 16 (IntKind.u64.wrap (oT n)) []
def u5(i:Nat)(c:UInt8):Bool:=
 !((((!(((decide (48<=((c.toNat:Nat):Int)))&&(decide (((c.toNat:Nat):Int)<=57)))&&(decide (0 < (i:Int)))))&&(!decide (((c.toNat:Nat):Int)=95)))&&((decide (((c.toNat:Nat):Int) < 65))||(decide (90 < ((c.toNat:Nat):Int)))))&&((decide (((c.toNat:Nat):Int) < 97))||(decide (122 < ((c.toNat:Nat):Int)))))
def zD(s:List UInt8):Bool:=((List.range s.length).all fun i=>u5 i (s.getD i 0)) &&
 (((((decide (1<=(s.length:Int)))&&(decide ((s.length:Int)<=16)))&&(!decide (s=[110,117,108,108])))&&(!decide (s=[105,110,116])))&&(!decide (s=[102,108,111,97,116])))
def zE(a:Arg):Bool:=
 if a.Kind=1 then zD a.S&&decide (a.N=0)
 else if(((decide (a.Kind < 1))||(decide (5<a.Kind)))||(!decide (a.S=[])))=true then false
 else(((decide (a.Kind=2))||((decide (a.Kind=3))&&(decide ((oT a.N)=a.N))))||((decide (a.Kind=4))&&(decide (a.N=0))))||(((decide (a.Kind=5))&&(decide (0<=a.N)))&&(decide (a.N<=999)))
def bB(a:Arg):List UInt8:=
 if zE a then
  if a.Kind=1 then a.S else if a.Kind=2 then iM a.N else if a.Kind=3 then My a.N else if a.Kind=4 then [110,117,108,108]else 35::iM a.N
 else []
def rOf(op:Int):RForm×Bool:=
 if op < 1\/34<op then(⟨[],false,false,0,0⟩,false)
 else(⟨Go.Am.gw.getD op.toNat default,(((!decide (op=27))&&(!decide (op=30)))&&(!decide (op=33)))&&(!decide (op=34)),(((decide (op=25))||(decide (op=26)))||(decide (op=27)))||((decide (29<=op))&&(decide (op<=32))),
  if op=22\/op=23\/op=24\/op=26\/op=30\/op=33 then 1 else if op=25\/op=31\/op=32\/op=29\/op=34 then 0 else 2,
  if op=22\/op=23\/op=24\/op=26\/op=30\/op=33 then 1 else if op=25\/op=31\/op=32 then 8 else if op=29\/op=34 then 0 else 2⟩,true)
def lnT(w:List (List UInt8)):List UInt8:=jw false w++[10]
def fW(out:List UInt8)(l:List (List UInt8)):List UInt8:=out++lnT l
def nF(out first:List UInt8)(l:List Var):List UInt8:=out++l.flatMap fun v=>lnT [first,v.Name,v.Type_]
def s6(l:List (List UInt8))(a:List Arg):List (List UInt8):=l++a.map bB
def s7(x:Instr):List (List UInt8):=(if(rOf x.Op).1.Dst then [x.Dst,[61]]else [])++[(rOf x.Op).1.Word]
def km(x:Instr):List (List UInt8):=
 if(x.Op=26\/x.Op=27)/\x.Args≠[]then s7 x++(x.Args.take 1).map bB++[x.Name]++(x.Args.drop 1).map bB
 else s7 x++(if(rOf x.Op).1.Named then [x.Name]else [])++x.Args.map bB
def eY(f:Frame):List (List UInt8):=[[97,116],f.Func,f.Block,iM f.At]++f.Vars.flatMap fun b=>[b.Name,bB b.A]
def iO(o:Virt):List (List UInt8):=[[111,98,106],o.Class]++o.Vals.map bB
def lF(x:Instr):List UInt8:=lnT (km x)++(x.Frames.flatMap fun f=>lnT (eY f))++(x.Objs.flatMap fun o=>lnT (iO o))
def OT(out:List UInt8)(x:Instr):List UInt8:=out++lF x
def vS(t:Term):List (List UInt8):=
 [([[],[106,117,109,112],[98,114,97,110,99,104],[114,101,116],[116,114,97,112]]:List (List UInt8)).getD t.Kind.toNat default]++(if t.Kind=2\/t.Kind=3 then [bB t.A]else [])++t.To++(if t.Kind=4 then [iM t.N]else [])
def zC(t:Term):List UInt8:=if t.Kind < 1\/4<t.Kind then []else lnT (vS t)
def OU(out:List UInt8)(t:Term):List UInt8:=out++zC t
def nE(x:Phi):List (List UInt8):=[[112,104,105],x.Dst]++x.Ins.flatMap fun i=>[i.Block,bB i.A]
def jk(b:Block):List UInt8:=lnT [[98,108,111,99,107],b.Name]++(b.Phis.flatMap fun x=>lnT (nE x))++b.Code.flatMap lF++zC b.End
def iN(first:List UInt8)(l:List Var):List UInt8:=l.flatMap fun v=>lnT [first,v.Name,v.Type_]
def nk(f:Func):List UInt8:=lnT [[102,117,110,99],f.Name,f.Result]++iN [112,97,114,97,109] f.Params++iN [118,97,114] f.Vars++f.Blocks.flatMap jk
def jl(c:Class):List UInt8:=lnT [[99,108,97,115,115],c.Name]++iN [102,105,101,108,100] c.Fields
def kl(x:Extern):List UInt8:=lnT [[101,120,116,101,114,110],x.Name,iM x.N]
def nl(p:Program):List UInt8:=(if p.SSA=true then lnT [[115,115,97]]else [])++p.Classes.flatMap jl++iN [103,108,111,98,97,108] p.Globals++p.Externs.flatMap kl++p.Funcs.flatMap nk
def bu(out:List UInt8)(l:List (List UInt8)):Prop:=out.length+(lnT l).length<=room
def cp(out first:List UInt8)(l:List Var):Prop:=out.length+(iN first l).length<=room
def ml(l:List (List UInt8))(a:List Arg):Prop:=Dn a/\l.length+a.length<=room+room
def zx(out:List UInt8)(x:Instr):Prop:=x.ok/\(∀f∈x.Frames,inR f.At)/\out.length+(lF x).length<=room
def s4(out:List UInt8)(t:Term):Prop:=t.ok/\out.length+(zC t).length<=room
def mm(p:Program):Prop:=p.ok/\(∀e∈p.Externs,inR e.N)/\(∀f∈p.Funcs,∀b∈f.Blocks,∀i∈b.Code,∀r∈i.Frames,inR r.At)/\(nl p).length<=room
def Uc(s:List UInt8)(c:UInt8):Int:=Go.Lib.indexByte s c
def YE(s p:List UInt8):List UInt8×Bool:=(Go.Lib.trimPrefix s p,Go.Lib.hasPrefix s p)
def aa5(s p:List UInt8):List UInt8×List UInt8×Bool:=Go.Lib.cut s p
def DE(s p:List UInt8):List (List UInt8):=(Go.Lib.splitB ⟨p.toArray⟩ 0 (Go.Lib.countB ⟨s.toArray⟩ ⟨p.toArray⟩) ⟨s.toArray⟩).map (·.data.toList)
def ZQ(s p:List UInt8):Prop:=s.length < 4294967281
def U7(s p:List UInt8):Prop:=s.length < 4294967281/\1<=p.length
def flt(n:Int):Value:=.iface 76 (.agg #[.int .i64 n])
def fnd{α:Type}[Inhabited α](nm:α->List UInt8)(s:List UInt8):List α->α×Bool
 |[]=>(default,false)
 |x::r=>if nm x=s then(x,true)else fnd nm s r
def bQ(p:Program)(s:List UInt8):Class×Bool:=fnd (·.Name) s p.Classes
def oS(p:Program)(s:List UInt8):Func×Bool:=fnd (·.Name) s p.Funcs
def mn(p:Program)(s:List UInt8):Extern×Bool:=fnd (·.Name) s p.Externs
def Mx(l:List Var)(s:List UInt8):Var×Bool:=fnd (·.Name) s l
def eH(p:Program)(s:List UInt8):Var×Bool:=Mx p.Globals s
def pS(p:Program)(c s:List UInt8):Var×Bool:=Mx (bQ p c).1.Fields s
def kj(f:Func)(s:List UInt8):Var×Bool:=if(Mx f.Params s).2=true then((Mx f.Params s).1,true)else Mx f.Vars s
def iL(f:Func)(a:Arg):List UInt8×Bool:=
 if a.Kind=1 then((kj f a.S).1.Type_,(kj f a.S).2)
 else if a.Kind=2 then([105,110,116],true)
 else if a.Kind=3 then([102,108,111,97,116],true)
 else if a.Kind=4 then([110,117,108,108],true)
 else([],false)
def mq(t:List UInt8):Bool:=!decide (t=[105,110,116])&&!decide (t=[102,108,111,97,116])
def fp(h w:List UInt8):Bool:=decide (h=w)||(decide (h=[110,117,108,108])&&mq w)
def ki:List (List UInt8)->List Var->Bool
 |[],[]=>true
 |t::l,x::v=>fp t x.Type_&&ki l v
 |_,_=>false
def vR(f:Func)(t:Term):Bool:=
 decide (t.Kind=1)||(decide (t.Kind=2)&&(iL f t.A).2&&decide ((iL f t.A).1=[105,110,116]))||(decide (t.Kind=3)&&(iL f t.A).2&&fp (iL f t.A).1 f.Result)||(decide (t.Kind=4)&&decide (10<=t.N))
def lE(l:List (List UInt8)):Bool:=decide l.Nodup
def iS(p:Program)(t:List UInt8):Bool:=!mq t||(bQ p t).2
def cP(p:Program)(l:List Var):Bool:=(l.all fun x=>iS p x.Type_)&&lE (l.map (·.Name))
def eX(p:Program):Bool:=
 lE (p.Classes.map (·.Name))&&lE (p.Externs.map (·.Name))&&lE (p.Funcs.map (·.Name))&&cP p p.Globals&&(p.Classes.all fun c=>cP p c.Fields) &&
 p.Funcs.all fun f=>iS p f.Result&&cP p (f.Params++f.Vars)
def kf(p:Program):Prop:=∀f∈p.Funcs,f.Params.length+f.Vars.length<=1000000
def Jx(a b:List UInt8):Bool:=mq a&&(mq b&&(decide (a=b)||(decide (a=[110,117,108,108])||decide (b=[110,117,108,108]))))
def abV(l:List (List UInt8))(t:List UInt8):Bool:=l.all fun x=>decide (x=t)
def lm(q:asked)(a d:List UInt8):Bool:=abV q.args a&&decide (q.dst=d)
def Aa(q:asked):Bool:=(bQ q.p q.i.Name).2&&(decide (q.dst=q.i.Name)&&(decide (q.args.length=0)||ki q.args (bQ q.p q.i.Name).1.Fields))
def Ej(q:asked):Prop:=0<q.args.length/\q.args.length=q.i.Args.length
def Ek(q:asked):Prop:=q.i.Op≠29->0<q.args.length
def gc(q:asked):Var×Bool:=if(q.i.Args.getD 0 default).Kind=1 then pS q.p (q.args.getD 0 default) q.i.Name else(default,false)
def o6(q:asked):Bool:=if q.i.Op=29 then(eH q.p q.i.Name).2&&decide ((eH q.p q.i.Name).1.Type_=q.dst)else(eH q.p q.i.Name).2&&fp (q.args.getD 0 default) (eH q.p q.i.Name).1.Type_
def tB(q:asked):Bool:=
 if q.i.Op<=14 then lm q [105,110,116] [105,110,116]
 else if q.i.Op<=18 then lm q [102,108,111,97,116] [102,108,111,97,116]
 else if q.i.Op<=21 then lm q [102,108,111,97,116] [105,110,116]
 else if q.i.Op=22 then lm q [105,110,116] [102,108,111,97,116]
 else if q.i.Op=23 then lm q [102,108,111,97,116] [105,110,116]
 else if q.i.Op=24 then fp (q.args.getD 0 default) q.dst
 else if q.i.Op=25 then Aa q
 else if q.i.Op=26 then(gc q).2&&decide ((gc q).1.Type_=q.dst)
 else if q.i.Op=27 then(gc q).2&&fp (q.args.getD 1 default) (gc q).1.Type_
 else if q.i.Op=28 then decide (q.dst=[105,110,116])&&Jx (q.args.getD 0 default) (q.args.getD 1 default)
 else if q.i.Op=29\/q.i.Op=30 then o6 q
 else if q.i.Op=31 then(oS q.p q.i.Name).2&&(ki q.args (oS q.p q.i.Name).1.Params&&decide (q.dst=(oS q.p q.i.Name).1.Result))
 else if q.i.Op=32 then(mn q.p q.i.Name).2&&(decide ((q.args.length:Int)=(mn q.p q.i.Name).1.N)&&lm q [105,110,116] [105,110,116])
 else if q.i.Op=33 then !mq (q.args.getD 0 default)
 else true
def ru(q:asked):Prop:=(Of q.i.Op).2=true/\q.args.length=q.i.Args.length/\(Of q.i.Op).1.Least<=(q.args.length:Int)/\(q.args.length:Int)<=(Of q.i.Op).1.Most
def oD(f:Func)(i:Instr):Bool:=
 (Of i.Op).2&&(decide ((Of i.Op).1.Least<=(i.Args.length:Int))&&(decide ((i.Args.length:Int)<=(Of i.Op).1.Most)&&(!(Of i.Op).1.Dst||(kj f i.Dst).2)))
def om(f:Func)(l:List Arg):List (List UInt8):=l.map fun a=>(iL f a).1
def Lo(f:Func)(i:Instr):List UInt8:=if(Of i.Op).1.Dst=true then(kj f i.Dst).1.Type_ else []
def nN(p:Program)(f:Func)(i:Instr):asked×Bool:=
 if(oD f i&&i.Args.all fun a=>(iL f a).2)=true then(⟨p,i,Lo f i,om f i.Args⟩,true)else(default,false)
def sY(_:Program)(_:Func)(i:Instr):Prop:=i.Args.length<=1000000
def U8:=sY
def ny(p:Program)(f:Func)(i:Instr):Bool:=(nN p f i).2&&tB (nN p f i).1
def rsz:List Block->Int->Int
 |[],n=>n
 |b::r,n=>rsz r (i64.wrap (n+(b.Code.length:Int)))
def wJ(f:Func):Int:=rsz f.Blocks 0
def wI(_:Func):Prop:=True
def Mn(i:Instr):Bool:=decide (i.Frames.length=0)&&decide (i.Objs.length=0)
def rm(b:Block):Bool:=decide (b.Phis.length=0)&&b.Code.all Mn
def zq(f:Func):Bool:=f.Blocks.all rm
def gO(p:Program):Bool:=p.Funcs.all zq&&!p.SSA
def wM(f:Func):Bool:=!decide (32 < (f.Blocks.length:Int))&&(!decide (200<wJ f)&&!decide (16<i64.wrap ((f.Params.length:Int)+(f.Vars.length:Int))))
def ik(p:Program):Bool:=p.Funcs.all wM
def uZ(_:Program):Prop:=True
def EJ(p:Program)(f:Func)(b:Block):Bool:=(b.Code.all fun i=>ny p f i)&&vR f b.End
def mZ(p:Program)(f:Func):Bool:=f.Blocks.all (EJ p f)
def kh(_:Program)(f:Func):Prop:=∀b∈f.Blocks,∀i∈b.Code,i.Args.length<=1000000
abbrev nmB(B:List Block)(i:Nat):List UInt8:=(B.getD i default).Name
abbrev toB(B:List Block)(i:Nat):List (List UInt8):=(B.getD i default).End.To
inductive Rc (B:List Block):Nat->Prop
 |first:0<B.length->Rc B 0
 |next (i k:Nat):Rc B i->i<B.length->k<B.length->nmB B k∈toB B i->Rc B k
structure Gd (B:List Block):Prop where
 ps:0<B.length
 nd:∀i j,i<B.length->j<B.length->nmB B i=nmB B j->i=j
 tn:∀i,i<B.length->(toB B i).Nodup
 tr:∀i,i<B.length->∀s∈toB B i,∃k,k<B.length/\k≠0/\nmB B k=s
 re:∀k,k<B.length->Rc B k
noncomputable def Qy(P:Prop):Bool:=@decide P (Classical.propDecidable P)
theorem uJ{P:Prop}(h:P):Qy P=true:=@decide_eq_true P (Classical.propDecidable P) h
theorem yO{P:Prop}(h:¬ P):Qy P=false:=@decide_eq_false P (Classical.propDecidable P) h
theorem OF{P:Prop}:Qy P=true ↔ P:=@decide_eq_true_iff P (Classical.propDecidable P)
def Mt(f:Func):Prop:=f.Blocks.length<=1000000/\∀b∈f.Blocks,b.End.To.length<=1000000
noncomputable def e9(f:Func):Bool:=Qy (Gd f.Blocks)
def lf(s:List UInt8):List Block->Int->Int×Bool
 |[],_=>(0,false)
 |b::r,i=>if b.Name=s then(i,true)else lf s r (i+1)
def gW(f:Func)(s:List UInt8):Int×Bool:=lf s f.Blocks 0
def Az{α:Type}[DecidableEq α](v:α):List α->Int->Int
 |[],_=>-1
 |x::r,i=>if v=x then i else Az v r (i+1)
def Ce(l:List Int)(v:Int):Int:=Az v l 0
def uI(l:List Int)(v:Int):Bool:=decide (0<=Ce l v)
def Ip(l:List (List UInt8))(v:List UInt8):Int:=Az v l 0
def DI(l:List (List UInt8))(v:List UInt8):Bool:=decide (0<=Ip l v)
def qu(f:Func):Prop:=f.Blocks.length<=1000000/\∀b∈f.Blocks,b.End.To.length<=1000000
def gL(f:Func)(s:List UInt8):Option Int:=if(gW f s).2=true then some (gW f s).1 else none
def gD(f:Func):List (List Int):=f.Blocks.map fun b=>b.End.To.filterMap (gL f)
def oP(g:List (List Int)):Prop:=g.length<=1000000/\∀l∈g,l.length<=1000000
def Em(g:List (List Int))(k:Nat):List Int:=((List.range g.length).filter fun i=>decide ((k:Int)∈g.getD i [])).map fun(i:Nat)=>(i:Int)
def eQ(g:List (List Int)):List (List Int):=(List.range g.length).map (Em g)
def sZ(g:List (List Int)):Prop:=oP g/\0<g.length/\∀l∈g,∀k∈l,0<=k/\k < (g.length:Int)
inductive Gr (g:List (List Int)):Nat->Prop
 |first:Gr g 0
 |next (i k:Nat):Gr g i->(k:Int)∈g.getD i []->Gr g k
structure Od (g:List (List Int)) (l:List Int):Prop where
 lt:∀k∈l,0<=k/\k < (g.length:Int)
 all:∀k,Gr g k->(k:Int)∈l
 nd:l.Nodup
 pr:∀i,i<l.length->l.getD i 0≠0->∃j,j<i/\l.getD i 0∈g.getD (l.getD j 0).toNat []
def uX(g:List (List Int))(l:List Int):Prop:=Od g l
abbrev Vs:=Option (List (List UInt8×Bool))
def bb(s:Vs)(v:List UInt8):Bool:=((Go.Am.aI .s (s.getD []) v).getD false)
def okV(s:Vs)(n:Nat):Prop:=∃l,s=some l/\(l.map (·.1)).Nodup/\(∀x∈l,x.2=true)/\l.length<=n
def AS(s:Vs)(l:List (List UInt8)):Vs:=some (l.foldl (fun m v=>Go.Am.bS .s m v true) (s.getD []))
def yd(f:Func):Vs:=AS (some []) (f.Params.map (·.Name))
def qt(s:Vs)(_:Block):Prop:=s.isSome=true
def jP(s:Vs)(b:Block):Vs:=AS s (b.Phis.map (·.Dst))
def iQ(b:Block):List (List UInt8):=(b.Code.map (·.Dst)).filter fun d=>!decide (d=[])
def iI(s:Vs)(b:Block):Vs:=AS s (iQ b)
def Ei(a b:Vs):Prop:=a=none\/∃n,okV a n
def zt(a b y:Vs):Prop:=(a=none->y=b)/\(a≠none->(∀n,okV a n->okV y n)/\∀v,bb y v=(bb a v&&bb b v))
abbrev bkB(f:Func)(i:Nat):Block:=f.Blocks.getD i default
abbrev phB(f:Func)(i:Nat):List (List UInt8):=(bkB f i).Phis.map (·.Dst)
inductive Bare (f:Func) (v:List UInt8):Nat->Prop
 |first:v ∉ f.Params.map (·.Name)->Bare f v 0
 |next (i k:Nat):Bare f v i->v ∉ phB f i->v ∉ iQ (bkB f i)->i<f.Blocks.length->k<f.Blocks.length->nmB f.Blocks k∈toB f.Blocks i->Bare f v k
def oO(f:Func):Prop:=qu f/\Gd f.Blocks/\f.Params.length<=1000000/\∀b∈f.Blocks,b.Phis.length<=1000000/\b.Code.length<=1000000
def pR(f:Func)(y:List Vs):Prop:=y.length=f.Blocks.length/\∀k,k<f.Blocks.length->(y.getD k none).isSome=true/\∀v,bb (y.getD k none) v=true ↔ (¬ Bare f v k\/v∈phB f k)
def vz(i:Instr)(v:List UInt8):Prop:=(∃a∈i.Args,a.Kind=1/\a.S=v)\/(∃f∈i.Frames,∃b∈f.Vars,b.A.Kind=1/\b.A.S=v)\/∃o∈i.Objs,∃a∈o.Vals,a.Kind=1/\a.S=v
def VD(i:Instr):Nat:=i.Args.length+(i.Frames.map fun f=>f.Vars.length).sum+(i.Objs.map fun o=>o.Vals.length).sum
def eV(i:Instr):Prop:=VD i<=1000000
def iz(s:Vs):Prop:=s.isSome=true/\(s.getD []).length<=1000000
def zu(i:Instr)(l:List (List UInt8)):Prop:=∀v,v∈l ↔ vz i v
def fE(s:Vs)(l:List (List UInt8)):Prop:=∀v,v∈l ↔ v∈(s.getD []).map (·.1)
def nO(P:List UInt8->Prop)(b:Block):Prop:=(∀j,j<b.Code.length->∀v,vz (b.Code.getD j default) v->P v\/v∈((b.Code.take j).map (·.Dst)).filter fun d=>!decide (d=[]))/\((b.End.Kind=2\/b.End.Kind=3)->b.End.A.Kind=1->P b.End.A.S\/b.End.A.S∈iQ b)
def Mr(s:Vs)(b:Block):Prop:=s.isSome=true/\∀x∈b.Code,eV x
noncomputable def jd(s:Vs)(b:Block):Bool:=Qy (nO (fun v=>bb s v=true) b)
def DU(to:List UInt8)(s:List UInt8):List Block->Bool
 |[]=>false
 |b::r=>if b.Name=s then DI b.End.To to else DU to s r
def Do(f:Func)(s to:List UInt8):Bool:=DU to s f.Blocks
def uY(f:Func)(_:Option (List (List UInt8×Vs))):Prop:=∀b∈f.Blocks,b.Phis=[]
def K5(_:Func)(_:Option (List (List UInt8×Vs))):Bool:=true
def Ms(f:Func):Prop:=oO f/\(∀b∈f.Blocks,b.Phis=[])/\∀b∈f.Blocks,∀x∈b.Code,eV x
noncomputable def je(f:Func):Bool:=Qy (∀k,k<f.Blocks.length->nO (fun v=>¬ Bare f v k) (bkB f k))
noncomputable def wt(p:Program):List Func->Int
 |[]=>0
 |f::r=>if e9 f=false then 5 else if mZ p f=false then 4 else if je f=false then 4 else wt p r
def cw(p:Program):Prop:=kf p/\∀f∈p.Funcs,kh p f/\qu f/\f.Params.length<=1000000/\(∀b∈f.Blocks,b.Phis.length<=1000000/\b.Code.length<=1000000)/\∀b∈f.Blocks,∀x∈b.Code,eV x
noncomputable def dH(p:Program):Int:=if dY p=false\/gO p=false then 3 else if ik p=false then 2 else if eX p=false then 4 else wt p p.Funcs
def Dp:Bool:=true
def zw(p:Program):Prop:=p.ok/\(∀e∈p.Externs,inR e.N)/\(∀f∈p.Funcs,∀b∈f.Blocks,∀i∈b.Code,∀r∈i.Frames,inR r.At)/\(Few p 6000=true->cw p/\(nl p).length<=room)
def Kl(_:Program):Bool:=true
end Lt
end

section
namespace Go.Am
open Go
def nV(a0_l:List Lt.Var)(a1_most:Int)(KK:Int->Prop):Prop:=
 (a0_l.length<=4611686018427387904->if(decide (a1_most < (a0_l.length:Int)))=true then(KK (i64.wrap (a1_most+1)))else((a0_l.length<=4611686018427387904->af (α:=Int×Int) (fun R1 v2=>ab (α:=Bool) (fun J3=>(a0_l.length<=4611686018427387904->if(decide (v2.2 < (a0_l.length:Int)))=true then(J3 (decide (v2.1<=a1_most)))else(J3 false))) (fun v4=>if v4=true then(ab (α:=Int) (fun J5=>((0:Int)<=v2.2/\v2.2.toNat<a0_l.length)/\(((a0_l.getD v2.2.toNat default).Name).length<=4611686018427387904->if(decide ((i64.wrap (v2.1+(((a0_l.getD v2.2.toNat default).Name).length:Int)))<=a1_most))=true then(((0:Int)<=v2.2/\v2.2.toNat<a0_l.length)/\(((a0_l.getD v2.2.toNat default).Type_).length<=4611686018427387904->J5 (i64.wrap ((i64.wrap (v2.1+(((a0_l.getD v2.2.toNat default).Name).length:Int)))+(((a0_l.getD v2.2.toNat default).Type_).length:Int)))))else(J5 (i64.wrap (v2.1+(((a0_l.getD v2.2.toNat default).Name).length:Int)))))) (fun v6=>R1 (v6,(i64.wrap (v2.2+1)))))else(KK v2.1))) ((a0_l.length:Int),0))))
def nU(a0_l:List Lt.Arg)(a1_most:Int)(KK:Int->Prop):Prop:=
 (a0_l.length<=4611686018427387904->if(decide (a1_most < (a0_l.length:Int)))=true then(KK (i64.wrap (a1_most+1)))else((a0_l.length<=4611686018427387904->af (α:=Int×Int) (fun R1 v2=>ab (α:=Bool) (fun J3=>(a0_l.length<=4611686018427387904->if(decide (v2.2 < (a0_l.length:Int)))=true then(J3 (decide (v2.1<=a1_most)))else(J3 false))) (fun v4=>if v4=true then(((0:Int)<=v2.2/\v2.2.toNat<a0_l.length)/\(((a0_l.getD v2.2.toNat default).S).length<=4611686018427387904->R1 ((i64.wrap (v2.1+(((a0_l.getD v2.2.toNat default).S).length:Int))),(i64.wrap (v2.2+1)))))else(KK v2.1))) ((a0_l.length:Int),0))))
def mO(a0_x:Lt.Instr)(a1_most:Int)(KK:Int->Prop):Prop:=
 have z2:=(i64.wrap ((i64.wrap ((i64.wrap (1+(a0_x.Dst.length:Int)))+(a0_x.Frames.length:Int)))+(a0_x.Objs.length:Int)));ab (α:=Bool) (fun J1=>(a0_x.Frames.length<=4611686018427387904->if(decide (a1_most < (a0_x.Frames.length:Int)))=true then(J1 true)else(J1 (decide (a1_most < (a0_x.Objs.length:Int)))))) (fun v2=>if v2=true then(KK (i64.wrap (a1_most+1)))else((a0_x.Dst.length<=4611686018427387904->(a0_x.Frames.length<=4611686018427387904->(a0_x.Objs.length<=4611686018427387904->ab (α:=Int) (fun J3=>if(decide (z2<=a1_most))=true then((a0_x.Name.length<=4611686018427387904->J3 (i64.wrap (z2+(a0_x.Name.length:Int)))))else(J3 z2)) (fun v4=>ab (α:=Int) (fun J5=>if(decide (v4<=a1_most))=true then(J5 (i64.wrap (v4+(dv a0_x.Args a1_most))))else(J5 v4)) (fun v6=>af (α:=Int×Int) (fun R7 v8=>have z4:=((0:Int)<=v8.2/\v8.2.toNat<a0_x.Frames.length);have z1:=a0_x.Frames.getD v8.2.toNat default;have z6:=(i64.wrap (v8.1+((z1.Func).length:Int)));ab (α:=Bool) (fun J9=>(a0_x.Frames.length<=4611686018427387904->if(decide (v8.2 < (a0_x.Frames.length:Int)))=true then(J9 (decide (v8.1<=a1_most)))else(J9 false))) (fun v10=>if v10=true then(z4/\((z1.Func).length<=4611686018427387904->ab (α:=Int) (fun J11=>if(decide (z6<=a1_most))=true then(z4/\((z1.Block).length<=4611686018427387904->J11 (i64.wrap (z6+((z1.Block).length:Int)))))else(J11 z6)) (fun v12=>af (α:=Int×Int) (fun R13 v14=>have z7:=(z1.Vars).getD v14.2.toNat default;have z3:=(i64.wrap ((i64.wrap (v14.1+1))+((z7.Name).length:Int)));ab (α:=Bool) (fun J15=>z4/\((z1.Vars).length<=4611686018427387904->if(decide (v14.2 < ((z1.Vars).length:Int)))=true then(J15 (decide (v14.1<=a1_most)))else(J15 false))) (fun v16=>if v16=true then(ab (α:=Int) (fun J17=>z4/\((0:Int)<=v14.2/\v14.2.toNat < (z1.Vars).length)/\((z7.Name).length<=4611686018427387904->if(decide (z3<=a1_most))=true then(z4/\((0:Int)<=v14.2/\v14.2.toNat < (z1.Vars).length)/\(((z7.A).S).length<=4611686018427387904->J17 (i64.wrap (z3+(((z7.A).S).length:Int)))))else(J17 z3))) (fun v18=>R13 (v18,(i64.wrap (v14.2+1)))))else(R7 (v14.1,(i64.wrap (v8.2+1)))))) (v12,0))))else(af (α:=Int×Int) (fun R19 v20=>have z8:=a0_x.Objs.getD v20.2.toNat default;have z5:=(i64.wrap (v20.1+((z8.Class).length:Int)));ab (α:=Bool) (fun J21=>(a0_x.Objs.length<=4611686018427387904->if(decide (v20.2 < (a0_x.Objs.length:Int)))=true then(J21 (decide (v20.1<=a1_most)))else(J21 false))) (fun v22=>if v22=true then(ab (α:=Int) (fun J23=>((0:Int)<=v20.2/\v20.2.toNat<a0_x.Objs.length)/\((z8.Class).length<=4611686018427387904->if(decide (z5<=a1_most))=true then(((0:Int)<=v20.2/\v20.2.toNat<a0_x.Objs.length)/\J23 (i64.wrap (z5+(dv (z8.Vals) a1_most))))else(J23 z5))) (fun v24=>R19 (v24,(i64.wrap (v20.2+1)))))else(KK v20.1))) (v8.1,0)))) (v6,0))))))))
def mN(a0_b:Lt.Block)(a1_most:Int)(KK:Int->Prop):Prop:=
 have z5:=(i64.wrap (1+(a0_b.Name.length:Int)));ab (α:=Bool) (fun J1=>(a0_b.Phis.length<=4611686018427387904->if(decide (a1_most < (a0_b.Phis.length:Int)))=true then(J1 true)else(if(decide (a1_most < (a0_b.Code.length:Int)))=true then(J1 true)else(J1 (decide (a1_most < (a0_b.End.To.length:Int))))))) (fun v2=>if v2=true then(KK (i64.wrap (a1_most+1)))else((a0_b.Name.length<=4611686018427387904->ab (α:=Int) (fun J3=>if(decide (z5<=a1_most))=true then((a0_b.End.A.S.length<=4611686018427387904->J3 (i64.wrap (z5+(a0_b.End.A.S.length:Int)))))else(J3 z5)) (fun v4=>af (α:=Int×Int) (fun R5 v6=>ab (α:=Bool) (fun J7=>(a0_b.End.To.length<=4611686018427387904->if(decide (v6.2 < (a0_b.End.To.length:Int)))=true then(J7 (decide (v6.1<=a1_most)))else(J7 false))) (fun v8=>if v8=true then(((0:Int)<=v6.2/\v6.2.toNat<a0_b.End.To.length)/\((a0_b.End.To.getD v6.2.toNat default).length<=4611686018427387904->R5 ((i64.wrap ((i64.wrap (v6.1+1))+((a0_b.End.To.getD v6.2.toNat default).length:Int))),(i64.wrap (v6.2+1)))))else(af (α:=Int×Int) (fun R9 v10=>have z3:=((0:Int)<=v10.2/\v10.2.toNat<a0_b.Phis.length);have z1:=a0_b.Phis.getD v10.2.toNat default;ab (α:=Bool) (fun J11=>(a0_b.Phis.length<=4611686018427387904->if(decide (v10.2 < (a0_b.Phis.length:Int)))=true then(J11 (decide (v10.1<=a1_most)))else(J11 false))) (fun v12=>if v12=true then(z3/\((z1.Dst).length<=4611686018427387904->af (α:=Int×Int) (fun R13 v14=>have z4:=(z1.Ins).getD v14.2.toNat default;have z2:=(i64.wrap ((i64.wrap (v14.1+1))+((z4.Block).length:Int)));ab (α:=Bool) (fun J15=>z3/\((z1.Ins).length<=4611686018427387904->if(decide (v14.2 < ((z1.Ins).length:Int)))=true then(J15 (decide (v14.1<=a1_most)))else(J15 false))) (fun v16=>if v16=true then(ab (α:=Int) (fun J17=>z3/\((0:Int)<=v14.2/\v14.2.toNat < (z1.Ins).length)/\((z4.Block).length<=4611686018427387904->if(decide (z2<=a1_most))=true then(z3/\((0:Int)<=v14.2/\v14.2.toNat < (z1.Ins).length)/\(((z4.A).S).length<=4611686018427387904->J17 (i64.wrap (z2+(((z4.A).S).length:Int)))))else(J17 z2))) (fun v18=>R13 (v18,(i64.wrap (v14.2+1)))))else(R9 (v14.1,(i64.wrap (v10.2+1)))))) ((i64.wrap ((i64.wrap (v10.1+1))+((z1.Dst).length:Int))),0)))else(af (α:=Int×Int) (fun R19 v20=>ab (α:=Bool) (fun J21=>(a0_b.Code.length<=4611686018427387904->if(decide (v20.2 < (a0_b.Code.length:Int)))=true then(J21 (decide (v20.1<=a1_most)))else(J21 false))) (fun v22=>if v22=true then(((0:Int)<=v20.2/\v20.2.toNat<a0_b.Code.length)/\(U5 (a0_b.Code.getD v20.2.toNat default) a1_most)/\R19 ((i64.wrap (v20.1+(dJ (a0_b.Code.getD v20.2.toNat default) a1_most))),(i64.wrap (v20.2+1))))else(KK v20.1))) (v10.1,0)))) (v6.1,0)))) (v4,0)))))
def tQ(a0_f:Lt.Func)(a1_most:Int)(KK:Int->Prop):Prop:=
 have z3:=(i64.wrap (1+(a0_f.Name.length:Int)));(a0_f.Blocks.length<=4611686018427387904->if(decide (a1_most < (a0_f.Blocks.length:Int)))=true then(KK (i64.wrap (a1_most+1)))else((a0_f.Name.length<=4611686018427387904->ab (α:=Int) (fun J1=>if(decide (z3<=a1_most))=true then((a0_f.Result.length<=4611686018427387904->J1 (i64.wrap (z3+(a0_f.Result.length:Int)))))else(J1 z3)) (fun v2=>ab (α:=Int) (fun J3=>if(decide (v2<=a1_most))=true then(J3 (i64.wrap (v2+(bP a0_f.Params a1_most))))else(J3 v2)) (fun v4=>ab (α:=Int) (fun J5=>if(decide (v4<=a1_most))=true then(J5 (i64.wrap (v4+(bP a0_f.Vars a1_most))))else(J5 v4)) (fun v6=>af (α:=Int×Int) (fun R7 v8=>have z1:=a0_f.Blocks.getD v8.2.toNat default;have z2:=Lt.Block.mk (z1.Name) (z1.Phis) (z1.Code) (Lt.Term.mk ((z1.End).Kind) ((z1.End).A) ((z1.End).To) ((z1.End).N));ab (α:=Bool) (fun J9=>(a0_f.Blocks.length<=4611686018427387904->if(decide (v8.2 < (a0_f.Blocks.length:Int)))=true then(J9 (decide (v8.1<=a1_most)))else(J9 false))) (fun v10=>if v10=true then(((0:Int)<=v8.2/\v8.2.toNat<a0_f.Blocks.length)/\(U4 z2 a1_most)/\R7 ((i64.wrap (v8.1+(dI z2 a1_most))),(i64.wrap (v8.2+1))))else(KK v8.1))) (v6,0)))))))
def SB(a0_p:Lt.Program)(a1_most:Int)(KK:Bool->Prop):Prop:=
 ab (α:=Bool) (fun J1=>(a0_p.Classes.length<=4611686018427387904->if(decide (50 < (a0_p.Classes.length:Int)))=true then(J1 true)else(if(decide (50 < (a0_p.Externs.length:Int)))=true then(J1 true)else(J1 (decide (50 < (a0_p.Funcs.length:Int))))))) (fun v2=>if v2=true then(KK false)else(af (α:=Int×Int) (fun R3 v4=>have z2:=a0_p.Classes.getD v4.2.toNat default;have z1:=(i64.wrap (v4.1+((z2.Name).length:Int)));ab (α:=Bool) (fun J5=>(a0_p.Classes.length<=4611686018427387904->if(decide (v4.2 < (a0_p.Classes.length:Int)))=true then(J5 (decide (v4.1<=a1_most)))else(J5 false))) (fun v6=>if v6=true then(ab (α:=Int) (fun J7=>((0:Int)<=v4.2/\v4.2.toNat<a0_p.Classes.length)/\((z2.Name).length<=4611686018427387904->if(decide (z1<=a1_most))=true then(((0:Int)<=v4.2/\v4.2.toNat<a0_p.Classes.length)/\J7 (i64.wrap (z1+(bP (z2.Fields) a1_most))))else(J7 z1))) (fun v8=>R3 (v8,(i64.wrap (v4.2+1)))))else(af (α:=Int×Int) (fun R9 v10=>ab (α:=Bool) (fun J11=>(a0_p.Externs.length<=4611686018427387904->if(decide (v10.2 < (a0_p.Externs.length:Int)))=true then(J11 (decide (v10.1<=a1_most)))else(J11 false))) (fun v12=>if v12=true then(((0:Int)<=v10.2/\v10.2.toNat<a0_p.Externs.length)/\(((a0_p.Externs.getD v10.2.toNat default).Name).length<=4611686018427387904->R9 ((i64.wrap ((i64.wrap (v10.1+1))+(((a0_p.Externs.getD v10.2.toNat default).Name).length:Int))),(i64.wrap (v10.2+1)))))else(af (α:=Int×Int) (fun R13 v14=>ab (α:=Bool) (fun J15=>(a0_p.Funcs.length<=4611686018427387904->if(decide (v14.2 < (a0_p.Funcs.length:Int)))=true then(J15 (decide (v14.1<=a1_most)))else(J15 false))) (fun v16=>if v16=true then(((0:Int)<=v14.2/\v14.2.toNat<a0_p.Funcs.length)/\(U6 (a0_p.Funcs.getD v14.2.toNat default) a1_most)/\R13 ((i64.wrap (v14.1+(kG (a0_p.Funcs.getD v14.2.toNat default) a1_most))),(i64.wrap (v14.2+1))))else(KK (decide (v14.1<=a1_most))))) (v10.1,0)))) (v4.1,0)))) ((bP a0_p.Globals a1_most),0)))
def xt(a0_c:UInt8)(KK:Bool->Prop):Prop:=
 ab (α:=Bool) (fun J1=>if(decide ((((97:UInt8).toNat:Nat):Int)<=((a0_c.toNat:Nat):Int)))=true then(if(decide (((a0_c.toNat:Nat):Int)<=(((122:UInt8).toNat:Nat):Int)))=true then(J1 true)else(if(decide ((((65:UInt8).toNat:Nat):Int)<=((a0_c.toNat:Nat):Int)))=true then(if(decide (((a0_c.toNat:Nat):Int)<=(((90:UInt8).toNat:Nat):Int)))=true then(J1 true)else(J1 (decide (((a0_c.toNat:Nat):Int)=(((95:UInt8).toNat:Nat):Int)))))else(J1 (decide (((a0_c.toNat:Nat):Int)=(((95:UInt8).toNat:Nat):Int))))))else(if(decide ((((65:UInt8).toNat:Nat):Int)<=((a0_c.toNat:Nat):Int)))=true then(if(decide (((a0_c.toNat:Nat):Int)<=(((90:UInt8).toNat:Nat):Int)))=true then(J1 true)else(J1 (decide (((a0_c.toNat:Nat):Int)=(((95:UInt8).toNat:Nat):Int)))))else(J1 (decide (((a0_c.toNat:Nat):Int)=(((95:UInt8).toNat:Nat):Int)))))) (fun v2=>KK v2)
def Kx(a0_s:List UInt8)(KK:Bool->Prop):Prop:=
 ab (α:=Bool) (fun J1=>if(decide (a0_s=[110,117,108,108]))=true then(J1 true)else(if(decide (a0_s=[105,110,116]))=true then(J1 true)else(J1 (decide (a0_s=[102,108,111,97,116]))))) (fun v2=>KK v2)
def nZ(a0_c:UInt8)(KK:Bool->Prop):Prop:=
 if(decide ((((48:UInt8).toNat:Nat):Int)<=((a0_c.toNat:Nat):Int)))=true then(KK (decide (((a0_c.toNat:Nat):Int)<=(((57:UInt8).toNat:Nat):Int))))else(KK false)
def Kv(a0_s:List UInt8)(KK:Bool->Prop):Prop:=
 ab (α:=Bool) (fun J1=>if(decide (a0_s=([]:List UInt8)))=true then(J1 true)else(if(decide (16 < (a0_s.length:Int)))=true then(J1 true)else(((0:Int)<=0/\0<a0_s.length)/\if(!(Lt.letter (a0_s.getD 0 0)))=true then(J1 true)else(J1 (Lt.kept a0_s))))) (fun v2=>if v2=true then(KK false)else((a0_s.length<=4611686018427387904->af (α:=Int) (fun R3 v4=>if(decide (v4 < (a0_s.length:Int)))=true then(ab (α:=Bool) (fun J5=>((0:Int)<=v4/\v4.toNat<a0_s.length)/\if(!(Lt.letter (a0_s.getD v4.toNat 0)))=true then(((0:Int)<=v4/\v4.toNat<a0_s.length)/\J5 (!(pW (a0_s.getD v4.toNat 0))))else(J5 false)) (fun v6=>if v6=true then(KK false)else(R3 (i64.wrap (v4+1)))))else(KK true)) 0)))
def Ky(a0_s:List UInt8)(KK:Bool->Prop):Prop:=
 ab (α:=Bool) (fun J1=>if(decide (a0_s=[105,110,116]))=true then(J1 true)else(if(decide (a0_s=[102,108,111,97,116]))=true then(J1 true)else(J1 (Lt.Name a0_s)))) (fun v2=>KK v2)
def C9(a0_l:List Lt.Var)(a1_most:Int)(KK:Bool->Prop):Prop:=
 (a0_l.length<=4611686018427387904->if(decide (a1_most < (a0_l.length:Int)))=true then(KK false)else((a0_l.length<=4611686018427387904->af (α:=Int) (fun R1 v2=>if(decide (v2 < (a0_l.length:Int)))=true then(((0:Int)<=v2/\v2.toNat<a0_l.length)/\ab (α:=Bool) (fun J3=>if(!(Lt.Name ((a0_l.getD v2.toNat default).Name)))=true then(J3 true)else(J3 (!(Lt.kind ((a0_l.getD v2.toNat default).Type_))))) (fun v4=>if v4=true then(KK false)else(R1 (i64.wrap (v2+1)))))else(KK true)) 0)))
def CQ(a0_n:Int)(KK:Int->Prop):Prop:=
 ab (α:=Bool) (fun J1=>if(decide ((i64.wrap ((BitVec.ofInt i64.bits a0_n &&& BitVec.ofInt i64.bits 9218868437227405312).toNat:Nat))=9218868437227405312))=true then(J1 (!decide ((i64.wrap ((BitVec.ofInt i64.bits a0_n &&& BitVec.ofInt i64.bits 4503599627370495).toNat:Nat))=0)))else(J1 false)) (fun v2=>if v2=true then(KK 9221120237041090560)else(KK a0_n))
def n3(a0_a:Lt.Arg)(KK:Bool->Prop):Prop:=
 if(decide (a0_a.Kind=1))=true then(if(Lt.Name a0_a.S)=true then(KK (decide (a0_a.N=0)))else(KK false))else(if(decide (a0_a.Kind=2))=true then(KK (decide (a0_a.S=([]:List UInt8))))else(if(decide (a0_a.Kind=3))=true then(ab (α:=Bool) (fun J1=>if(decide (a0_a.S=([]:List UInt8)))=true then((J1 (decide ((Lt.Plain a0_a.N)=a0_a.N)))/\(J1 (decide ((Lt.Plain a0_a.N)=a0_a.N))))else((J1 false)/\(J1 false))) (fun v2=>KK v2))else(if(decide (a0_a.Kind=4))=true then(if(decide (a0_a.S=([]:List UInt8)))=true then(KK (decide (a0_a.N=0)))else(KK false))else(if(decide (a0_a.Kind=5))=true then(ab (α:=Bool) (fun J3=>if(decide (a0_a.S=([]:List UInt8)))=true then(if(decide (0<=a0_a.N))=true then(J3 (decide (a0_a.N<=999)))else(J3 false))else(J3 false)) (fun v4=>KK v4))else(KK false)))))
def qL(a0_l:List Lt.Arg)(a1_objs:Bool)(KK:Bool->Prop):Prop:=
 (a0_l.length<=4611686018427387904->af (α:=Int) (fun R1 v2=>if(decide (v2 < (a0_l.length:Int)))=true then(((0:Int)<=v2/\v2.toNat<a0_l.length)/\ab (α:=Bool) (fun J3=>if(!(mE (a0_l.getD v2.toNat default)))=true then(J3 true)else(if(decide ((a0_l.getD v2.toNat default).Kind=5))=true then(J3 (!a1_objs))else(J3 false))) (fun v4=>if v4=true then(KK false)else(R1 (i64.wrap (v2+1)))))else(KK true)) 0)
def tZ(a0_t:Lt.Term)(KK:Bool->Prop):Prop:=
 (a0_t.To.length<=4611686018427387904->af (α:=Int) (fun R1 v2=>if(decide (v2 < (a0_t.To.length:Int)))=true then(((0:Int)<=v2/\v2.toNat<a0_t.To.length)/\if(!(Lt.Name (a0_t.To.getD v2.toNat default)))=true then(KK false)else(R1 (i64.wrap (v2+1))))else(if(decide (a0_t.Kind=1))=true then(ab (α:=Bool) (fun J3=>if(decide (a0_t.A.Kind=0)&&(decide (a0_t.A.S=([]:List UInt8))&&decide (a0_t.A.N=0)))=true then(if(decide ((a0_t.To.length:Int)=1))=true then(J3 (decide (a0_t.N=0)))else(J3 false))else(J3 false)) (fun v4=>KK v4))else(if(decide (a0_t.Kind=2))=true then(ab (α:=Bool) (fun J5=>if(cZ [a0_t.A] false)=true then(if(decide ((a0_t.To.length:Int)=2))=true then(J5 (decide (a0_t.N=0)))else(J5 false))else(J5 false)) (fun v6=>KK v6))else(if(decide (a0_t.Kind=3))=true then(ab (α:=Bool) (fun J7=>if(cZ [a0_t.A] false)=true then(if(decide ((a0_t.To.length:Int)=0))=true then(J7 (decide (a0_t.N=0)))else(J7 false))else(J7 false)) (fun v8=>KK v8))else(if(decide (a0_t.Kind=4))=true then(if(decide (a0_t.A.Kind=0)&&(decide (a0_t.A.S=([]:List UInt8))&&decide (a0_t.A.N=0)))=true then(KK (decide ((a0_t.To.length:Int)=0)))else(KK false))else(KK false)))))) 0)
def SE(a0_x:Lt.Phi)(KK:Bool->Prop):Prop:=
 ab (α:=Bool) (fun J1=>if(!(Lt.Name a0_x.Dst))=true then(J1 true)else(if(decide ((a0_x.Ins.length:Int)=0))=true then(J1 true)else(J1 (decide (256 < (a0_x.Ins.length:Int)))))) (fun v2=>if v2=true then(KK false)else((a0_x.Ins.length<=4611686018427387904->af (α:=Int) (fun R3 v4=>if(decide (v4 < (a0_x.Ins.length:Int)))=true then(((0:Int)<=v4/\v4.toNat<a0_x.Ins.length)/\ab (α:=Bool) (fun J5=>if(!(Lt.Name ((a0_x.Ins.getD v4.toNat default).Block)))=true then(J5 true)else(J5 (!(cZ [((a0_x.Ins.getD v4.toNat default).A)] false)))) (fun v6=>if v6=true then(KK false)else(R3 (i64.wrap (v4+1)))))else(KK true)) 0)))
def SC(a0_list:List UInt8)(a1_n:Int)(KK:(List UInt8)->Prop):Prop:=
 af (α:=Int×Int×Int) (fun R1 v2=>(a0_list.length<=4611686018427387904->if(decide (v2.2.2 < (a0_list.length:Int)))=true then(ab (α:=Int×Int) (fun J3=>((0:Int)<=v2.2.2/\v2.2.2.toNat<a0_list.length)/\if(!decide ((((a0_list.getD v2.2.2.toNat 0).toNat:Nat):Int)=(((32:UInt8).toNat:Nat):Int)))=true then(J3 (v2.1,v2.2.1))else(if(decide ((i64.wrap (v2.1 - 1))=0))=true then((0:Int)<=(i64.wrap (v2.2.1+1))/\(0:Int)<=v2.2.2/\((i64.wrap (v2.2.1+1)).toNat<=v2.2.2.toNat/\v2.2.2.toNat<=a0_list.length)/\KK ((a0_list.drop (i64.wrap (v2.2.1+1)).toNat).take (v2.2.2.toNat - (i64.wrap (v2.2.1+1)).toNat)))else(J3 ((i64.wrap (v2.1 - 1)),v2.2.2)))) (fun v4=>R1 (v4.1,v4.2,(i64.wrap (v2.2.2+1)))))else(KK ([]:List UInt8)))) (a1_n,0,1)
def YV(a0_op:Int)(KK:(Lt.Form×Bool)->Prop):Prop:=
 ab (α:=Bool) (fun J1=>if(decide (1<=a0_op))=true then(J1 (decide (a0_op<=21)))else(J1 false)) (fun v2=>if v2=true then(KK ((Lt.Form.mk (Lt.nth (32::97::100::100::32::115::117::98::32::109::117::108::32::100::105::118::32::114::101::109::32::97::110::100::32::111::114::32::120::111::114::32::115::104::108::32::115::104::114::32::101::113::32::110::101::32::108::116::32::108::101::32::102::97::100::100::32::102::115::117::98::32::102::109::117::108::32::102::100::105::118::32::102::101::113::32::102::108::116::32::102::108::101::32::([]:List UInt8)) a0_op) true false 2 2),true))else(ab (α:=Bool) (fun J3=>if(decide (22<=a0_op))=true then(J3 (decide (a0_op<=24)))else(J3 false)) (fun v4=>if v4=true then(KK ((Lt.Form.mk (Lt.nth [32,105,116,111,102,32,102,116,111,105,32,109,111,118,32] (i64.wrap (a0_op - 21))) true false 1 1),true))else(if(decide (a0_op=25))=true then(KK ((Lt.Form.mk [110,101,119] true true 0 8),true))else(if(decide (a0_op=26))=true then(KK ((Lt.Form.mk [108,111,97,100] true true 1 1),true))else(if(decide (a0_op=27))=true then(KK ((Lt.Form.mk [115,116,111,114,101] false true 2 2),true))else(if(decide (a0_op=28))=true then(KK ((Lt.Form.mk [115,97,109,101] true false 2 2),true))else(if(decide (a0_op=29))=true then(KK ((Lt.Form.mk [103,108,111,97,100] true true 0 0),true))else(if(decide (a0_op=30))=true then(KK ((Lt.Form.mk [103,115,116,111,114,101] false true 1 1),true))else(if(decide (a0_op=31))=true then(KK ((Lt.Form.mk [99,97,108,108] true true 0 8),true))else(if(decide (a0_op=32))=true then(KK ((Lt.Form.mk [101,120,116] true true 0 8),true))else(if(decide (a0_op=33))=true then(KK ((Lt.Form.mk [111,117,116] false false 1 1),true))else(if(decide (a0_op=34))=true then(KK ((Lt.Form.mk [103,117,97,114,100] false false 0 0),true))else(KK ((Lt.Form.mk ([]:List UInt8) false false 0 0),false)))))))))))))))
def CU(a0_f:Lt.Frame)(KK:Bool->Prop):Prop:=
 ab (α:=Bool) (fun J1=>if(!(Lt.Name a0_f.Func))=true then(J1 true)else(if(!(Lt.Name a0_f.Block))=true then(J1 true)else(if(decide (a0_f.At < 0))=true then(J1 true)else(if(decide (1024<a0_f.At))=true then(J1 true)else(J1 (decide (16 < (a0_f.Vars.length:Int)))))))) (fun v2=>if v2=true then(KK false)else((a0_f.Vars.length<=4611686018427387904->af (α:=Int) (fun R3 v4=>if(decide (v4 < (a0_f.Vars.length:Int)))=true then(((0:Int)<=v4/\v4.toNat<a0_f.Vars.length)/\ab (α:=Bool) (fun J5=>if(!(Lt.Name ((a0_f.Vars.getD v4.toNat default).Name)))=true then(J5 true)else(J5 (!(cZ [((a0_f.Vars.getD v4.toNat default).A)] true)))) (fun v6=>if v6=true then(KK false)else(R3 (i64.wrap (v4+1)))))else(KK true)) 0)))
def CV(a0_i:Lt.Instr)(KK:Bool->Prop):Prop:=
 ab (α:=Bool) (fun J1=>if(!((Lt.Of a0_i.Op).2))=true then(J1 true)else(if(!(((Lt.Of a0_i.Op).1).Dst==(!decide (a0_i.Dst=([]:List UInt8)))))=true then(J1 true)else(if(!(((Lt.Of a0_i.Op).1).Named==(!decide (a0_i.Name=([]:List UInt8)))))=true then(J1 true)else(if(((Lt.Of a0_i.Op).1).Dst)=true then(if(!(Lt.Name a0_i.Dst))=true then(J1 true)else(if(((Lt.Of a0_i.Op).1).Named)=true then(J1 (!(Lt.Name a0_i.Name)))else(J1 false)))else(if(((Lt.Of a0_i.Op).1).Named)=true then(J1 (!(Lt.Name a0_i.Name)))else(J1 false)))))) (fun v2=>if v2=true then(KK false)else(ab (α:=Bool) (fun J3=>(a0_i.Args.length<=4611686018427387904->if(decide ((a0_i.Args.length:Int) < ((Lt.Of a0_i.Op).1).Least))=true then(J3 true)else(if(decide (((Lt.Of a0_i.Op).1).Most < (a0_i.Args.length:Int)))=true then(J3 true)else(if(!(cZ a0_i.Args false))=true then(J3 true)else(if(decide (16 < (a0_i.Frames.length:Int)))=true then(J3 true)else(J3 (decide (99 < (a0_i.Objs.length:Int))))))))) (fun v4=>if v4=true then(KK false)else(ab (α:=Bool) (fun J5=>if(!decide (a0_i.Op=31))=true then(J5 (!decide (a0_i.Op=34)))else(J5 false)) (fun v6=>if v6=true then((a0_i.Frames.length<=4611686018427387904->if(decide ((a0_i.Frames.length:Int)=0))=true then(KK (decide ((a0_i.Objs.length:Int)=0)))else(KK false)))else((a0_i.Frames.length<=4611686018427387904->af (α:=Int) (fun R7 v8=>if(decide (v8 < (a0_i.Frames.length:Int)))=true then(((0:Int)<=v8/\v8.toNat<a0_i.Frames.length)/\if(!(Lt.frame (a0_i.Frames.getD v8.toNat default)))=true then(KK false)else(R7 (i64.wrap (v8+1))))else((a0_i.Objs.length<=4611686018427387904->af (α:=Int) (fun R9 v10=>have z1:=a0_i.Objs.getD v10.toNat default;if(decide (v10 < (a0_i.Objs.length:Int)))=true then(((0:Int)<=v10/\v10.toNat<a0_i.Objs.length)/\ab (α:=Bool) (fun J11=>if(!(Lt.Name (z1.Class)))=true then(J11 true)else(if(decide (8 < ((z1.Vals).length:Int)))=true then(J11 true)else(J11 (!(cZ (z1.Vals) true))))) (fun v12=>if v12=true then(KK false)else(R9 (i64.wrap (v10+1)))))else(KK true)) 0))) 0)))))))
def CS(a0_b:Lt.Block)(KK:Bool->Prop):Prop:=
 ab (α:=Bool) (fun J1=>if(!(Lt.Name a0_b.Name))=true then(J1 true)else(J1 (!(tf a0_b.End)))) (fun v2=>if v2=true then(KK false)else((a0_b.Phis.length<=4611686018427387904->af (α:=Int) (fun R3 v4=>if(decide (v4 < (a0_b.Phis.length:Int)))=true then(((0:Int)<=v4/\v4.toNat<a0_b.Phis.length)/\if(!(Lt.phi (a0_b.Phis.getD v4.toNat default)))=true then(KK false)else(R3 (i64.wrap (v4+1))))else((a0_b.Code.length<=4611686018427387904->af (α:=Int) (fun R5 v6=>if(decide (v6 < (a0_b.Code.length:Int)))=true then(((0:Int)<=v6/\v6.toNat<a0_b.Code.length)/\if(!(Lt.instr (a0_b.Code.getD v6.toNat default)))=true then(KK false)else(R5 (i64.wrap (v6+1))))else(KK true)) 0))) 0)))
def jM(a0_f:Lt.Func)(KK:Bool->Prop):Prop:=
 ab (α:=Bool) (fun J1=>if(!(Lt.Name a0_f.Name))=true then(J1 true)else(if(!(Lt.kind a0_f.Result))=true then(J1 true)else(if(!(Lt.typed a0_f.Params 6))=true then(J1 true)else(if(!(Lt.typed a0_f.Vars 1024))=true then(J1 true)else(if(decide ((a0_f.Blocks.length:Int)=0))=true then(J1 true)else(J1 (decide (256 < (a0_f.Blocks.length:Int))))))))) (fun v2=>if v2=true then(KK false)else((a0_f.Blocks.length<=4611686018427387904->af (α:=Int×Int) (fun R3 v4=>have z1:=a0_f.Blocks.getD v4.2.toNat default;have z2:=(i64.wrap (v4.1+(i64.wrap (((z1.Phis).length:Int)+((z1.Code).length:Int)))));if(decide (v4.2 < (a0_f.Blocks.length:Int)))=true then(((0:Int)<=v4.2/\v4.2.toNat<a0_f.Blocks.length)/\ab (α:=Bool) (fun J5=>((z1.Phis).length<=4611686018427387904->if(decide (1024 < ((z1.Phis).length:Int)))=true then(J5 true)else(J5 (decide (1024 < ((z1.Code).length:Int)))))) (fun v6=>if v6=true then(KK false)else(((z1.Phis).length<=4611686018427387904->((z1.Code).length<=4611686018427387904->ab (α:=Bool) (fun J7=>if(decide (1024<z2))=true then(J7 true)else(J7 (!(Lt.block (Lt.Block.mk (z1.Name) (z1.Phis) (z1.Code) (Lt.Term.mk ((z1.End).Kind) ((z1.End).A) ((z1.End).To) ((z1.End).N))))))) (fun v8=>if v8=true then(KK false)else(R3 (z2,(i64.wrap (v4.2+1))))))))))else(KK true)) (0,0))))
def nW(a0_p:Lt.Program)(KK:Bool->Prop):Prop:=
 ab (α:=Bool) (fun J1=>(a0_p.Classes.length<=4611686018427387904->if(decide (8 < (a0_p.Classes.length:Int)))=true then(J1 true)else(if(decide (8 < (a0_p.Externs.length:Int)))=true then(J1 true)else(if(decide (8 < (a0_p.Funcs.length:Int)))=true then(J1 true)else(J1 (!(Lt.typed a0_p.Globals 8))))))) (fun v2=>if v2=true then(KK false)else((a0_p.Classes.length<=4611686018427387904->af (α:=Int) (fun R3 v4=>if(decide (v4 < (a0_p.Classes.length:Int)))=true then(((0:Int)<=v4/\v4.toNat<a0_p.Classes.length)/\ab (α:=Bool) (fun J5=>if(!(Lt.Name ((a0_p.Classes.getD v4.toNat default).Name)))=true then(J5 true)else(J5 (!(Lt.typed ((a0_p.Classes.getD v4.toNat default).Fields) 8)))) (fun v6=>if v6=true then(KK false)else(R3 (i64.wrap (v4+1)))))else((a0_p.Externs.length<=4611686018427387904->af (α:=Int) (fun R7 v8=>have z1:=a0_p.Externs.getD v8.toNat default;if(decide (v8 < (a0_p.Externs.length:Int)))=true then(((0:Int)<=v8/\v8.toNat<a0_p.Externs.length)/\ab (α:=Bool) (fun J9=>if(!(Lt.Name (z1.Name)))=true then(J9 true)else(if(decide (z1.N < 0))=true then(J9 true)else(J9 (decide (8<z1.N))))) (fun v10=>if v10=true then(KK false)else(R7 (i64.wrap (v8+1)))))else((a0_p.Funcs.length<=4611686018427387904->af (α:=Int) (fun R11 v12=>if(decide (v12 < (a0_p.Funcs.length:Int)))=true then(((0:Int)<=v12/\v12.toNat<a0_p.Funcs.length)/\if(!(cG (a0_p.Funcs.getD v12.toNat default)))=true then(KK false)else(R11 (i64.wrap (v12+1))))else(KK true)) 0))) 0))) 0)))
def mM(a0_p:Lt.Program)(KK:Bool->Prop):Prop:=
 ab (α:=Bool) (fun J1=>if(!Dp)=true then(J1 true)else((Eh a0_p 6000)/\J1 (!(Lt.Few a0_p 6000)))) (fun v2=>if v2=true then(KK Dp)else((mm a0_p)/\(cw a0_p)/\(mm a0_p)/\KK (decide ((nl a0_p)=(nl a0_p)))))
def CR(a0_f:Lt.Func)(KK:(List (Option (List ((List UInt8)×Bool))))->Prop):Prop:=
 have z5:=(a0_f.Blocks.length:Int);have z8:=((0:Int)<=z5/\z5<=4611686018427387904/\8*z5.toNat<=281474976710656);(qu a0_f)/\(oP (gD a0_f))/\(sZ (gD a0_f))/\(∀y1:List Int,uX (gD a0_f) y1->(a0_f.Blocks.length<=4611686018427387904->z8/\(a0_f.Blocks.length<=4611686018427387904->z8/\af (α:=List (Option (List ((List UInt8)×Bool)))×List (Option (List ((List UInt8)×Bool)))×Bool) (fun R2 v3=>if v3.2.2=true then((y1.length<=4611686018427387904->af (α:=List (Option (List ((List UInt8)×Bool)))×List (Option (List ((List UInt8)×Bool)))×Bool×Int) (fun R4 v5=>have z2:=y1.getD v5.2.2.2.toNat default;have z7:=((0:Int)<=z2/\z2 < ((v5.1.length:Nat):Int));have z6:=(eQ (gD a0_f)).getD z2.toNat [];have z4:=a0_f.Blocks.getD z2.toNat default;have z1:=Lt.Block.mk (z4.Name) (z4.Phis) (z4.Code) (Lt.Term.mk ((z4.End).Kind) ((z4.End).A) ((z4.End).To) ((z4.End).N));if(decide (v5.2.2.2 < (y1.length:Int)))=true then(((0:Int)<=v5.2.2.2/\v5.2.2.2.toNat<y1.length)/\ab (α:=Option (List ((List UInt8)×Bool))) (fun J6=>if(decide (z2=0))=true then(J6 (yd a0_f))else(J6 none)) (fun v7=>((0:Int)<=z2/\z2.toNat < (eQ (gD a0_f)).length)/\(z6.length<=4611686018427387904->af (α:=Option (List ((List UInt8)×Bool))×Int) (fun R8 v9=>have z3:=z6.getD v9.2.toNat default;if(decide (v9.2 < (z6.length:Int)))=true then(ab (α:=Option (List ((List UInt8)×Bool))) (fun J10=>((0:Int)<=v9.2/\v9.2.toNat<z6.length)/\((0:Int)<=z3/\z3 < ((v5.2.1.length:Nat):Int))/\if(!(v5.2.1.getD z3.toNat default).isNone)=true then(((0:Int)<=z3/\z3 < ((v5.2.1.length:Nat):Int))/\(Ei v9.1 (v5.2.1.getD z3.toNat default))/\(∀y12:Option (List ((List UInt8)×Bool)),zt v9.1 (v5.2.1.getD z3.toNat default) y12->J10 y12))else(J10 v9.1)) (fun v11=>R8 (v11,(i64.wrap (v9.2+1)))))else(ab (α:=Option (List ((List UInt8)×Bool))) (fun J13=>if v9.1.isNone=true then(J13 (some []))else(J13 v9.1)) (fun v14=>((0:Int)<=z2/\z2.toNat<a0_f.Blocks.length)/\(qt v14 z1)/\ab (α:=Bool) (fun J15=>ab (α:=Bool) (fun J17=>z7/\if((v5.1.getD z2.toNat default).isNone)=true then(J17 true)else(z7/\((v5.1.getD z2.toNat default).getD []).length<=4611686018427387904/\((jP v14 z1).getD []).length<=4611686018427387904/\J17 (!decide ((((v5.1.getD z2.toNat default).getD []).length:Int)=(((jP v14 z1).getD []).length:Int))))) (fun v18=>if v18=true then(J15 true)else(J15 v5.2.2.1))) (fun v16=>((0:Int)<=z2/\z2.toNat<a0_f.Blocks.length)/\(qt (jP v14 z1) z1)/\z7/\z2.toNat<v5.1.length/\((0:Int)<=z2/\z2 < ((v5.2.1.length:Nat):Int))/\z2.toNat<v5.2.1.length/\R4 ((v5.1.set z2.toNat (jP v14 z1)),(v5.2.1.set z2.toNat (iI (jP v14 z1) z1)),v16,(i64.wrap (v5.2.2.2+1))))))) (v7,0))))else(R2 (v5.1,v5.2.1,v5.2.2.1))) (v3.1,v3.2.1,false,0)))else(KK v3.1)) ((List.replicate z5.toNat (dflt (.mp .s .bo))),(List.replicate z5.toNat (dflt (.mp .s .bo))),true))))
def tT(a0_f:Lt.Func)(KK:Bool->Prop):Prop:=
 (oO a0_f)/\(∀y1:List (Option (List ((List UInt8)×Bool))),pR a0_f y1->(y1.length<=4611686018427387904->af (α:=Int×List ((List UInt8)×(Option (List ((List UInt8)×Bool))))) (fun R2 v3=>have z4:=y1.getD v3.1.toNat default;have z3:=((0:Int)<=v3.1/\v3.1.toNat<a0_f.Blocks.length);have z2:=a0_f.Blocks.getD v3.1.toNat default;have z1:=Lt.Block.mk (z2.Name) (z2.Phis) (z2.Code) (Lt.Term.mk ((z2.End).Kind) ((z2.End).A) ((z2.End).To) ((z2.End).N));if(decide (v3.1 < (y1.length:Int)))=true then(ab (α:=List ((List UInt8)×(Option (List ((List UInt8)×Bool))))) (fun J4=>((0:Int)<=v3.1/\v3.1.toNat<y1.length)/\z3/\(Mr z4 z1)/\if(!(jd z4 z1))=true then(KK false)else(z3/\(z3/\(qt z4 z1)/\J4 (bS .s v3.2 (z2.Name) (iI z4 z1)))/\((qt z4 z1)/\z3/\J4 (bS .s v3.2 (z2.Name) (iI z4 z1))))) (fun v5=>R2 ((i64.wrap (v3.1+1)),v5)))else((uY a0_f (some v3.2))/\KK (K5 a0_f (some v3.2)))) (0,[])))
def tR(a0_s:Option (List ((List UInt8)×Bool)))(a1_b:Lt.Block)(KK:Bool->Prop):Prop:=
 a0_s.isSome=true/\(a1_b.Code.length<=4611686018427387904->af (α:=Int×List ((List UInt8)×Bool)) (fun R1 v2=>have z1:=a1_b.Code.getD v2.1.toNat default;if(decide (v2.1 < (a1_b.Code.length:Int)))=true then(ab (α:=List ((List UInt8)×Bool)) (fun J3=>((0:Int)<=v2.1/\v2.1.toNat<a1_b.Code.length)/\ab (α:=Bool) (fun J5=>(eV z1)/\(∀y7:List (List UInt8),zu z1 y7->(y7.length<=4611686018427387904->af (α:=Int) (fun R8 v9=>if(decide (v9 < (y7.length:Int)))=true then(((0:Int)<=v9/\v9.toNat<y7.length)/\if(!((aI (β:=Bool) .s v2.2 (y7.getD v9.toNat default)).getD (dflt .bo)))=true then(J5 true)else(R8 (i64.wrap (v9+1))))else(J5 false)) 0))) (fun v6=>if v6=true then(KK false)else(if(!decide (z1.Dst=([]:List UInt8)))=true then(J3 (bS .s v2.2 (z1.Dst) true))else(J3 v2.2)))) (fun v4=>R1 ((i64.wrap (v2.1+1)),v4)))else(ab (α:=Bool) (fun J10=>if(!decide (a1_b.End.Kind=2))=true then(if(!decide (a1_b.End.Kind=3))=true then(J10 true)else(if(!decide (a1_b.End.A.Kind=1))=true then(J10 true)else(J10 ((aI (β:=Bool) .s v2.2 a1_b.End.A.S).getD (dflt .bo)))))else(if(!decide (a1_b.End.A.Kind=1))=true then(J10 true)else(J10 ((aI (β:=Bool) .s v2.2 a1_b.End.A.S).getD (dflt .bo))))) (fun v11=>KK v11))) (0,(a0_s.getD [])))
def xq(a0_f:Lt.Func)(a1_outs:Option (List ((List UInt8)×(Option (List ((List UInt8)×Bool))))))(KK:Bool->Prop):Prop:=
 (a0_f.Blocks.length<=4611686018427387904->af (α:=Int) (fun R1 v2=>have z2:=a0_f.Blocks.getD v2.toNat default;if(decide (v2 < (a0_f.Blocks.length:Int)))=true then(((0:Int)<=v2/\v2.toNat<a0_f.Blocks.length)/\((z2.Phis).length<=4611686018427387904->af (α:=Int) (fun R3 v4=>have z1:=((z2.Phis).getD v4.toNat default).Ins;if(decide (v4 < ((z2.Phis).length:Int)))=true then(((0:Int)<=v4/\v4.toNat < (z2.Phis).length)/\(z1.length<=4611686018427387904->af (α:=Int) (fun R5 v6=>have z4:=z1.getD v6.toNat default;have z3:=aI (β:=Option (List ((List UInt8)×Bool))) .s (a1_outs.getD []) (z4.Block);if(decide (v6 < (z1.length:Int)))=true then(((0:Int)<=v6/\v6.toNat<z1.length)/\ab (α:=Bool) (fun J7=>if(z3.isSome)=true then(if(Do a0_f (z4.Block) (z2.Name))=true then(if(!decide ((z4.A).Kind=1))=true then(J7 false)else(J7 (!((aI (β:=Bool) .s ((z3.getD (dflt (.mp .s .bo))).getD []) ((z4.A).S)).getD (dflt .bo)))))else(J7 false))else(J7 false)) (fun v8=>if v8=true then(KK false)else(R5 (i64.wrap (v6+1)))))else(R3 (i64.wrap (v4+1)))) 0))else(R1 (i64.wrap (v2+1)))) 0))else(KK true)) 0)
def tS(a0_f:Lt.Func)(a1_from:List UInt8)(a2_to:List UInt8)(KK:Bool->Prop):Prop:=
 (a0_f.Blocks.length<=4611686018427387904->af (α:=Int) (fun R1 v2=>if(decide (v2 < (a0_f.Blocks.length:Int)))=true then(((0:Int)<=v2/\v2.toNat<a0_f.Blocks.length)/\if(decide ((a0_f.Blocks.getD v2.toNat default).Name=a1_from))=true then(KK (DI (((a0_f.Blocks.getD v2.toNat default).End).To) a2_to))else(R1 (i64.wrap (v2+1))))else(KK false)) 0)
def xu(a0_i:Lt.Instr)(KK:(List (List UInt8))->Prop):Prop:=
 (a0_i.Args.length<=4611686018427387904->af (α:=Int×List ((List UInt8)×Bool)) (fun R1 v2=>if(decide (v2.1 < (a0_i.Args.length:Int)))=true then(ab (α:=List ((List UInt8)×Bool)) (fun J3=>((0:Int)<=v2.1/\v2.1.toNat<a0_i.Args.length)/\if(decide ((a0_i.Args.getD v2.1.toNat default).Kind=1))=true then(J3 (bS .s v2.2 ((a0_i.Args.getD v2.1.toNat default).S) true))else(J3 v2.2)) (fun v4=>R1 ((i64.wrap (v2.1+1)),v4)))else((a0_i.Frames.length<=4611686018427387904->af (α:=Int×List ((List UInt8)×Bool)) (fun R5 v6=>have z1:=(a0_i.Frames.getD v6.1.toNat default).Vars;if(decide (v6.1 < (a0_i.Frames.length:Int)))=true then(((0:Int)<=v6.1/\v6.1.toNat<a0_i.Frames.length)/\(z1.length<=4611686018427387904->af (α:=Int×List ((List UInt8)×Bool)) (fun R7 v8=>if(decide (v8.1 < (z1.length:Int)))=true then(ab (α:=List ((List UInt8)×Bool)) (fun J9=>((0:Int)<=v8.1/\v8.1.toNat<z1.length)/\if(decide (((z1.getD v8.1.toNat default).A).Kind=1))=true then(J9 (bS .s v8.2 (((z1.getD v8.1.toNat default).A).S) true))else(J9 v8.2)) (fun v10=>R7 ((i64.wrap (v8.1+1)),v10)))else(R5 ((i64.wrap (v6.1+1)),v8.2))) (0,v6.2)))else((a0_i.Objs.length<=4611686018427387904->af (α:=Int×List ((List UInt8)×Bool)) (fun R11 v12=>have z2:=(a0_i.Objs.getD v12.1.toNat default).Vals;if(decide (v12.1 < (a0_i.Objs.length:Int)))=true then(((0:Int)<=v12.1/\v12.1.toNat<a0_i.Objs.length)/\(z2.length<=4611686018427387904->af (α:=Int×List ((List UInt8)×Bool)) (fun R13 v14=>if(decide (v14.1 < (z2.length:Int)))=true then(ab (α:=List ((List UInt8)×Bool)) (fun J15=>((0:Int)<=v14.1/\v14.1.toNat<z2.length)/\if(decide ((z2.getD v14.1.toNat default).Kind=1))=true then(J15 (bS .s v14.2 ((z2.getD v14.1.toNat default).S) true))else(J15 v14.2)) (fun v16=>R13 ((i64.wrap (v14.1+1)),v16)))else(R11 ((i64.wrap (v12.1+1)),v14.2))) (0,v12.2)))else((iz (some v12.2))/\(∀y17:List (List UInt8),fE (some v12.2) y17->KK y17))) (0,v6.2)))) (0,v2.2)))) (0,[]))
def qI(a0_p:Lt.Program)(KK:Int->Prop):Prop:=
 have z3:=(([(Lt.Asked.mk (Lt.Clo.mk 18 [.Program a0_p]) 3),(Lt.Asked.mk (Lt.Clo.mk 21 [.Program a0_p]) 2),(Lt.Asked.mk (Lt.Clo.mk 23 [.Program a0_p]) 4)].length:Nat):Int);([(Lt.Asked.mk (Lt.Clo.mk 18 [.Program a0_p]) 3),(Lt.Asked.mk (Lt.Clo.mk 21 [.Program a0_p]) 2),(Lt.Asked.mk (Lt.Clo.mk 23 [.Program a0_p]) 4)].length<=4611686018427387904->((0:Int)<=0/\0<z3)/\if(dY a0_p)=true then(if(!(gO a0_p))=true then(KK 3)else(((0:Int)<=1/\1<z3)/\(uZ a0_p)/\if(!(ik a0_p))=true then(KK 2)else(((0:Int)<=2/\2<z3)/\(kf a0_p)/\if(!(eX a0_p))=true then(KK 4)else((a0_p.Funcs.length<=4611686018427387904->af (α:=Int) (fun R1 v2=>have z2:=a0_p.Funcs.getD v2.toNat default;have z1:=(([(Lt.Asked.mk (Lt.Clo.mk 25 [.Func z2]) 5),(Lt.Asked.mk (Lt.Clo.mk 27 [.Program a0_p,.Func z2]) 4),(Lt.Asked.mk (Lt.Clo.mk 29 [.Func z2]) 4)].length:Nat):Int);if(decide (v2 < (a0_p.Funcs.length:Int)))=true then(((0:Int)<=v2/\v2.toNat<a0_p.Funcs.length)/\([(Lt.Asked.mk (Lt.Clo.mk 25 [.Func z2]) 5),(Lt.Asked.mk (Lt.Clo.mk 27 [.Program a0_p,.Func z2]) 4),(Lt.Asked.mk (Lt.Clo.mk 29 [.Func z2]) 4)].length<=4611686018427387904->((0:Int)<=0/\0<z1)/\(Mt z2)/\if(!(e9 z2))=true then(KK 5)else(((0:Int)<=1/\1<z1)/\(kh a0_p z2)/\if(!(mZ a0_p z2))=true then(KK 4)else(((0:Int)<=2/\2<z1)/\(Ms z2)/\if(!(je z2))=true then(KK 4)else(R1 (i64.wrap (v2+1)))))))else(KK 0)) 0)))))else(KK 3))
def t7(a0_f:Lt.Func)(a1_name:List UInt8)(KK:(Int×Bool)->Prop):Prop:=
 (a0_f.Blocks.length<=4611686018427387904->af (α:=Int) (fun R1 v2=>if(decide (v2 < (a0_f.Blocks.length:Int)))=true then(((0:Int)<=v2/\v2.toNat<a0_f.Blocks.length)/\if(decide ((a0_f.Blocks.getD v2.toNat default).Name=a1_name))=true then(KK (v2,true))else(R1 (i64.wrap (v2+1))))else(KK (0,false))) 0)
def CW(a0_s:List Int)(a1_v:Int)(KK:Int->Prop):Prop:=
 (a0_s.length<=4611686018427387904->af (α:=Int) (fun R1 v2=>if(decide (v2 < (a0_s.length:Int)))=true then(((0:Int)<=v2/\v2.toNat<a0_s.length)/\if(decide (a1_v=(a0_s.getD v2.toNat default)))=true then(KK v2)else(R1 (i64.wrap (v2+1))))else(KK (-1))) 0)
def Fz(a0_s:List Int)(a1_v:Int)(KK:Bool->Prop):Prop:=
 KK (decide (0<=(Ce a0_s a1_v)))
def CX(a0_s:List (List UInt8))(a1_v:List UInt8)(KK:Int->Prop):Prop:=
 (a0_s.length<=4611686018427387904->af (α:=Int) (fun R1 v2=>if(decide (v2 < (a0_s.length:Int)))=true then(((0:Int)<=v2/\v2.toNat<a0_s.length)/\if(decide (a1_v=(a0_s.getD v2.toNat default)))=true then(KK v2)else(R1 (i64.wrap (v2+1))))else(KK (-1))) 0)
def FA(a0_s:List (List UInt8))(a1_v:List UInt8)(KK:Bool->Prop):Prop:=
 KK (decide (0<=(Ip a0_s a1_v)))
def Kw(a0_f:Lt.Func)(KK:(List (List Int))->Prop):Prop:=
 have z3:=(a0_f.Blocks.length:Int);(a0_f.Blocks.length<=4611686018427387904->((0:Int)<=z3/\z3<=4611686018427387904/\24*z3.toNat<=281474976710656)/\(a0_f.Blocks.length<=4611686018427387904->af (α:=List (List Int)×Int) (fun R1 v2=>have z1:=((a0_f.Blocks.getD v2.2.toNat default).End).To;if(decide (v2.2<z3))=true then(((0:Int)<=v2.2/\v2.2.toNat<a0_f.Blocks.length)/\(z1.length<=4611686018427387904->af (α:=List (List Int)×Int) (fun R3 v4=>have z2:=gW a0_f (z1.getD v4.2.toNat default);if(decide (v4.2 < (z1.length:Int)))=true then(ab (α:=List (List Int)) (fun J5=>((0:Int)<=v4.2/\v4.2.toNat<z1.length)/\if(z2.2)=true then(((0:Int)<=v2.2/\v2.2 < ((v4.1.length:Nat):Int))/\((v4.1.getD v2.2.toNat []).length+([z2.1]:List Int).length<=4611686018427387904/\((v4.1.getD v2.2.toNat []).length+([z2.1]:List Int).length)*8<=140737488355328)/\((0:Int)<=v2.2/\v2.2 < ((v4.1.length:Nat):Int))/\v2.2.toNat<v4.1.length/\v2.2.toNat=v2.2.toNat/\J5 (v4.1.set v2.2.toNat ((v4.1.getD v2.2.toNat [])++([z2.1]:List Int))))else(J5 v4.1)) (fun v6=>R3 (v6,(i64.wrap (v4.2+1)))))else(R1 (v4.1,(i64.wrap (v2.2+1))))) (v2.1,0)))else(KK v2.1)) ((List.replicate z3.toNat (dflt (.sl (.i .i64)))),0)))
def tX(a0_g:List (List Int))(KK:(List (List Int))->Prop):Prop:=
 (a0_g.length<=4611686018427387904->((0:Int)<=(a0_g.length:Int)/\(a0_g.length:Int)<=4611686018427387904/\24*(a0_g.length:Int).toNat<=281474976710656)/\(a0_g.length<=4611686018427387904->af (α:=List (List Int)×Int) (fun R1 v2=>have z3:=a0_g.getD v2.2.toNat [];if(decide (v2.2 < (a0_g.length:Int)))=true then(((0:Int)<=v2.2/\v2.2.toNat<a0_g.length)/\(z3.length<=4611686018427387904->af (α:=List (List Int)×Int) (fun R3 v4=>have z1:=z3.getD v4.2.toNat default;have z2:=((0:Int)<=z1/\z1 < ((v4.1.length:Nat):Int));if(decide (v4.2 < (z3.length:Int)))=true then(ab (α:=List (List Int)) (fun J5=>((0:Int)<=v4.2/\v4.2.toNat<z3.length)/\ab (α:=Bool) (fun J7=>if(decide (0<=z1))=true then(if(decide (z1 < (a0_g.length:Int)))=true then(z2/\True/\J7 (!(uI (v4.1.getD z1.toNat []) v2.2)))else(J7 false))else(J7 false)) (fun v8=>if v8=true then(z2/\((v4.1.getD z1.toNat []).length+([v2.2]:List Int).length<=4611686018427387904/\((v4.1.getD z1.toNat []).length+([v2.2]:List Int).length)*8<=140737488355328)/\z2/\z1.toNat<v4.1.length/\z1.toNat=z1.toNat/\J5 (v4.1.set z1.toNat ((v4.1.getD z1.toNat [])++([v2.2]:List Int))))else(J5 v4.1))) (fun v6=>R3 (v6,(i64.wrap (v4.2+1)))))else(R1 (v4.1,(i64.wrap (v2.2+1))))) (v2.1,0)))else(KK v2.1)) ((List.replicate (a0_g.length:Int).toNat (dflt (.sl (.i .i64)))),0)))
def qH(a0_f:Lt.Func)(KK:(Option (List ((List UInt8)×Bool)))->Prop):Prop:=
 (a0_f.Params.length<=4611686018427387904->af (α:=Int×List ((List UInt8)×Bool)) (fun R1 v2=>if(decide (v2.1 < (a0_f.Params.length:Int)))=true then(((0:Int)<=v2.1/\v2.1.toNat<a0_f.Params.length)/\R1 ((i64.wrap (v2.1+1)),(bS .s v2.2 ((a0_f.Params.getD v2.1.toNat default).Name) true)))else(KK (some v2.2))) (0,[]))
def xn(a0_s:Option (List ((List UInt8)×Bool)))(a1_b:Lt.Block)(KK:(Option (List ((List UInt8)×Bool)))->Prop):Prop:=
 a0_s.isSome=true/\(a1_b.Phis.length<=4611686018427387904->af (α:=Int×List ((List UInt8)×Bool)) (fun R1 v2=>if(decide (v2.1 < (a1_b.Phis.length:Int)))=true then(((0:Int)<=v2.1/\v2.1.toNat<a1_b.Phis.length)/\R1 ((i64.wrap (v2.1+1)),(bS .s v2.2 ((a1_b.Phis.getD v2.1.toNat default).Dst) true)))else(KK (some v2.2))) (0,(a0_s.getD [])))
def xm(a0_s:Option (List ((List UInt8)×Bool)))(a1_b:Lt.Block)(KK:(Option (List ((List UInt8)×Bool)))->Prop):Prop:=
 a0_s.isSome=true/\(a1_b.Code.length<=4611686018427387904->af (α:=Int×List ((List UInt8)×Bool)) (fun R1 v2=>if(decide (v2.1 < (a1_b.Code.length:Int)))=true then(ab (α:=List ((List UInt8)×Bool)) (fun J3=>((0:Int)<=v2.1/\v2.1.toNat<a1_b.Code.length)/\if(!decide ((a1_b.Code.getD v2.1.toNat default).Dst=([]:List UInt8)))=true then(J3 (bS .s v2.2 ((a1_b.Code.getD v2.1.toNat default).Dst) true))else(J3 v2.2)) (fun v4=>R1 ((i64.wrap (v2.1+1)),v4)))else(KK (some v2.2))) (0,(a0_s.getD [])))
def xp(a0_a:Option (List ((List UInt8)×Bool)))(a1_b:Option (List ((List UInt8)×Bool)))(KK:(Option (List ((List UInt8)×Bool)))->Prop):Prop:=
 if a0_a.isNone=true then(KK a1_b)else(af (α:=List ((List UInt8)×Bool)×List ((List UInt8)×Bool)) (fun R1 v2=>(v2.2=[]->KK (some v2.1))/\∀i3:Nat,i3<v2.2.length->if((aI (β:=Bool) .s (a1_b.getD []) ((v2.2.getD i3 default).1)).getD (dflt .bo))=true then(R1 ((bS .s v2.1 ((v2.2.getD i3 default).1) true),(v2.2.eraseIdx i3)))else(R1 (v2.1,(v2.2.eraseIdx i3)))) ([],(a0_a.getD [])))
def tY(a0_f:Lt.Func)(KK:Bool->Prop):Prop:=
 have z6:=(a0_f.Blocks.length:Int);(a0_f.Blocks.length<=4611686018427387904->if(decide (z6=0))=true then(KK false)else((a0_f.Blocks.length<=4611686018427387904->(a0_f.Blocks.length<=4611686018427387904->af (α:=Int×List ((List UInt8)×Int)) (fun R1 v2=>if(decide (v2.1<z6))=true then(((0:Int)<=v2.1/\v2.1.toNat<a0_f.Blocks.length)/\if((aI (β:=Int) .s v2.2 ((a0_f.Blocks.getD v2.1.toNat default).Name)).isSome)=true then(KK false)else(R1 ((i64.wrap (v2.1+1)),(bS .s v2.2 ((a0_f.Blocks.getD v2.1.toNat default).Name) v2.1))))else((a0_f.Blocks.length<=4611686018427387904->af (α:=Int) (fun R3 v4=>have z5:=((a0_f.Blocks.getD v4.toNat default).End).To;if(decide (v4<z6))=true then(((0:Int)<=v4/\v4.toNat<a0_f.Blocks.length)/\(z5.length<=4611686018427387904->af (α:=Int×List ((List UInt8)×Bool)) (fun R5 v6=>have z7:=z5.getD v6.1.toNat default;if(decide (v6.1 < (z5.length:Int)))=true then(((0:Int)<=v6.1/\v6.1.toNat<z5.length)/\ab (α:=Bool) (fun J7=>if(!((aI (β:=Int) .s v2.2 z7).isSome))=true then(J7 true)else(if(decide (((aI (β:=Int) .s v2.2 z7).getD (dflt (.i .i64)))=0))=true then(J7 true)else(J7 ((aI (β:=Bool) .s v6.2 z7).getD (dflt .bo))))) (fun v8=>if v8=true then(KK false)else(R5 ((i64.wrap (v6.1+1)),(bS .s v6.2 z7 true)))))else(R3 (i64.wrap (v4+1)))) (0,[])))else(if false=true then(KK false)else((a0_f.Blocks.length<=4611686018427387904->((0:Int)<=z6/\z6<=4611686018427387904/\1*z6.toNat<=281474976710656)/\((0:Int)<=0/\0 < (((List.replicate z6.toNat (dflt .bo)).length:Nat):Int))/\0 < (List.replicate z6.toNat (dflt .bo)).length/\af (α:=List Bool×List Int) (fun R9 v10=>have z4:=(i64.wrap ((v10.2.length:Int) - 1));have z3:=(a0_f.Blocks.getD (v10.2.getD z4.toNat default).toNat default);(v10.2.length<=4611686018427387904->if(decide (0 < (v10.2.length:Int)))=true then(ab (α:=Lt.Block) (fun J11=>have z1:=(((0:Int)<=(v10.2.getD z4.toNat default)/\(v10.2.getD z4.toNat default).toNat<a0_f.Blocks.length)/\J11 (Lt.Block.mk (z3.Name) (z3.Phis) (z3.Code) (Lt.Term.mk ((z3.End).Kind) ((z3.End).A) ((z3.End).To) ((z3.End).N))));(v10.2.length<=4611686018427387904->((0:Int)<=z4/\z4 < ((v10.2.length:Nat):Int))/\(z1/\z1)/\(z1/\z1)/\z1)) (fun v12=>(v10.2.length<=4611686018427387904->((0:Int)<=z4/\z4.toNat<=v10.2.length)/\(v12.End.To.length<=4611686018427387904->af (α:=List Bool×List Int×Int) (fun R13 v14=>have z2:=(aI (β:=Int) .s v2.2 (v12.End.To.getD v14.2.2.toNat default)).getD (dflt (.i .i64));if(decide (v14.2.2 < (v12.End.To.length:Int)))=true then(ab (α:=List Bool×List Int) (fun J15=>((0:Int)<=v14.2.2/\v14.2.2.toNat<v12.End.To.length)/\((0:Int)<=z2/\z2 < ((v14.1.length:Nat):Int))/\if(!(v14.1.getD z2.toNat default))=true then(((0:Int)<=z2/\z2 < ((v14.1.length:Nat):Int))/\z2.toNat<v14.1.length/\(v14.2.1.length+([z2]:List Int).length<=4611686018427387904/\(v14.2.1.length+([z2]:List Int).length)*8<=140737488355328)/\J15 ((v14.1.set z2.toNat true),(v14.2.1++([z2]:List Int))))else(J15 (v14.1,v14.2.1))) (fun v16=>R13 (v16.1,v16.2,(i64.wrap (v14.2.2+1)))))else(R9 (v14.1,v14.2.1))) (v10.1,(v10.2.take z4.toNat),0)))))else((v10.1.length<=4611686018427387904->af (α:=Int) (fun R17 v18=>if(decide (v18 < (v10.1.length:Int)))=true then(((0:Int)<=v18/\v18 < ((v10.1.length:Nat):Int))/\if(!(v10.1.getD v18.toNat default))=true then(KK false)else(R17 (i64.wrap (v18+1))))else(KK true)) 0)))) (((List.replicate z6.toNat (dflt .bo)).set 0 true),[0]))))) 0))) (0,[])))))
def xz(a0_p:Lt.Program)(a1_name:List UInt8)(KK:(Lt.Class×Bool)->Prop):Prop:=
 (a0_p.Classes.length<=4611686018427387904->af (α:=Int) (fun R1 v2=>if(decide (v2 < (a0_p.Classes.length:Int)))=true then(((0:Int)<=v2/\v2.toNat<a0_p.Classes.length)/\if(decide ((a0_p.Classes.getD v2.toNat default).Name=a1_name))=true then(KK ((a0_p.Classes.getD v2.toNat default),true))else(R1 (i64.wrap (v2+1))))else(KK ((Lt.Class.mk ([]:List UInt8) []),false))) 0)
def C6(a0_p:Lt.Program)(a1_name:List UInt8)(KK:(Lt.Func×Bool)->Prop):Prop:=
 (a0_p.Funcs.length<=4611686018427387904->af (α:=Int) (fun R1 v2=>if(decide (v2 < (a0_p.Funcs.length:Int)))=true then(((0:Int)<=v2/\v2.toNat<a0_p.Funcs.length)/\if(decide ((a0_p.Funcs.getD v2.toNat default).Name=a1_name))=true then(KK ((a0_p.Funcs.getD v2.toNat default),true))else(R1 (i64.wrap (v2+1))))else(KK ((Lt.Func.mk ([]:List UInt8) ([]:List UInt8) [] [] []),false))) 0)
def ua(a0_p:Lt.Program)(a1_name:List UInt8)(KK:(Lt.Var×Bool)->Prop):Prop:=
 (a0_p.Globals.length<=4611686018427387904->af (α:=Int) (fun R1 v2=>if(decide (v2 < (a0_p.Globals.length:Int)))=true then(((0:Int)<=v2/\v2.toNat<a0_p.Globals.length)/\if(decide ((a0_p.Globals.getD v2.toNat default).Name=a1_name))=true then(KK ((a0_p.Globals.getD v2.toNat default),true))else(R1 (i64.wrap (v2+1))))else(KK ((Lt.Var.mk ([]:List UInt8) ([]:List UInt8)),false))) 0)
def t8(a0_p:Lt.Program)(a1_name:List UInt8)(KK:(Lt.Extern×Bool)->Prop):Prop:=
 (a0_p.Externs.length<=4611686018427387904->af (α:=Int) (fun R1 v2=>if(decide (v2 < (a0_p.Externs.length:Int)))=true then(((0:Int)<=v2/\v2.toNat<a0_p.Externs.length)/\if(decide ((a0_p.Externs.getD v2.toNat default).Name=a1_name))=true then(KK ((a0_p.Externs.getD v2.toNat default),true))else(R1 (i64.wrap (v2+1))))else(KK ((Lt.Extern.mk ([]:List UInt8) 0),false))) 0)
def nY(a0_f:Lt.Func)(a1_name:List UInt8)(KK:(Lt.Var×Bool)->Prop):Prop:=
 ab (α:=Bool×Lt.Var) (fun J1=>(a0_f.Params.length<=4611686018427387904->af (α:=Int) (fun R3 v4=>if(decide (v4 < (a0_f.Params.length:Int)))=true then(((0:Int)<=v4/\v4.toNat<a0_f.Params.length)/\if(decide ((a0_f.Params.getD v4.toNat default).Name=a1_name))=true then(J1 (true,(a0_f.Params.getD v4.toNat default)))else(R3 (i64.wrap (v4+1))))else(J1 (false,(Lt.Var.mk ([]:List UInt8) ([]:List UInt8))))) 0)) (fun v2=>if v2.1=true then(KK (v2.2,true))else((a0_f.Vars.length<=4611686018427387904->af (α:=Int) (fun R5 v6=>if(decide (v6 < (a0_f.Vars.length:Int)))=true then(((0:Int)<=v6/\v6.toNat<a0_f.Vars.length)/\if(decide ((a0_f.Vars.getD v6.toNat default).Name=a1_name))=true then(KK ((a0_f.Vars.getD v6.toNat default),true))else(R5 (i64.wrap (v6+1))))else(KK ((Lt.Var.mk ([]:List UInt8) ([]:List UInt8)),false))) 0)))
def xA(a0_p:Lt.Program)(a1_class:List UInt8)(a2_name:List UInt8)(KK:(Lt.Var×Bool)->Prop):Prop:=
 if(!((bQ a0_p a1_class).2))=true then(KK ((Lt.Var.mk ([]:List UInt8) ([]:List UInt8)),false))else(((((bQ a0_p a1_class).1).Fields).length<=4611686018427387904->af (α:=Int) (fun R1 v2=>if(decide (v2 < ((((bQ a0_p a1_class).1).Fields).length:Int)))=true then(((0:Int)<=v2/\v2.toNat < (((bQ a0_p a1_class).1).Fields).length)/\if(decide (((((bQ a0_p a1_class).1).Fields).getD v2.toNat default).Name=a2_name))=true then(KK (((((bQ a0_p a1_class).1).Fields).getD v2.toNat default),true))else(R1 (i64.wrap (v2+1))))else(KK ((Lt.Var.mk ([]:List UInt8) ([]:List UInt8)),false))) 0))
def SF(a0_f:Lt.Func)(a1_a:Lt.Arg)(KK:(List UInt8×Bool)->Prop):Prop:=
 if(decide (a1_a.Kind=1))=true then(KK (((kj a0_f a1_a.S).1).Type_,(kj a0_f a1_a.S).2))else(if(decide (a1_a.Kind=2))=true then(KK ([105,110,116],true))else(if(decide (a1_a.Kind=3))=true then(KK ([102,108,111,97,116],true))else(if(decide (a1_a.Kind=4))=true then(KK ([110,117,108,108],true))else(KK (([]:List UInt8),false)))))
def KF(a0_t:List UInt8)(KK:Bool->Prop):Prop:=
 if(!decide (a0_t=[105,110,116]))=true then(KK (!decide (a0_t=[102,108,111,97,116])))else(KK false)
def C5(a0_have:List UInt8)(a1_want:List UInt8)(KK:Bool->Prop):Prop:=
 ab (α:=Bool) (fun J1=>if(decide (a0_have=a1_want))=true then(J1 true)else(if(decide (a0_have=[110,117,108,108]))=true then(J1 (mq a1_want))else(J1 false))) (fun v2=>KK v2)
def KE(a0_args:List (List UInt8))(a1_l:List Lt.Var)(KK:Bool->Prop):Prop:=
 (a0_args.length<=4611686018427387904->(a1_l.length<=4611686018427387904->if(!decide ((a0_args.length:Int)=(a1_l.length:Int)))=true then(KK false)else((a0_args.length<=4611686018427387904->af (α:=Int) (fun R1 v2=>if(decide (v2 < (a0_args.length:Int)))=true then(((0:Int)<=v2/\v2.toNat<a0_args.length)/\((0:Int)<=v2/\v2.toNat<a1_l.length)/\if(!(fp (a0_args.getD v2.toNat default) ((a1_l.getD v2.toNat default).Type_)))=true then(KK false)else(R1 (i64.wrap (v2+1))))else(KK true)) 0))))
def xD(a0_p:Lt.Program)(a1_t:List UInt8)(KK:Bool->Prop):Prop:=
 ab (α:=Bool) (fun J1=>if(decide (a1_t=[105,110,116]))=true then(J1 true)else(if(decide (a1_t=[102,108,111,97,116]))=true then(J1 true)else(J1 ((bQ a0_p a1_t).2)))) (fun v2=>KK v2)
def nX(a0_p:Lt.Program)(a1_l:List Lt.Var)(KK:Bool->Prop):Prop:=
 (a1_l.length<=4611686018427387904->af (α:=Int) (fun R1 v2=>if(decide (v2 < (a1_l.length:Int)))=true then(((0:Int)<=v2/\v2.toNat<a1_l.length)/\if(!(iS a0_p ((a1_l.getD v2.toNat default).Type_)))=true then(KK false)else(R1 (i64.wrap (v2+1))))else((a1_l.length<=4611686018427387904->af (α:=Int×List ((List UInt8)×Bool)) (fun R3 v4=>if(decide (v4.1 < (a1_l.length:Int)))=true then(((0:Int)<=v4.1/\v4.1.toNat<a1_l.length)/\if((aI (β:=Bool) .s v4.2 ((a1_l.getD v4.1.toNat default).Name)).getD (dflt .bo))=true then(KK false)else(R3 ((i64.wrap (v4.1+1)),(bS .s v4.2 ((a1_l.getD v4.1.toNat default).Name) true))))else(KK true)) (0,[])))) 0)
def xB(a0_p:Lt.Program)(KK:Bool->Prop):Prop:=
 ab (α:=Bool) (fun J1=>(a0_p.Classes.length<=4611686018427387904->af (α:=Int×List ((List UInt8)×Bool)) (fun R3 v4=>if(decide (v4.1 < (a0_p.Classes.length:Int)))=true then(((0:Int)<=v4.1/\v4.1.toNat<a0_p.Classes.length)/\if((aI (β:=Bool) .s v4.2 ((a0_p.Classes.getD v4.1.toNat default).Name)).getD (dflt .bo))=true then(J1 true)else(R3 ((i64.wrap (v4.1+1)),(bS .s v4.2 ((a0_p.Classes.getD v4.1.toNat default).Name) true))))else((a0_p.Externs.length<=4611686018427387904->af (α:=Int×List ((List UInt8)×Bool)) (fun R5 v6=>if(decide (v6.1 < (a0_p.Externs.length:Int)))=true then(((0:Int)<=v6.1/\v6.1.toNat<a0_p.Externs.length)/\if((aI (β:=Bool) .s v6.2 ((a0_p.Externs.getD v6.1.toNat default).Name)).getD (dflt .bo))=true then(J1 true)else(R5 ((i64.wrap (v6.1+1)),(bS .s v6.2 ((a0_p.Externs.getD v6.1.toNat default).Name) true))))else((a0_p.Funcs.length<=4611686018427387904->af (α:=Int×List ((List UInt8)×Bool)) (fun R7 v8=>if(decide (v8.1 < (a0_p.Funcs.length:Int)))=true then(((0:Int)<=v8.1/\v8.1.toNat<a0_p.Funcs.length)/\if((aI (β:=Bool) .s v8.2 ((a0_p.Funcs.getD v8.1.toNat default).Name)).getD (dflt .bo))=true then(J1 true)else(R7 ((i64.wrap (v8.1+1)),(bS .s v8.2 ((a0_p.Funcs.getD v8.1.toNat default).Name) true))))else(J1 (!(cP a0_p a0_p.Globals)))) (0,[])))) (0,[])))) (0,[]))) (fun v2=>if v2=true then(KK false)else((a0_p.Classes.length<=4611686018427387904->af (α:=Int) (fun R9 v10=>if(decide (v10 < (a0_p.Classes.length:Int)))=true then(((0:Int)<=v10/\v10.toNat<a0_p.Classes.length)/\if(!(cP a0_p ((a0_p.Classes.getD v10.toNat default).Fields)))=true then(KK false)else(R9 (i64.wrap (v10+1))))else((a0_p.Funcs.length<=4611686018427387904->af (α:=Int) (fun R11 v12=>have z2:=a0_p.Funcs.getD v12.toNat default;if(decide (v12 < (a0_p.Funcs.length:Int)))=true then(((0:Int)<=v12/\v12.toNat<a0_p.Funcs.length)/\ab (α:=List Lt.Var) (fun J13=>have z1:=((([]:List Lt.Var).length+(z2.Params).length<=4611686018427387904/\(([]:List Lt.Var).length+(z2.Params).length)*32<=140737488355328)/\((z2.Params).length+(z2.Vars).length<=4611686018427387904/\((z2.Params).length+(z2.Vars).length)*32<=140737488355328)/\J13 ((z2.Params)++(z2.Vars)));(z1/\z1)/\((z1/\z1)/\z1)/\(z1/\z1)) (fun v14=>ab (α:=Bool) (fun J15=>if(!(iS a0_p (z2.Result)))=true then(J15 true)else(J15 (!(cP a0_p v14)))) (fun v16=>if v16=true then(KK false)else(R11 (i64.wrap (v12+1))))))else(KK true)) 0))) 0)))
def C7(a0_a:List UInt8)(a1_b:List UInt8)(KK:Bool->Prop):Prop:=
 ab (α:=Bool) (fun J1=>if(mq a0_a)=true then(if(mq a1_b)=true then(if(decide (a0_a=a1_b))=true then(J1 true)else(if(decide (a0_a=[110,117,108,108]))=true then(J1 true)else(J1 (decide (a1_b=[110,117,108,108])))))else(J1 false))else(J1 false)) (fun v2=>KK v2)
def C8(a0_q:Lt.asked)(a1_args:List UInt8)(a2_dst:List UInt8)(KK:Bool->Prop):Prop:=
 (a0_q.args.length<=4611686018427387904->af (α:=Int) (fun R1 v2=>if(decide (v2 < (a0_q.args.length:Int)))=true then(((0:Int)<=v2/\v2.toNat<a0_q.args.length)/\if(!decide ((a0_q.args.getD v2.toNat default)=a1_args))=true then(KK false)else(R1 (i64.wrap (v2+1))))else(KK (decide (a0_q.dst=a2_dst)))) 0)
def xE(a0_q:Lt.asked)(KK:Bool->Prop):Prop:=
 ab (α:=Bool) (fun J1=>if((bQ a0_q.p a0_q.i.Name).2)=true then(if(decide (a0_q.dst=((bQ a0_q.p a0_q.i.Name).1).Name))=true then(if(decide ((a0_q.args.length:Int)=0))=true then(J1 true)else(J1 (ki a0_q.args (((bQ a0_q.p a0_q.i.Name).1).Fields))))else(J1 false))else(J1 false)) (fun v2=>KK v2)
def ub(a0_q:Lt.asked)(KK:(Lt.Var×Bool)->Prop):Prop:=
 ((0:Int)<=0/\0<a0_q.i.Args.length)/\if(!decide ((a0_q.i.Args.getD 0 default).Kind=1))=true then(KK ((Lt.Var.mk ([]:List UInt8) ([]:List UInt8)),false))else(((0:Int)<=0/\0<a0_q.args.length)/\KK (((pS a0_q.p (a0_q.args.getD 0 default) a0_q.i.Name).1),(pS a0_q.p (a0_q.args.getD 0 default) a0_q.i.Name).2))
def qM(a0_q:Lt.asked)(KK:Bool->Prop):Prop:=
 if(decide (a0_q.i.Op=29))=true then(if((eH a0_q.p a0_q.i.Name).2)=true then(KK (decide (((eH a0_q.p a0_q.i.Name).1).Type_=a0_q.dst)))else(KK false))else(if((eH a0_q.p a0_q.i.Name).2)=true then(((0:Int)<=0/\0<a0_q.args.length)/\KK (fp (a0_q.args.getD 0 default) (((eH a0_q.p a0_q.i.Name).1).Type_)))else(KK false))
def uc(a0_q:Lt.asked)(KK:Bool->Prop):Prop:=
 have z1:=((0:Int)<=0/\0<a0_q.args.length);if(decide (a0_q.i.Op<=14))=true then(KK (lm a0_q [105,110,116] [105,110,116]))else(if(decide (a0_q.i.Op<=18))=true then(KK (lm a0_q [102,108,111,97,116] [102,108,111,97,116]))else(if(decide (a0_q.i.Op<=21))=true then(KK (lm a0_q [102,108,111,97,116] [105,110,116]))else(if(decide (a0_q.i.Op=22))=true then(KK (lm a0_q [105,110,116] [102,108,111,97,116]))else(if(decide (a0_q.i.Op=23))=true then(KK (lm a0_q [102,108,111,97,116] [105,110,116]))else(if(decide (a0_q.i.Op=24))=true then(z1/\KK (fp (a0_q.args.getD 0 default) a0_q.dst))else(if(decide (a0_q.i.Op=25))=true then(KK (Aa a0_q))else(if(decide (a0_q.i.Op=26))=true then((Ej a0_q)/\if((gc a0_q).2)=true then(KK (decide (((gc a0_q).1).Type_=a0_q.dst)))else(KK false))else(if(decide (a0_q.i.Op=27))=true then((Ej a0_q)/\if((gc a0_q).2)=true then(((0:Int)<=1/\1<a0_q.args.length)/\KK (fp (a0_q.args.getD 1 default) (((gc a0_q).1).Type_)))else(KK false))else(if(decide (a0_q.i.Op=28))=true then(if(decide (a0_q.dst=[105,110,116]))=true then(z1/\((0:Int)<=1/\1<a0_q.args.length)/\KK (Jx (a0_q.args.getD 0 default) (a0_q.args.getD 1 default)))else(KK false))else(ab (α:=Bool) (fun J1=>if(decide (a0_q.i.Op=29))=true then(J1 (decide (a0_q.i.Op=29)))else(J1 (decide (a0_q.i.Op=30)))) (fun v2=>if v2=true then((Ek a0_q)/\KK (o6 a0_q))else(if(decide (a0_q.i.Op=31))=true then(ab (α:=Bool) (fun J3=>if((oS a0_q.p a0_q.i.Name).2)=true then(if(ki a0_q.args (((oS a0_q.p a0_q.i.Name).1).Params))=true then(J3 (decide (a0_q.dst=((oS a0_q.p a0_q.i.Name).1).Result)))else(J3 false))else(J3 false)) (fun v4=>KK v4))else(if(decide (a0_q.i.Op=32))=true then(ab (α:=Bool) (fun J5=>if((mn a0_q.p a0_q.i.Name).2)=true then(if(decide ((a0_q.args.length:Int)=((mn a0_q.p a0_q.i.Name).1).N))=true then(J5 (lm a0_q [105,110,116] [105,110,116]))else(J5 false))else(J5 false)) (fun v6=>KK v6))else(if(decide (a0_q.i.Op=33))=true then(z1/\KK (!(mq (a0_q.args.getD 0 default))))else(KK true)))))))))))))))
def KC(a0_p:Lt.Program)(a1_f:Lt.Func)(a2_i:Lt.Instr)(KK:(Lt.asked×Bool)->Prop):Prop:=
 have z1:=(Lt.asked.mk (Lt.Program.mk false [] [] [] []) (Lt.Instr.mk 0 ([]:List UInt8) ([]:List UInt8) [] [] []) ([]:List UInt8) []);ab (α:=Bool) (fun J1=>if(!((Lt.Of a2_i.Op).2))=true then(J1 true)else(if(decide ((a2_i.Args.length:Int) < ((Lt.Of a2_i.Op).1).Least))=true then(J1 true)else(J1 (decide (((Lt.Of a2_i.Op).1).Most < (a2_i.Args.length:Int)))))) (fun v2=>if v2=true then(KK (z1,false))else(ab (α:=Lt.asked) (fun J3=>if(((Lt.Of a2_i.Op).1).Dst)=true then(if(!((kj a1_f a2_i.Dst).2))=true then(KK (z1,false))else(J3 (Lt.asked.mk a0_p a2_i (((kj a1_f a2_i.Dst).1).Type_) [])))else(J3 (Lt.asked.mk a0_p a2_i ([]:List UInt8) []))) (fun v4=>(a2_i.Args.length<=4611686018427387904->af (α:=Int×Lt.asked) (fun R5 v6=>have z2:=([(iL a1_f (a2_i.Args.getD v6.1.toNat default)).1]:List (List UInt8));if(decide (v6.1 < (a2_i.Args.length:Int)))=true then(((0:Int)<=v6.1/\v6.1.toNat<a2_i.Args.length)/\if(!((iL a1_f (a2_i.Args.getD v6.1.toNat default)).2))=true then(KK (z1,false))else((v6.2.args.length+z2.length<=4611686018427387904/\(v6.2.args.length+z2.length)*16<=140737488355328)/\R5 ((i64.wrap (v6.1+1)),(Lt.asked.mk v6.2.p v6.2.i v6.2.dst (v6.2.args++z2)))))else(KK (v6.2,true))) (0,(Lt.asked.mk v4.p v4.i v4.dst []))))))
def xC(a0_p:Lt.Program)(a1_f:Lt.Func)(a2_i:Lt.Instr)(KK:Bool->Prop):Prop:=
 (sY a0_p a1_f a2_i)/\if((nN a0_p a1_f a2_i).2)=true then((ru (Lt.asked.mk (((nN a0_p a1_f a2_i).1).p) (((nN a0_p a1_f a2_i).1).i) (((nN a0_p a1_f a2_i).1).dst) (((nN a0_p a1_f a2_i).1).args)))/\KK (tB (Lt.asked.mk (((nN a0_p a1_f a2_i).1).p) (((nN a0_p a1_f a2_i).1).i) (((nN a0_p a1_f a2_i).1).dst) (((nN a0_p a1_f a2_i).1).args))))else(KK false)
def KD(a0_f:Lt.Func)(a1_t:Lt.Term)(KK:Bool->Prop):Prop:=
 if(decide (a1_t.Kind=1))=true then(KK true)else(if(decide (a1_t.Kind=2))=true then(if((iL a0_f a1_t.A).2)=true then(KK (decide ((iL a0_f a1_t.A).1=[105,110,116])))else(KK false))else(if(decide (a1_t.Kind=3))=true then(if((iL a0_f a1_t.A).2)=true then(KK (fp ((iL a0_f a1_t.A).1) a0_f.Result))else(KK false))else(if(decide (a1_t.Kind=4))=true then(KK (decide (10<=a1_t.N)))else(KK false))))
def xr(a0_f:Lt.Func)(KK:Int->Prop):Prop:=
 (a0_f.Blocks.length<=4611686018427387904->af (α:=Int×Int) (fun R1 v2=>if(decide (v2.2 < (a0_f.Blocks.length:Int)))=true then(((0:Int)<=v2.2/\v2.2.toNat<a0_f.Blocks.length)/\(((a0_f.Blocks.getD v2.2.toNat default).Code).length<=4611686018427387904->R1 ((i64.wrap (v2.1+(((a0_f.Blocks.getD v2.2.toNat default).Code).length:Int))),(i64.wrap (v2.2+1)))))else(KK v2.1)) (0,0))
def tU(a0_p:Lt.Program)(KK:Bool->Prop):Prop:=
 (a0_p.Funcs.length<=4611686018427387904->af (α:=Int) (fun R1 v2=>have z2:=(a0_p.Funcs.getD v2.toNat default).Blocks;if(decide (v2 < (a0_p.Funcs.length:Int)))=true then(((0:Int)<=v2/\v2.toNat<a0_p.Funcs.length)/\(z2.length<=4611686018427387904->af (α:=Int) (fun R3 v4=>have z1:=z2.getD v4.toNat default;if(decide (v4 < (z2.length:Int)))=true then(((0:Int)<=v4/\v4.toNat<z2.length)/\((z1.Phis).length<=4611686018427387904->if(decide (0 < ((z1.Phis).length:Int)))=true then(KK false)else(((z1.Code).length<=4611686018427387904->af (α:=Int) (fun R5 v6=>have z3:=(z1.Code).getD v6.toNat default;if(decide (v6 < ((z1.Code).length:Int)))=true then(((0:Int)<=v6/\v6.toNat < (z1.Code).length)/\ab (α:=Bool) (fun J7=>((z3.Frames).length<=4611686018427387904->if(decide (0 < ((z3.Frames).length:Int)))=true then(J7 true)else(J7 (decide (0 < ((z3.Objs).length:Int)))))) (fun v8=>if v8=true then(KK false)else(R5 (i64.wrap (v6+1)))))else(R3 (i64.wrap (v4+1)))) 0))))else(R1 (i64.wrap (v2+1)))) 0))else(KK (!a0_p.SSA))) 0)
def qJ(a0_p:Lt.Program)(KK:Bool->Prop):Prop:=
 (a0_p.Funcs.length<=4611686018427387904->af (α:=Int) (fun R1 v2=>if(decide (v2 < (a0_p.Funcs.length:Int)))=true then(((0:Int)<=v2/\v2.toNat<a0_p.Funcs.length)/\ab (α:=Bool) (fun J3=>(((a0_p.Funcs.getD v2.toNat default).Blocks).length<=4611686018427387904->if(decide (32 < (((a0_p.Funcs.getD v2.toNat default).Blocks).length:Int)))=true then(J3 true)else((wI (a0_p.Funcs.getD v2.toNat default))/\if(decide (200 < (wJ (a0_p.Funcs.getD v2.toNat default))))=true then(J3 true)else(J3 (decide (16 < (i64.wrap ((((a0_p.Funcs.getD v2.toNat default).Params).length:Int)+(((a0_p.Funcs.getD v2.toNat default).Vars).length:Int))))))))) (fun v4=>if v4=true then(KK false)else(R1 (i64.wrap (v2+1)))))else(KK true)) 0)
def tV(a0_p:Lt.Program)(a1_f:Lt.Func)(KK:Bool->Prop):Prop:=
 (a1_f.Blocks.length<=4611686018427387904->af (α:=Int) (fun R1 v2=>if(decide (v2 < (a1_f.Blocks.length:Int)))=true then(((0:Int)<=v2/\v2.toNat<a1_f.Blocks.length)/\(((a1_f.Blocks.getD v2.toNat default).Code).length<=4611686018427387904->af (α:=Int) (fun R3 v4=>if(decide (v4 < (((a1_f.Blocks.getD v2.toNat default).Code).length:Int)))=true then(((0:Int)<=v4/\v4.toNat < ((a1_f.Blocks.getD v2.toNat default).Code).length)/\(U8 a0_p a1_f (((a1_f.Blocks.getD v2.toNat default).Code).getD v4.toNat default))/\if(!(ny a0_p a1_f (((a1_f.Blocks.getD v2.toNat default).Code).getD v4.toNat default)))=true then(KK false)else(R3 (i64.wrap (v4+1))))else(if(!(vR a1_f (Lt.Term.mk (((a1_f.Blocks.getD v2.toNat default).End).Kind) (((a1_f.Blocks.getD v2.toNat default).End).A) (((a1_f.Blocks.getD v2.toNat default).End).To) (((a1_f.Blocks.getD v2.toNat default).End).N))))=true then(KK false)else(R1 (i64.wrap (v2+1))))) 0))else(KK true)) 0)
def LEN:Nat:=4611686018427387904
theorem ob{i n:Nat}(h:i<n):(0:Int)<=(i:Int)/\(i:Int).toNat<n:=by
 rw[Int.toNat_natCast];exact⟨ac2 i,h⟩
theorem aU{i n:Nat}(h:i<n):decide ((i:Int) < (n:Int))=true:=by simpa using h
theorem gm{n:Nat}:decide ((n:Int) < (n:Int))=false:=by simp
section
variable {α:Type}
theorem aE(x:α)(B:α->Prop):ab (fun J=>J x) B=B x:=
 propext ⟨fun h=>h B (fun _ h=>h),fun h J hJ=>hJ x h⟩
theorem nh(c:Prop)[Decidable c](A A':(α->Prop)->Prop)(B:α->Prop):ab (fun J=>if c then A J else A' J) B=if c then ab A B else ab A' B:=by
 unfold ab;by_cases hc:c<;>simp only[hc,if_true,if_false]
theorem aK(P:Prop)(A:(α->Prop)->Prop)(B:α->Prop):ab (fun J=>P/\A J) B=(P/\ab A B):=
 propext ⟨fun h=>⟨(h (fun _=>True) (fun _ _=>trivial)).1,fun J hJ=>(h J hJ).2⟩,fun h J hJ=>⟨h.1,h.2 J hJ⟩⟩
theorem aL(P:Prop)(A:(α->Prop)->Prop)(B:α->Prop):ab (fun J=>P->A J) B=(P->ab A B):=
 propext ⟨fun h hp J hJ=>h J hJ hp,fun h J hJ hp=>h hp J hJ⟩
theorem fU(P:Prop)(B:α->Prop):ab (fun _=>P) B=P:=
 propext ⟨fun h=>h (fun _=>True) (fun _ _=>trivial),fun h _ _=>h⟩
theorem jval(c:Prop)[Decidable c](x y:α)(J:α->Prop):(if c then J x else J y)=J (if c then x else y):=by split<;>rfl
theorem bor(b c:Bool):(if b=true then true else c)=(b||c):=by cases b<;>rfl
theorem band(b c:Bool):(if b=true then c else false)=(b&&c):=by cases b<;>rfl
theorem bnand(b c:Bool):(if b=true then false else c)=(!b&&c):=by cases b<;>rfl
theorem bimp(b c:Bool):(if b=true then c else true)=(!b||c):=by cases b<;>rfl
theorem ab5(c:Prop)[Decidable c](P A B:Prop):(if c then(P/\A)else B)=((c->P)/\if c then A else B):=by
 by_cases hc:c<;>simp[hc]
theorem ab6(c:Prop)[Decidable c](P A B:Prop):(if c then A else(P/\B))=((¬ c->P)/\if c then A else B):=by
 by_cases hc:c<;>simp[hc]
theorem abM(c:Prop)[Decidable c](P A B:Prop):(if c then(P/\A)else(P/\B))=(P/\if c then A else B):=by
 by_cases hc:c<;>simp[hc]
end
theorem aZ{α:Type}(body:(α->Prop)->α->Prop)(m:Nat)(P:Nat->α->Prop)
  (hs:∀R i x,i<m->P i x->(∀y,P (i+1) y->R y)->body R x) (he:∀R x,P m x->body R x) (x:α) (h:P 0 x):af body x:=by
 have key:∀k i x,i+k=m->P i x->oI body (k+1) x:=by
  intro k;induction k with
  |zero=>
   intro i x hi h;have e:i=m:=by omega
   subst e;exact he _ x h
  |succ k ih=>
   intro i x hi h;exact hs _ i x kQ1 h (fun y hy=>ih (i+1) y kQ1 hy)
 exact⟨m+1,key m 0 x kQ1 h⟩
theorem qZ{α β ρ σ:Type}[Inhabited α](l:List α)(hl:l.length<=LEN)(st:β->Int->σ)(go:List α->β->ρ)(KK:ρ->Prop)(body:(σ->Prop)->σ->Prop)
  (hs:∀R b i,i<l.length->(∀b',KK (go (l.drop (i+1)) b')->R (st b' (i64.wrap ((i:Int)+1))))->KK (go (l.getD i default::l.drop (i+1)) b)->body R (st b i))
  (he:∀R b,KK (go [] b)->body R (st b l.length)) (b:β) (h:KK (go l b)):af body (st b 0):=by
 have key:∀k i b,i+k=l.length->KK (go (l.drop i) b)->oI body (k+1) (st b (i:Int)):=by
  intro k;induction k with
  |zero=>
   intro i b hi h;have e:i=l.length:=by omega
   subst e;rw[ae2]at h;exact he _ b h
  |succ k ih=>
   intro i b hi h;have hlt:i<l.length:=by omega
   rw[aeP hlt]at h;have e:l.getD i default=l[i]:=by rw[List.getD,acW hlt];rfl
   rw[<- e]at h;refine hs _ b i hlt (fun b' h'=>?_) h;rw[az (by unfold LEN at hl;omega)];exact ih (i+1) b' kQ1 h'
 exact⟨l.length+1,key l.length 0 b kQ1 h⟩
theorem Ql{α β ρ:Type}[Inhabited α](l:List α)(hl:l.length<=LEN)(go:List α->β->ρ)(KK:ρ->Prop)(body:(β×Int->Prop)->β×Int->Prop)
  (hs:∀R b i,i<l.length->(∀b',KK (go (l.drop (i+1)) b')->R (b',(i64.wrap ((i:Int)+1))))->KK (go (l.getD i default::l.drop (i+1)) b)->body R (b,(i:Int)))
  (he:∀R b,KK (go [] b)->body R (b,(l.length:Int))) (b:β) (h:KK (go l b)):af body (b,0):=
 qZ l hl (fun b i=>(b,i)) go KK body hs he b h
theorem cU{α:Type}[Inhabited α](l:List α)(hl:l.length<=LEN)(p:α->Bool)(rest:Bool)(KK:Bool->Prop)(body:(Int->Prop)->Int->Prop)
  (hs:∀R i,i<l.length->(p (l.getD i default)=true->R (i64.wrap ((i:Int)+1)))->(p (l.getD i default)=false->KK false)->body R (i:Int))
  (he:∀R,KK rest->body R (l.length:Int)) (h:KK (l.all p&&rest)):af body 0:=by
 refine qZ l hl (fun(_:Unit) i=>i) (fun t _=>t.all p&&rest) KK body (fun R _ i hi ih h=>?_) (fun R _ h=>he R (by simpa using h)) () h;refine hs R i hi (fun hp=>ih () ?_) (fun hp=>?_)
 ·simp only[adE,hp,ad6]at h;exact h
 ·simp only[adE,hp,ae5]at h;exact h
theorem Uh{β:Type}(N:Nat)(hN:N<=LEN)(g:Nat->β)(body:(β×Int->Prop)->β×Int->Prop)
  (hs:∀R i,i<N->R (g (i+1),i64.wrap ((i:Int)+1))->body R (g i,(i:Int)))
  (he:∀R,body R (g N,(N:Int))) {b:β} (hb:g 0=b):af body (b,0):=by
 subst hb;refine aZ body N (fun i x=>x=(g i,(i:Int))) (fun R i x hi hx ih=>?_) (fun R x hx=>?_) _ rfl
 ·subst hx;refine hs R i hi (ih _ ?_);rw[az (by unfold LEN at hN;omega)]
 ·subst hx;exact he R
theorem ce{α:Type}[Inhabited α](l:List α){i:Nat}(h:i<l.length):l.take (i+1)=l.take i++[l.getD i default]:=by
 rw[List.take_add_one,List.getD,acW h];rfl
theorem bJ{α:Type}[Inhabited α](l:List α){i:Nat}(h:i<l.length):l.getD i default∈l:=by
 rw[List.getD,acW h];exact adY h
theorem ifk{c:Prop}[Decidable c]{A B:Prop}(h1:c->A)(h2:¬ c->B):if c then A else B:=by by_cases h:c<;>simp[h,h1,h2]
theorem gJ{α β σ:Type}[Inhabited α]{body:(σ->Prop)->σ->Prop}(l:List α)(st:β->Int->σ)(P:List α->β->Prop)
  (hs:∀R b i x r,i<l.length->l.getD i default=x->x∈l->(l.length<=4611686018427387904->∀b',P r b'->R (st b' (i64.wrap ((i:Int)+1))))->P (x::r) b->body R (st b (i:Int)))
  (he:∀R b,P [] b->body R (st b (l.length:Int))) (b:β) (h:P l b):af body (st b 0):=by
 have key:∀k i b,i+k=l.length->P (l.drop i) b->oI body (k+1) (st b (i:Int)):=by
  intro k;induction k with
  |zero=>
   intro i b hi h;have e:i=l.length:=by omega
   subst e;rw[ae2]at h;exact he _ b h
  |succ k ih=>
   intro i b hi h;have hlt:i<l.length:=by omega
   rw[aeP hlt]at h;have e:l.getD i default=l[i]:=by rw[List.getD,acW hlt];rfl
   refine hs _ b i _ (l.drop (i+1)) hlt e (adY hlt) (fun hl b' h'=>?_) h;rw[az kQ1];exact ih (i+1) b' kQ1 h'
 exact⟨l.length+1,key l.length 0 b kQ1 h⟩
theorem bZ{α:Type}[Inhabited α]{body:(Int->Prop)->Int->Prop}(l:List α)(P:List α->Prop)
  (hs:∀R i x r,i<l.length->l.getD i default=x->x∈l->(l.length<=4611686018427387904->P r->R (i64.wrap ((i:Int)+1)))->P (x::r)->body R (i:Int))
  (he:∀R,P []->body R (l.length:Int)) (h:P l):af body 0:=
 gJ l (fun(_:Unit) i=>i) (fun r _=>P r) (fun R _ i x r h1 h2 h3 h4 h5=>hs R i x r h1 h2 h3 (fun hl hp=>h4 hl () hp) h5) (fun R _ h=>he R h) () h
theorem lV{α:Type}[Inhabited α]{body:(Int->Prop)->Int->Prop}(l:List α)(p:α->Bool)(rest:Bool)(KK:Bool->Prop)
  (hs:∀R i x,i<l.length->l.getD i default=x->x∈l->(l.length<=4611686018427387904->p x=true->R (i64.wrap ((i:Int)+1)))->(p x=false->KK false)->body R (i:Int))
  (he:∀R,KK rest->body R (l.length:Int)) (h:KK (l.all p&&rest)):af body 0:=by
 refine bZ l (fun r=>KK (r.all p&&rest)) (fun R i x r h1 h2 h3 h4 h5=>hs R i x h1 h2 h3 (fun hl hp=>h4 hl ?_) (fun hp=>?_)) (fun R h=>he R (by simpa using h)) h
 ·simpa[hp]using h5
 ·simpa[hp]using h5
theorem LR(p:Lt.Program)(s:List UInt8)(KK:Lt.Class×Bool->Prop)(h:KK (bQ p s)):xz p s KK:=by
 unfold xz;intro hl;refine bZ p.Classes (fun l=>KK (Lt.fnd (·.Name) s l)) (fun R i x r hi hx _ ih h=>?_) (fun R h=>?_) h
 ·simp only[aU hi,Int.toNat_natCast,hx,hi,ac2,and_self,true_and,if_true,decide_eq_true_eq];unfold Lt.fnd at h
  grind
 ·rw[if_neg (by simp)];exact h
theorem QR(p:Lt.Program)(s:List UInt8)(KK:Lt.Func×Bool->Prop)(h:KK (oS p s)):C6 p s KK:=by
 unfold C6;intro hl;refine bZ p.Funcs (fun l=>KK (Lt.fnd (·.Name) s l)) (fun R i x r hi hx _ ih h=>?_) (fun R h=>?_) h
 ·simp only[aU hi,Int.toNat_natCast,hx,hi,ac2,and_self,true_and,if_true,decide_eq_true_eq];unfold Lt.fnd at h
  grind
 ·rw[if_neg (by simp)];exact h
theorem ID(p:Lt.Program)(s:List UInt8)(KK:Lt.Var×Bool->Prop)(h:KK (eH p s)):ua p s KK:=by
 unfold ua;intro hl;refine bZ p.Globals (fun l=>KK (Lt.fnd (·.Name) s l)) (fun R i x r hi hx _ ih h=>?_) (fun R h=>?_) h
 ·simp only[aU hi,Int.toNat_natCast,hx,hi,ac2,and_self,true_and,if_true,decide_eq_true_eq];unfold Lt.fnd at h
  grind
 ·rw[if_neg (by simp)];exact h
theorem IC(p:Lt.Program)(s:List UInt8)(KK:Lt.Extern×Bool->Prop)(h:KK (mn p s)):t8 p s KK:=by
 unfold t8;intro hl;refine bZ p.Externs (fun l=>KK (Lt.fnd (·.Name) s l)) (fun R i x r hi hx _ ih h=>?_) (fun R h=>?_) h
 ·simp only[aU hi,Int.toNat_natCast,hx,hi,ac2,and_self,true_and,if_true,decide_eq_true_eq];unfold Lt.fnd at h
  grind
 ·rw[if_neg (by simp)];exact h
theorem LS(p:Lt.Program)(c s:List UInt8)(KK:Lt.Var×Bool->Prop)(h:KK (pS p c s)):xA p c s KK:=by
 unfold xA;unfold pS at h;refine ifk (fun hc=>?_) (fun hc hl=>?_)
 ·have e:∀l:List Lt.Class,(Lt.fnd (·.Name) c l).2=false->(Lt.fnd (·.Name) c l).1=default:=by
   intro l;induction l with
   |nil=>exact fun _=>rfl
   |cons x r ih=>unfold Lt.fnd;split<;>simp_all
  have e2:(bQ p c).1=default:=e _ (by simpa[bQ]using hc)
  rw[e2]at h;exact h
 ·refine bZ (bQ p c).1.Fields (fun l=>KK (Lt.fnd (·.Name) s l)) (fun R i x r hi hx _ ih h=>?_) (fun R h=>?_) h
  ·simp only[aU hi,Int.toNat_natCast,hx,hi,ac2,and_self,true_and,if_true,decide_eq_true_eq];unfold Lt.fnd at h
   grind
  ·rw[if_neg (by simp)];exact h
theorem AF(f:Lt.Func)(s:List UInt8)(KK:Lt.Var×Bool->Prop)(h:KK (kj f s)):nY f s KK:=by
 unfold nY;intro J hJ hl;have go:J ((Mx f.Params s).2,(Mx f.Params s).1):=hJ _ (by
  dsimp only;refine ifk (fun hc=>?_) (fun hc hl=>?_)
  ·unfold kj at h;rw[if_pos hc]at h;exact h
  ·unfold kj at h;rw[if_neg hc]at h;refine bZ f.Vars (fun l=>KK (Lt.fnd (·.Name) s l)) (fun R i x r hi hx _ ih h=>?_) (fun R h=>?_) h
   ·simp only[aU hi,Int.toNat_natCast,hx,hi,ac2,and_self,true_and,if_true,decide_eq_true_eq];unfold Lt.fnd at h
    grind
   ·rw[if_neg (by simp)];exact h)
 refine bZ f.Params (fun l=>J ((Lt.fnd (fun x:Lt.Var=>x.Name) s l).2,(Lt.fnd (fun x:Lt.Var=>x.Name) s l).1)) (fun R i x r hi hx _ ih h=>?_) (fun R h=>?_) go
 ·simp only[aU hi,Int.toNat_natCast,hx,hi,ac2,and_self,true_and,if_true,decide_eq_true_eq];unfold Lt.fnd at h
  grind
 ·rw[if_neg (by simp)];exact h
theorem Xl(f:Lt.Func)(a:Lt.Arg)(KK:List UInt8×Bool->Prop)(h:KK (iL f a)):SF f a KK:=by
 unfold SF;unfold iL at h;simp only[decide_eq_true_eq]
 grind
theorem Uy(t:List UInt8)(KK:Bool->Prop)(h:KK (mq t)):KF t KK:=by
 unfold KF;unfold mq at h
 grind
theorem QQ(a b:List UInt8)(KK:Bool->Prop)(h:KK (fp a b)):C5 a b KK:=by
 unfold C5;unfold fp at h;intro J hJ;have:=hJ _ h
 grind
theorem QS(a b:List UInt8)(KK:Bool->Prop)(h:KK (Jx a b)):C7 a b KK:=by
 unfold C7;unfold Jx at h;intro J hJ;have:=hJ _ h
 grind
theorem LW(p:Lt.Program)(t:List UInt8)(KK:Bool->Prop)(h:KK (iS p t)):xD p t KK:=by
 unfold xD;unfold iS mq at h;intro J hJ;have:=hJ _ h
 grind
theorem gC{α:Type}[Inhabited α](l:List α){i:Nat}(h:i<l.length):l.drop i=l.getD i default::l.drop (i+1):=by
 rw[aeP h,List.getD,acW h];rfl
theorem zB:∀(l:List (List UInt8))(v:List Lt.Var),l.length≠v.length->ki l v=false
 |[],[],h=>absurd rfl h
 |_::l,_::v,h=>by unfold ki;rw[zB l v (by simpa using h),Bool.and_false]
 |[],_::_,_=>rfl
 |_::_,[],_=>rfl
theorem Ux(l:List (List UInt8))(v:List Lt.Var)(KK:Bool->Prop)(h:KK (ki l v)):KE l v KK:=by
 unfold KE;intro _ _;refine ifk (fun hc=>?_) (fun hc hl=>?_)
 ·rw[zB l v (fun e=>by rw[e]at hc;simp at hc)]at h;exact h
 have hlen:l.length=v.length:=by
  have:¬ (!decide ((l.length:Int)=(v.length:Int)))=true:=hc
  simp only[aeV,decide_eq_false_iff_not,Decidable.not_not]at this;omega
 refine aZ _ l.length (fun i x=>x=(i:Int)/\KK (ki (l.drop i) (v.drop i))) (fun R i x hi hx ih=>?_) (fun R x hx=>?_) 0 ⟨rfl,h⟩
 ·obtain⟨rfl,h⟩:=hx;rw[if_pos (aU hi)];refine⟨ob hi,ob kQ1,?_⟩;rw[Int.toNat_natCast];rw[gC l hi,gC v kQ1]at h;unfold ki at h;refine ifk (fun hf=>?_) (fun hf=>ih _ ⟨az kQ1,?_⟩)
  ·rw[show fp (l.getD i default) (v.getD i default).Type_=false from by simpa using hf,ae5]at h;exact h
  ·rw[show fp (l.getD i default) (v.getD i default).Type_=true from by simpa using hf,ad6]at h;exact h
 ·obtain⟨rfl,h⟩:=hx;rw[if_neg (by simp)];rw[ae2,hlen,ae2]at h;exact h
theorem me{β:Type}(v:β):∀(m:List (List UInt8×β))(k0 k:List UInt8),aI .s (bS .s m k0 v) k=if k0=k then some v else aI .s m k
 |[],k0,k=>by
  simp only[bS,aI,sM];by_cases e:k0=k
  ·rw[if_pos e,decide_eq_true e]
  ·rw[if_neg e,decide_eq_false e]
 |x::l,k0,k=>by
  have ih:=me v l k0 k
  simp only[bS,aI,sM];by_cases e:x.1=k0
  ·rw[decide_eq_true e];simp only[aI,sM];by_cases e2:k0=k
   ·rw[if_pos e2,decide_eq_true e2]
   ·rw[if_neg e2,decide_eq_false e2,decide_eq_false (fun e3=>e2 (e.symm.trans e3))]
  ·rw[decide_eq_false e];simp only[aI,sM];by_cases e2:x.1=k
   ·rw[decide_eq_true e2,if_neg (fun e3=>e (e2.trans e3.symm))]
   ·rw[decide_eq_false e2];exact ih
theorem tC{α:Type}[Inhabited α]{body:(Int×List (List UInt8×Bool)->Prop)->Int×List (List UInt8×Bool)->Prop}(l:List α)(nm:α->List UInt8)(N:Prop)
  (hs:∀R(i:Nat)m x,i<l.length->l.getD i default=x->((aI (β:=Bool) .s m (nm x)).getD (dflt .bo)=true->N)->((aI (β:=Bool) .s m (nm x)).getD (dflt .bo)=false->l.length<=4611686018427387904->R (i64.wrap ((i:Int)+1),bS .s m (nm x) true))->body R ((i:Int),m))
  (he:∀R m,(l.map nm).Nodup->body R ((l.length:Int),m)) (hN:¬ (l.map nm).Nodup->N):af body (0,[]):=by
 refine aZ _ l.length (fun i x=>x.1=(i:Int)/\(∀s,(aI (β:=Bool) .s x.2 s).getD (dflt .bo)=decide (s∈(l.take i).map nm))/\((l.take i).map nm).Nodup) (fun R i x hi hx ih=>?_) (fun R x hx=>?_) _ ⟨rfl,fun s=>by simp[aI,dflt],by simp⟩
 ·obtain⟨x1,m⟩:=x;obtain⟨h1,h2,h3⟩:=hx;dsimp only at h1 h2;subst h1;refine hs R i m _ hi rfl (fun hc=>hN fun hd=>?_) (fun hc hl=>ih _ ⟨az kQ1,fun s=>?_,?_⟩)
  ·rw[h2]at hc;have hm:=of_decide_eq_true hc
   have e:l=l.take i++l.drop i:=(ae1 i l).symm
   rw[e,aeN,gC l hi,List.map_cons]at hd;exact(afH.1 hd).2.2 _ hm _ (aeM) rfl
  ·dsimp only;rw[me,ce l hi,aeN];by_cases e:nm (l.getD i default)=s
   ·rw[if_pos e];subst e;simp
   ·rw[if_neg e,h2 s,decide_eq_decide];simp only[List.map_cons,List.map_nil,adF,ac9];exact⟨.inl,fun h=>h.elim id fun h=>absurd h.symm e⟩
  ·rw[ce l hi,aeN,afH];rw[h2]at hc;refine⟨h3,by simp,fun a ha b hb e=>?_⟩;subst e;obtain rfl:=ac9.1 hb;exact(of_decide_eq_false hc) ha
 ·obtain⟨x1,m⟩:=x;obtain⟨h1,h2,h3⟩:=hx;dsimp only at h1;subst h1;rw[afA]at h3;exact he R m h3
theorem AE(p:Lt.Program)(l:List Lt.Var)(KK:Bool->Prop)(h:KK (cP p l)):nX p l KK:=by
 unfold nX;intro hl;unfold cP at h;refine lV l (fun x=>iS p x.Type_) (lE (l.map (·.Name))) KK (fun R i x hi hx _ ih hf=>?_) (fun R h=>?_) h
 ·simp only[aU hi,Int.toNat_natCast,hx,hi,ac2,and_self,true_and,if_true]
  grind
 ·rw[if_neg (by simp)];intro _;refine tC l (·.Name) (KK false) (fun R i m x hi hx h1 h2=>?_) (fun R m hd=>?_) (fun hd=>?_)
  ·simp only[aU hi,Int.toNat_natCast,hx,hi,ac2,and_self,true_and,if_true];refine ifk h1 (fun hc=>h2 (by simpa using hc) hl)
  ·rw[if_neg (by simp)];rw[show lE (l.map (·.Name))=true from decide_eq_true hd]at h;exact h
  ·rw[show lE (l.map (·.Name))=false from decide_eq_false hd]at h;exact h
theorem LU(p:Lt.Program)(hp:kf p)(KK:Bool->Prop)(h:KK (eX p)):xB p KK:=by
 unfold xB;intro J hJ hl1;have kF:∀b1 b2 b3 b4 b5 b6:Bool,eX p=(b1&&b2&&b3&&b4&&b5&&b6)->(b1=false\/b2=false\/b3=false\/b4=false\/b5=false\/b6=false)->KK false:=by
  intro b1 b2 b3 b4 b5 b6 e h';have:eX p=false:=by
   rw[e];rcases h' with rfl|rfl|rfl|rfl|rfl|rfl<;>simp
  rw[this]at h;exact h
 have kF:=kF _ _ _ _ _ _ rfl
 have jT:KK false->J true:=fun h=>hJ true (by dsimp only;rw[if_pos rfl];exact h)
 refine tC p.Classes (·.Name) (J true) (fun R i m x hi hx h1 h2=>?_) (fun R m hd1=>?_) (fun hd=>jT (kF (.inl (decide_eq_false hd))))
 ·simp only[aU hi,Int.toNat_natCast,hx,hi,ac2,and_self,true_and,if_true];exact ifk h1 (fun hc=>h2 (by simpa using hc) hl1)
 rw[if_neg (by simp)];intro hl2;refine tC p.Externs (·.Name) (J true) (fun R i m x hi hx h1 h2=>?_) (fun R m hd2=>?_) (fun hd=>jT (kF (.inr (.inl (decide_eq_false hd)))))
 ·simp only[aU hi,Int.toNat_natCast,hx,hi,ac2,and_self,true_and,if_true];exact ifk h1 (fun hc=>h2 (by simpa using hc) hl2)
 rw[if_neg (by simp)];intro hl3;refine tC p.Funcs (·.Name) (J true) (fun R i m x hi hx h1 h2=>?_) (fun R m hd3=>?_) (fun hd=>jT (kF (.inr (.inr (.inl (decide_eq_false hd))))))
 ·simp only[aU hi,Int.toNat_natCast,hx,hi,ac2,and_self,true_and,if_true];exact ifk h1 (fun hc=>h2 (by simpa using hc) hl3)
 rw[if_neg (by simp)];refine hJ _ ?_;dsimp only;refine ifk (fun hc=>kF (.inr (.inr (.inr (.inl (by simpa using hc)))))) (fun hc hl4=>?_);refine lV p.Classes (fun c=>cP p c.Fields) (p.Funcs.all fun f=>iS p f.Result&&cP p (f.Params++f.Vars)) KK (fun R i x hi hx _ ih hf=>?_) (fun R h=>?_) ?_
 ·simp only[aU hi,Int.toNat_natCast,hx,hi,ac2,and_self,true_and,if_true]
  grind
 ·rw[if_neg (by simp)];intro hl5;refine lV p.Funcs (fun f=>iS p f.Result&&cP p (f.Params++f.Vars)) true KK (fun R i x hi hx hm ih hf=>?_) (fun R h=>?_) (by simpa using h)
  ·simp only[aU hi,Int.toNat_natCast,hx,hi,ac2,and_self,true_and,if_true];have hb:=hp x hm
   intro J1 hJ1;have j1:J1 (x.Params++x.Vars):=hJ1 _ (by
    dsimp only;intro J2 hJ2;have j2:=hJ2 (!(iS p x.Result&&cP p (x.Params++x.Vars))) (by
     dsimp only;refine ifk (fun hc=>hf (by rw[aeV]at hc;exact hc)) (fun hc=>ih hl5 (by simpa using hc)))
    grind)
   have z:(([]:List Lt.Var).length+x.Params.length<=4611686018427387904/\(([]:List Lt.Var).length+x.Params.length)*32<=140737488355328)/\(x.Params.length+x.Vars.length<=4611686018427387904/\(x.Params.length+x.Vars.length)*32<=140737488355328)/\J1 (x.Params++x.Vars):=by
    refine⟨⟨?_,?_⟩,⟨?_,?_⟩,j1⟩<;>(try simp only[ac6])<;>omega
   exact z
  ·rw[if_neg (by simp)];exact h
 ·have e:eX p=((p.Classes.all fun c=>cP p c.Fields)&&p.Funcs.all fun f=>iS p f.Result&&cP p (f.Params++f.Vars)):=by
   unfold eX;rw[show lE (p.Classes.map (·.Name))=true from decide_eq_true hd1,show lE (p.Externs.map (·.Name))=true from decide_eq_true hd2,show lE (p.Funcs.map (·.Name))=true from decide_eq_true hd3,show cP p p.Globals=true from by simpa using hc];rfl
  rw[<- e];exact h
theorem Uw(f:Lt.Func)(t:Lt.Term)(KK:Bool->Prop)(h:KK (vR f t)):KD f t KK:=by
 unfold KD;unfold vR at h;simp only[decide_eq_true_eq];by_cases h1:t.Kind=1
 ·simpa[h1]using h
 by_cases h2:t.Kind=2
 ·cases ho:(iL f t.A).2<;>simpa[h2,ho]using h
 by_cases h3:t.Kind=3
 ·cases ho:(iL f t.A).2<;>simpa[h3,ho]using h
 by_cases h4:t.Kind=4
 ·simpa[h4]using h
 ·simpa[h1,h2,h3,h4]using h
theorem QT(q:Lt.asked)(a d:List UInt8)(KK:Bool->Prop)(h:KK (lm q a d)):C8 q a d KK:=by
 unfold C8;intro hl;refine lV q.args (fun x=>decide (x=a)) (decide (q.dst=d)) KK (fun R i x hi hx _ ih hf=>?_) (fun R h=>?_) h
 ·simp only[aU hi,Int.toNat_natCast,hx,hi,ac2,and_self,true_and,if_true]
  grind
 ·rw[if_neg (by simp)];exact h
theorem LX(q:Lt.asked)(KK:Bool->Prop)(h:KK (Aa q)):xE q KK:=by
 unfold xE;intro J hJ;unfold Aa at h;have:=hJ _ h
 have e:∀l:List Lt.Class,(Lt.fnd (·.Name) q.i.Name l).2=true->(Lt.fnd (·.Name) q.i.Name l).1.Name=q.i.Name:=by
  intro l;induction l with
  |nil=>intro h;cases h
  |cons x r ih=>unfold Lt.fnd;split<;>simp_all
 have e:=e q.p.Classes
 have e0:decide ((q.args.length:Int)=0)=decide (q.args.length=0):=by rw[decide_eq_decide];omega
 rw[e0];unfold bQ at *
 grind
theorem IE(q:Lt.asked)(hp:Ej q)(KK:Lt.Var×Bool->Prop)(h:KK (gc q)):ub q KK:=by
 unfold ub;unfold gc at h;obtain⟨h1,h2⟩:=hp;refine⟨⟨by omega,by omega⟩,ifk (fun hc=>?_) (fun hc=>⟨⟨by omega,h1⟩,?_⟩)⟩
 ·rw[if_neg (by simpa using hc)]at h;exact h
 ·rw[if_pos (by simpa using hc)]at h;exact h
theorem DT(q:Lt.asked)(hp:Ek q)(KK:Bool->Prop)(h:KK (o6 q)):qM q KK:=by
 unfold qM;unfold o6 at h;unfold Ek at hp
 grind
end Go.Am
end

section
namespace Go.Am
open Go
open Lt (nmB toB Gd Rc)
def uC(l:List Bool):Nat:=(l.filter fun b=>!b).length
theorem yx:∀(l:List Bool)(k:Nat),l.getD k true=false->uC (l.set k true)+1=uC l
 |[],k,h=>by simp at h
 |b::r,0,h=>by
  have h:b=false:=h
  subst h;simp[uC]
 |b::r,k+1,h=>by
  have:=yx r k (by simpa using h)
  unfold uC at this⊢;cases b<;>simp_all
theorem sU{α:Type}{body:(α->Prop)->α->Prop}(P:α->Prop)(μ:α->Nat)(hs:∀R x,P x->(∀y,P y->μ y<μ x->R y)->body R x)(x:α)(h:P x):af body x:=by
 have key:∀n x,P x->μ x<n->oI body n x:=by
  intro n;induction n with
  |zero=>intro x _ h;omega
  |succ n ih=>intro x hx hm;exact hs _ x hx (fun y hy hlt=>ih y hy kQ1)
 exact⟨_,key (μ x+1) x h kQ1⟩
theorem dl{n:Int}(h1:-9223372036854775808<=n)(h2:n < 9223372036854775808):i64.wrap n=n:=by
 simp only[IntKind.wrap,IntKind.signed,IntKind.bits];simp;omega
theorem vd{l:List Bool}{k:Nat}(h:k<l.length)(b d:Bool):(l.set k b).getD k d=b:=by
 rw[List.getD,adL h];rfl
theorem dU{l:List Bool}{i:Nat}(h:i<l.length)(k:Nat):(l.set i true).getD k false=(decide (k=i)||l.getD k false):=by
 by_cases e:k=i
 ·subst e;rw[vd h];simp
 ·rw[List.getD,adH (fun e'=>e e'.symm),decide_eq_false e];rfl
structure CI (B:List Lt.Block) (out:List Bool) (todo:List Int) (j:Nat):Prop where
 ol:out.length=B.length
 td:∀k∈todo,0<=k/\k < (B.length:Int)/\out.getD k.toNat false=true
 o0:out.getD 0 false=true
 sd:∀k,out.getD k false=true->Rc B k
 cl:∀i,i<B.length->i≠j->out.getD i false=true->(i:Int)∈todo\/∀k,k<B.length->nmB B k∈toB B i->out.getD k false=true
theorem CI.mark{B:List Lt.Block}{out:List Bool}{todo:List Int}{j t:Nat}(h:CI B out todo j)(ht:t<B.length)(hr:Rc B t):CI B (out.set t true) (todo++[(t:Int)]) j:=by
 have hl:t<out.length:=by rw[h.ol];exact ht
 refine⟨by rw[List.length_set];exact h.ol,fun k hk=>?_,?_,fun k hk=>?_,fun i hi hij hm=>?_⟩
 ·rw[dU hl];rcases adF.1 hk with hk|hk
  ·obtain⟨a,b,c⟩:=h.td k hk;exact⟨a,b,by rw[c];simp⟩
  ·obtain rfl:=ac9.1 hk;exact⟨by omega,by omega,by simp⟩
 ·rw[dU hl,h.o0];simp
 ·rw[dU hl]at hk;by_cases e:k=t
  ·subst e;exact hr
  ·rw[decide_eq_false e,aeG]at hk;exact h.sd k hk
 ·rw[dU hl]at hm;by_cases e:i=t
  ·exact .inl (by rw[e];simp)
  ·rw[decide_eq_false e,aeG]at hm;rcases h.cl i hi hij hm with h1|h1
   ·exact .inl (ad2 _ h1)
   ·exact .inr fun k hk hmem=>by rw[dU hl,h1 k hk hmem];simp
theorem XV{m:List (List UInt8×Bool)}{K:List (List UInt8)}(h:∀s,(aI (β:=Bool) .s m s).getD (dflt .bo)=decide (s∈K))(x:List UInt8):∀s,(aI (β:=Bool) .s (bS .s m x true) s).getD (dflt .bo)=decide (s∈K++[x]):=fun s=>by
 rw[me];by_cases e:x=s
 ·rw[if_pos e];subst e;simp
 ·rw[if_neg e,h s,decide_eq_decide];simp only[adF,ac9];exact⟨.inl,fun h=>h.elim id fun h=>absurd h.symm e⟩
theorem Iz(f:Lt.Func)(hp:Mt f)(KK:Bool->Prop)(h:KK (e9 f)):tY f KK:=by
 unfold tY;obtain⟨hn,hto⟩:=hp;have kF:¬ Gd f.Blocks->KK false:=fun hg=>by unfold e9 at h;rw[yO hg]at h;exact h
 have kT:Gd f.Blocks->KK true:=fun hg=>by unfold e9 at h;rw[uJ hg]at h;exact h
 dsimp only;intro _;refine ifk (fun e=>kF fun g=>by have:=of_decide_eq_true e;have:=g.ps;omega) (fun hne=>?_);have hps:0<f.Blocks.length:=by
  rcases adM f.Blocks.length with e|e
  ·rw[e]at hne;simp at hne
  ·exact e
 intro _ _;refine aZ _ f.Blocks.length (fun i v=>v.1=(i:Int)/\(∀k,k<i->aI (β:=Int) .s v.2 (nmB f.Blocks k)=some (k:Int))/\(∀s,(∀k,k<i->nmB f.Blocks k≠s)->aI (β:=Int) .s v.2 s=none)/\∀a b,a<i->b<i->nmB f.Blocks a=nmB f.Blocks b->a=b) (fun R i v hi⟨e,h1,h2,h3⟩ih=>?_) (fun R v⟨e,h1,h2,hnd⟩=>?_) _ ⟨rfl,fun k hk=>by omega,fun _ _=>rfl,fun a b ha=>by omega⟩
 ·obtain⟨v1,L⟩:=v;dsimp only at e h1 h2⊢;subst e;rw[if_pos (aU hi)];refine⟨ob hi,?_⟩;rw[Int.toNat_natCast];by_cases hx:∃k,k<i/\nmB f.Blocks k=nmB f.Blocks i
  ·obtain⟨k,hk,e⟩:=hx;rw[if_pos]
   ·exact kF fun g=>by have:=g.nd k i kQ1 hi e;omega
   ·have:=h1 k hk
    rw[e]at this;rw[show aI (β:=Int) .s L (f.Blocks.getD i default).Name=some (k:Int)from this];rfl
  ·have hx:∀k,k<i->nmB f.Blocks k≠nmB f.Blocks i:=fun k hk e=>hx ⟨k,hk,e⟩
   have hno:aI (β:=Int) .s L (nmB f.Blocks i)=none:=h2 _ hx
   rw[if_neg (by rw[show aI (β:=Int) .s L (f.Blocks.getD i default).Name=none from hno];simp)];refine ih _ ⟨az kQ1,fun k hk=>?_,fun s hs=>?_,fun a b ha hb e=>?_⟩
   ·dsimp only;rw[me];by_cases e:k=i
    ·subst e;rw[if_pos rfl]
    ·rw[if_neg (fun e'=>hx k kQ1 e'.symm)];exact h1 k kQ1
   ·dsimp only;rw[me,if_neg (hs i kQ1)];exact h2 s fun k hk=>hs k kQ1
   ·rcases adJ a i with h'|h'<;>rcases adJ b i with h''|h''
    ·exact h3 a b h' h'' e
    ·obtain rfl:b=i:=by omega
     exact absurd e (hx a h')
    ·obtain rfl:a=i:=by omega
     exact absurd e.symm (hx b h'')
    ·omega
 obtain⟨v1,L⟩:=v;dsimp only at e h1 h2⊢;subst e;rw[if_neg (by simp)];intro _;have hL:∀s t,aI (β:=Int) .s L s=some t->∃k,k<f.Blocks.length/\nmB f.Blocks k=s/\t=(k:Int):=fun s t e=>by
  by_cases hx:∃k,k<f.Blocks.length/\nmB f.Blocks k=s
  ·obtain⟨k,hk,rfl⟩:=hx;rw[h1 k hk]at e;exact⟨k,hk,rfl,(Option.some.inj e).symm⟩
  ·rw[h2 s fun k hk e=>hx ⟨k,hk,e⟩]at e;cases e
 refine aZ _ f.Blocks.length (fun i v=>v=(i:Int)/\∀a,a<i->(toB f.Blocks a).Nodup/\∀s∈toB f.Blocks a,∃k,k<f.Blocks.length/\k≠0/\nmB f.Blocks k=s) (fun R i v hi⟨e,hok⟩ih=>?_) (fun R v⟨e,hok⟩=>?_) _ ⟨rfl,fun a ha=>by omega⟩
 ·subst e;rw[if_pos (aU hi)];refine⟨ob hi,fun _=>?_⟩;dsimp +instances only [Int.toNat_natCast]
  have hln:=hto _ (bJ _ hi)
  have gtn:Gd f.Blocks->(f.Blocks.getD i default).End.To.Nodup:=fun g=>g.tn i hi
  have gtr:Gd f.Blocks->∀s∈(f.Blocks.getD i default).End.To,∃k,k<f.Blocks.length/\k≠0/\nmB f.Blocks k=s:=fun g=>g.tr i hi
  have goal:∀T:List (List UInt8),T=(f.Blocks.getD i default).End.To->(T.Nodup/\∀s∈T,∃k,k<f.Blocks.length/\k≠0/\nmB f.Blocks k=s)->R (i64.wrap ((i:Int)+1)):=fun T e hT=>ih _ ⟨az kQ1,fun a ha=>by
   rcases adJ a i with h'|h'
   ·exact hok a h'
   ·obtain rfl:a=i:=by omega
    subst e;exact hT⟩
  generalize(f.Blocks.getD i default).End.To=T at gtn gtr hln goal;refine aZ _ T.length (fun k v=>v.1=(k:Int)/\(∀s,(aI (β:=Bool) .s v.2 s).getD (dflt .bo)=decide (s∈T.take k))/\(T.take k).Nodup/\∀s∈T.take k,∃k,k<f.Blocks.length/\k≠0/\nmB f.Blocks k=s) (fun R5 k v hk⟨e,hm,hd,hq⟩ih5=>?_) (fun R5 v⟨e,hm,hd,hq⟩=>?_) _ ⟨rfl,fun s=>by simp[aI,dflt],by simp,fun s hs=>by simp at hs⟩
  ·obtain⟨v1,m⟩:=v;dsimp only at e hm⊢;subst e;rw[if_pos (aU hk)];dsimp +instances only [Int.toNat_natCast]
   refine⟨ob hk,fun J hJ=>?_⟩;have eg:T.getD k default=T[k]:=by rw[List.getD,acW hk];rfl
   have hmem:T.getD k default∈T:=by rw[eg];exact adY hk
   have jF:¬ Gd f.Blocks->J true:=fun hg=>hJ true (by dsimp only;rw[if_pos rfl];exact kF hg)
   refine ifk (fun hc=>jF fun g=>?_) (fun hc=>ifk (fun hz=>jF fun g=>?_) (fun hz=>?_))
   ·obtain⟨t,t1,t2,t3⟩:=gtr g _ hmem;have:=h1 t t1
    rw[t3]at this;rw[this]at hc;simp at hc
   ·obtain⟨t,t1,t2,t3⟩:=gtr g _ hmem;have:=h1 t t1
    rw[t3]at this;rw[this]at hz;have hz:=of_decide_eq_true hz
    simp only[adW]at hz;omega
   ·have hsome:∃t,aI (β:=Int) .s L (T.getD k default)=some t:=by
     cases hl:aI (β:=Int) .s L (T.getD k default)with
     |none=>rw[hl]at hc;simp at hc
     |some t=>exact⟨t,rfl⟩
    obtain⟨t,ht⟩:=hsome;obtain⟨q,q1,q2,rfl⟩:=hL _ _ ht;refine hJ _ ?_;dsimp only;rw[hm];refine ifk (fun hin=>kF fun g=>?_) (fun hin=>ih5 _ ⟨az kQ1,?_,?_,?_⟩)
    ·have hin:=of_decide_eq_true hin
     have:=gtn g
     rw[<- ae1 k T,gC T hk]at this;exact(afH.1 this).2.2 _ hin _ (aeM) rfl
    ·rw[ce T hk];exact XV hm _
    ·have hin:T.getD k default ∉ T.take k:=fun h'=>hin (decide_eq_true h')
     rw[ce T hk,afH];exact⟨hd,by simp,fun a ha b hb e=>by obtain rfl:=ac9.1 hb;subst e;exact hin ha⟩
    ·intro s hs;rw[ce T hk]at hs;rcases adF.1 hs with hs|hs
     ·exact hq s hs
     ·obtain rfl:=ac9.1 hs;rw[ht]at hz;exact⟨q,q1,fun e=>hz (by subst e;simp),q2⟩
  ·obtain⟨v1,m⟩:=v;dsimp only at e hm⊢;subst e;rw[if_neg (by simp)];rw[afA]at hd hq;exact goal T rfl ⟨hd,hq⟩
 subst e;rw[if_neg (by simp),if_neg (by simp)];have gd:(∀k,k<f.Blocks.length->Rc f.Blocks k)->Gd f.Blocks:=fun hre=>⟨hps,hnd,fun i hi=>(hok i hi).1,fun i hi=>(hok i hi).2,hre⟩
 have htr:∀i,i<f.Blocks.length->∀s∈toB f.Blocks i,∃k,k<f.Blocks.length/\k≠0/\nmB f.Blocks k=s:=fun i hi=>(hok i hi).2
 have hz:(f.Blocks.length:Int).toNat=f.Blocks.length:=Int.toNat_natCast _
 intro _;rw[hz];have hr:(List.replicate f.Blocks.length (dflt .bo):List Bool).length=f.Blocks.length:=aeQ
 refine⟨⟨by omega,by omega,by omega⟩,⟨by omega,by rw[hr];omega⟩,by rw[hr];exact hps,?_⟩;have hc0:uC ((List.replicate f.Blocks.length (dflt .bo):List Bool).set 0 true)<=f.Blocks.length:=by
  unfold uC;exact aeF (List.length_filter_le _ _) (by rw[List.length_set,hr];exact ac1 _)
 have hfin:∀out,CI f.Blocks out [] f.Blocks.length->∀k,Rc f.Blocks k->out.getD k false=true:=fun out hci k hrc=>by
  induction hrc with
  |first _=>exact hci.o0
  |next i k _ hi hk hm ih=>
   rcases hci.cl i hi kQ1 ih with h'|h'
   ·cases h'
   ·exact h' k hk hm
 have hstart:CI f.Blocks ((List.replicate f.Blocks.length (dflt .bo):List Bool).set 0 true) [0] f.Blocks.length:=by
  have h00:∀i,i≠0->((List.replicate f.Blocks.length (dflt .bo):List Bool).set 0 true).getD i false=true->False:=fun i e hm=>by
   rw[List.getD,adH (fun e'=>e e'.symm),List.getElem?_replicate]at hm;split at hm
   ·exact absurd hm (by show ¬ (default:Bool)=true;decide)
   ·simp at hm
  refine⟨by rw[List.length_set,hr],fun k hk=>?_,vd (by rw[hr];exact hps) _ _,fun k hk=>?_,fun i hi hne hm=>?_⟩
  ·obtain rfl:=ac9.1 hk;exact⟨by omega,by omega,vd (by rw[hr];exact hps) _ _⟩
  ·by_cases e:k=0
   ·subst e;exact .first hps
   ·exact(h00 k e hk).elim
  ·by_cases e:i=0
   ·exact .inl (by rw[e];simp)
   ·exact(h00 i e hm).elim
 refine sU (fun v=>CI f.Blocks v.1 v.2 f.Blocks.length/\2*uC v.1+v.2.length<=3000000) (fun v=>2*uC v.1+v.2.length) (fun R9 v⟨hci,hms⟩ih9=>?_) _ ⟨hstart,by simp only[ac0,ac6];omega⟩;obtain⟨out,todo⟩:=v;dsimp only at hci hms ih9⊢;intro htl;refine ifk (fun hpos=>?_) (fun hemp=>?_)
 rotate_left
 ·have ht0:todo=[]:=adZ (by simp at hemp;simp[hemp])
  subst ht0;have all:=hfin out hci
  intro _;refine aZ _ out.length (fun i v=>v=(i:Int)/\∀a,a<i->out.getD a false=true) (fun R i v hi⟨e,ha⟩ih=>?_) (fun R v⟨e,ha⟩=>?_) _ ⟨rfl,fun a ha=>by omega⟩
  ·subst e;rw[if_pos (aU hi)];refine⟨⟨by omega,by omega⟩,?_⟩;rw[Int.toNat_natCast];have hi2:i<f.Blocks.length:=by rw[<- hci.ol];exact hi
   refine ifk (fun hc=>kF fun g=>?_) (fun hc=>ih _ ⟨az (by have:=hci.ol;omega),fun a ha'=>?_⟩)
   ·have h5:=all i (g.re i hi2)
    have h6:out.getD i default=false:=by simpa using hc
    have:(false:Bool)=true:=by rw[<- h6];exact h5
    cases this
   ·rcases adJ a i with h'|h'
    ·exact ha a h'
    ·obtain rfl:a=i:=by omega
     simpa using hc
  ·subst e;rw[if_neg (by simp)];exact kT (gd fun k hk=>hci.sd k (ha k (by rw[hci.ol];exact hk)))
 have hpos:0<todo.length:=by have:=of_decide_eq_true hpos;omega
 have hw:i64.wrap ((todo.length:Int) - 1)=((todo.length - 1:Nat):Int):=by
  rw[dl kQ1 kQ1];omega
 rw[hw];dsimp +instances only [Int.toNat_natCast]
 generalize hmm:todo.length - 1=m;have hsplit:todo=todo.take m++[todo.getD m default]:=by
  have:=ce todo (i:=m) kQ1
  rw[List.take_of_length_le kQ1]at this;exact this
 have hjm:todo.getD m default∈todo:=bJ _ kQ1
 generalize todo.getD m default=j at hsplit hjm;obtain⟨j1,j2,j3⟩:=hci.td j hjm;intro J hJ _;have goJ:J (f.Blocks.getD j.toNat default):=hJ _ ?_
 ·have z1:((0:Int)<=j/\j.toNat<f.Blocks.length)/\J (f.Blocks.getD j.toNat default):=⟨⟨j1,by omega⟩,goJ⟩
  exact⟨⟨by omega,by omega⟩,⟨z1,z1⟩,⟨z1,z1⟩,z1⟩
 dsimp only;intro _;refine⟨⟨by omega,by omega⟩,fun _=>?_⟩;have hjn:j.toNat<f.Blocks.length:=by omega
 have htr:∀s∈(f.Blocks.getD j.toNat default).End.To,∃k,k<f.Blocks.length/\k≠0/\nmB f.Blocks k=s:=htr _ hjn
 have hsuc:∀k,nmB f.Blocks k∈toB f.Blocks j.toNat->nmB f.Blocks k∈(f.Blocks.getD j.toNat default).End.To:=fun k h=>h
 have hrcj:∀k,k<f.Blocks.length->nmB f.Blocks k∈(f.Blocks.getD j.toNat default).End.To->Rc f.Blocks k:=fun k hk hm=>.next j.toNat k (hci.sd _ j3) hjn hk hm
 have hln:=hto _ (bJ _ hjn)
 have htl1:(todo.take m).length+1=todo.length:=by rw[ad8];omega
 have hci0:CI f.Blocks out (todo.take m) j.toNat:=by
  refine⟨hci.ol,fun k hk=>hci.td k (List.mem_of_mem_take hk),hci.o0,hci.sd,fun i hi hij hm=>?_⟩;rcases hci.cl i hi kQ1 hm with h'|h'
  ·rw[hsplit]at h';rcases adF.1 h' with h'|h'
   ·exact .inl h'
   ·have:=ac9.1 h'
    exact absurd this kQ1
  ·exact .inr h'
 generalize(f.Blocks.getD j.toNat default).End.To=T at htr hsuc hln hrcj;refine aZ _ T.length (fun k v=>v.2.2=(k:Int)/\CI f.Blocks v.1 v.2.1 j.toNat/\(∀q,q<k->∀u,u<f.Blocks.length->nmB f.Blocks u=T.getD q default->v.1.getD u false=true)/\2*uC v.1+v.2.1.length+1<=2*uC out+todo.length) (fun R13 k v hk⟨e,hc,hq,hmu⟩ih13=>?_) (fun R13 v⟨e,hc,hq,hmu⟩=>?_) _ ⟨rfl,hci0,fun q hq=>by omega,by dsimp only;omega⟩
 ·obtain⟨o3,t3,v3⟩:=v;dsimp only at e hc hq hmu⊢;subst e;rw[if_pos (aU hk)];dsimp +instances only [Int.toNat_natCast]
  obtain⟨t,t1,t2,t4⟩:=htr (T.getD k default) (bJ _ hk);have el:=h1 t t1
  rw[t4]at el;rw[el];intro J15 hJ15;have ol:=hc.ol
  refine⟨ob hk,⟨by simp,by simp only[adW];omega⟩,?_⟩;simp only[adW,Int.toNat_natCast];have hto3:t<o3.length:=by omega
  have on:∀o' t',CI f.Blocks o' t' j.toNat->o'.getD t false=true->(∀u,o3.getD u false=true->o'.getD u false=true)->2*uC o'+t'.length<=2*uC o3+t3.length->J15 (o',t'):=fun o' t' a1 a2 a3 a4=>by
   refine hJ15 _ (ih13 _ ⟨az kQ1,a1,fun q hq' u hu e=>?_,by dsimp only;omega⟩);rcases adJ q k with h'|h'
   ·exact a3 u (hq q h' u hu e)
   ·obtain rfl:q=k:=by omega
    have:u=t:=hnd u t hu t1 (e.trans t4.symm)
    subst this;exact a2
  refine ifk (fun hf=>?_) (fun hf=>?_)
  ·have hf0:o3.getD t true=false:=by
    rw[List.getD,acW hto3]at hf⊢;simpa using hf
   have hcn:=yx o3 t hf0
   refine⟨⟨by omega,by omega⟩,hto3,⟨by simp only[ac0,ac6];omega,by simp only[ac0,ac6];omega⟩,on _ _ (hc.mark t1 (hrcj t t1 (by rw[t4];exact bJ _ hk))) ?_ (fun u hu=>?_) ?_⟩
   ·rw[dU hto3];simp
   ·rw[dU hto3,hu];simp
   ·simp only[ac3,ac0,ac6];omega
  ·have hf1:o3.getD t default=true:=by simpa using hf
   exact on _ _ hc hf1 (fun _ h=>h) (ac1 _)
 ·obtain⟨o3,t3,v3⟩:=v;dsimp only at e hc hq hmu⊢;subst e;rw[if_neg (by simp)];refine ih9 _ ⟨⟨hc.ol,hc.td,hc.o0,hc.sd,fun i hi _ hm=>?_⟩,by dsimp only;omega⟩ (by dsimp only;omega);by_cases e:i=j.toNat
  ·subst e;refine .inr fun k hk hmem=>?_
   obtain⟨q,hq1,hq2⟩:=ae4.1 (hsuc k hmem);exact hq q hq1 k hk (by rw[<- hq2,List.getD,acW hq1];rfl)
  ·exact hc.cl i hi e hm
end Go.Am
end

section
namespace Go.Am
open Go
theorem IB(f:Lt.Func)(s:List UInt8)(KK:Int×Bool->Prop)(h:KK (gW f s)):t7 f s KK:=by
 unfold t7;intro hl;unfold gW at h;refine aZ _ f.Blocks.length (fun i x=>x=(i:Int)/\KK (lf s (f.Blocks.drop i) (i:Int))) (fun R i x hi hx ih=>?_) (fun R x hx=>?_) 0 ⟨rfl,h⟩
 ·obtain⟨rfl,h⟩:=hx;rw[gC _ hi]at h;rw[if_pos (aU hi)];refine⟨ob hi,?_⟩;simp only[Int.toNat_natCast];unfold lf at h;refine ifk (fun hp=>?_) (fun hp=>?_)
  ·rw[if_pos (by simpa using hp)]at h;exact h
  ·rw[if_neg (by simpa using hp)]at h;exact ih _ ⟨az kQ1,h⟩
 ·obtain⟨rfl,h⟩:=hx;rw[if_neg (by simp)];rw[ae2]at h;exact h
theorem QH(l:List Int)(v:Int)(KK:Int->Prop)(h:KK (Ce l v)):CW l v KK:=by
 unfold CW;intro hl;unfold Ce at h;refine aZ _ l.length (fun i x=>x=(i:Int)/\KK (Az v (l.drop i) (i:Int))) (fun R i x hi hx ih=>?_) (fun R x hx=>?_) 0 ⟨rfl,h⟩
 ·obtain⟨rfl,h⟩:=hx;rw[gC _ hi]at h;rw[if_pos (aU hi)];refine⟨ob hi,?_⟩;simp only[Int.toNat_natCast];unfold Az at h;refine ifk (fun hp=>?_) (fun hp=>?_)
  ·rw[if_pos (by simpa using hp)]at h;exact h
  ·rw[if_neg (by simpa using hp)]at h;exact ih _ ⟨az kQ1,h⟩
 ·obtain⟨rfl,h⟩:=hx;rw[if_neg (by simp)];rw[ae2]at h;exact h
theorem QI(l:List (List UInt8))(v:List UInt8)(KK:Int->Prop)(h:KK (Ip l v)):CX l v KK:=by
 unfold CX;intro hl;unfold Ip at h;refine aZ _ l.length (fun i x=>x=(i:Int)/\KK (Az v (l.drop i) (i:Int))) (fun R i x hi hx ih=>?_) (fun R x hx=>?_) 0 ⟨rfl,h⟩
 ·obtain⟨rfl,h⟩:=hx;rw[gC _ hi]at h;rw[if_pos (aU hi)];refine⟨ob hi,?_⟩;simp only[Int.toNat_natCast];unfold Az at h;refine ifk (fun hp=>?_) (fun hp=>?_)
  ·rw[if_pos (by simpa using hp)]at h;exact h
  ·rw[if_neg (by simpa using hp)]at h;exact ih _ ⟨az kQ1,h⟩
 ·obtain⟨rfl,h⟩:=hx;rw[if_neg (by simp)];rw[ae2]at h;exact h
theorem LI(l:List Int)(v:Int)(KK:Bool->Prop)(h:KK (uI l v)):Fz l v KK:=h
theorem LJ(l:List (List UInt8))(v:List UInt8)(KK:Bool->Prop)(h:KK (DI l v)):FA l v KK:=h
theorem Io{α:Type}[DecidableEq α](v:α):∀(l:List α)(i:Int),0<=i->(0<=Az v l i ↔ v∈l)
 |[],i,h=>by simp[Az]
 |x::r,i,h=>by
  unfold Az;by_cases e:v=x
  ·rw[if_pos e];simp[e,h]
  ·rw[if_neg e,Io v r (i+1) kQ1];simp[e]
theorem Qw(l:List Int)(v:Int):uI l v=decide (v∈l):=by
 unfold uI Ce;rw[decide_eq_decide];exact Io v l 0 kQ1
theorem bX{α:Type}(l:List α){i:Nat}(h:i<l.length)(k:Nat)(x d:α):(l.set i x).getD k d=if k=i then x else l.getD k d:=by
 by_cases e:k=i
 ·subst e;rw[if_pos rfl,List.getD,adL h];rfl
 ·rw[if_neg e,List.getD,adH (fun e'=>e e'.symm)];rfl
theorem yC{α:Type}(d:α){l m:List α}(h:l.length=m.length)(h2:∀k,k<l.length->l.getD k d=m.getD k d):l=m:=by
 refine List.ext_getElem h fun k h1 h3=>?_
 have:=h2 k h1
 rw[List.getD,List.getD,acW h1,acW h3]at this;exact this
theorem sS{α β:Type}[Inhabited α](g:α->β)(l:List α){k:Nat}(h:k<l.length)(d:β):(l.map g).getD k d=g (l.getD k default):=by
 rw[List.getD,List.getD,acZ,acW h];rfl
theorem tb{α:Type}(n k:Nat)(d:α):(List.replicate n d).getD k d=d:=by
 rw[List.getD,List.getElem?_replicate];split<;>rfl
theorem qk{α β:Type}(g:α->Option β)(l:List α):(l.filterMap g).length<=l.length:=List.length_filterMap_le _ _
theorem Uo(f:Lt.Func)(hp:qu f)(KK:List (List Int)->Prop)(h:KK (gD f)):Kw f KK:=by
 unfold Kw;obtain⟨hn,hto⟩:=hp;dsimp only;have hz:(f.Blocks.length:Int).toNat=f.Blocks.length:=Int.toNat_natCast _
 intro _;rw[hz];refine⟨⟨by omega,by omega,by omega⟩,fun _=>?_⟩;refine aZ _ f.Blocks.length (fun i v=>v.2=(i:Int)/\v.1.length=f.Blocks.length/\(∀k,i<=k->v.1.getD k []=[])/\∀k,k<i->v.1.getD k []=(Lt.toB f.Blocks k).filterMap (gL f)) (fun R i v hi⟨e,h1,h2,h3⟩ih=>?_) (fun R v⟨e,h1,h2,h3⟩=>?_) _ ⟨rfl,by simp,fun k _=>tb _ _ _,fun k hk=>by omega⟩
 ·obtain⟨out,v2⟩:=v;dsimp only at e h1 h2 h3⊢;subst e;rw[if_pos (aU hi)];refine⟨ob hi,fun _=>?_⟩;dsimp +instances only [Int.toNat_natCast]
  have hln:=hto _ (bJ _ hi)
  have goal:∀T:List (List UInt8),T=Lt.toB f.Blocks i->∀o:List (List Int),o.length=f.Blocks.length->(∀k,k≠i->o.getD k []=out.getD k [])->o.getD i []=T.filterMap (gL f)->R (o,i64.wrap ((i:Int)+1)):=fun T e o o1 o2 o3=>ih _ ⟨az kQ1,o1,fun k hk=>by rw[o2 k kQ1];exact h2 k kQ1,fun k hk=>by
   rcases adJ k i with h'|h'
   ·rw[o2 k kQ1];exact h3 k h'
   ·obtain rfl:k=i:=by omega
    rw[o3,e]⟩
  have hln:(f.Blocks.getD i default).End.To.length<=1000000:=hln
  have goal:=goal (f.Blocks.getD i default).End.To rfl
  generalize(f.Blocks.getD i default).End.To=T at hln goal;refine aZ _ T.length (fun j v=>v.2=(j:Int)/\v.1.length=f.Blocks.length/\(∀k,k≠i->v.1.getD k []=out.getD k [])/\v.1.getD i []=(T.take j).filterMap (gL f)) (fun R3 j v hj⟨e,g1,g2,g3⟩ih3=>?_) (fun R3 v⟨e,g1,g2,g3⟩=>?_) _ ⟨rfl,h1,fun _ _=>rfl,by rw[h2 i (ac1 _)];rfl⟩
  ·obtain⟨o,v4⟩:=v;dsimp only at e g1 g2 g3⊢;subst e;rw[if_pos (aU hj)];intro J hJ;refine⟨ob hj,?_⟩;dsimp +instances only [Int.toNat_natCast]
   have hlo:(o.getD i []).length<=1000000:=by
    rw[g3];exact aeF (qk _ _) (aeF (List.length_take_le _ _) kQ1)
   have hio:i<o.length:=by omega
   refine ifk (fun hc=>?_) (fun hc=>hJ _ (ih3 _ ⟨az kQ1,g1,g2,?_⟩))
   ·have hm:gL f (T.getD j default)=some (gW f (T.getD j default)).1:=by unfold gL;rw[if_pos hc]
    refine⟨⟨by omega,by omega⟩,⟨by simp only[ac0,ac6];omega,by simp only[ac0,ac6];omega⟩,⟨by omega,by omega⟩,hio,rfl,hJ _ (ih3 _ ⟨az kQ1,by dsimp only;rw[List.length_set];exact g1,fun k hk=>?_,?_⟩)⟩
    ·dsimp only;rw[bX _ hio,if_neg hk];exact g2 k hk
    ·dsimp only;rw[bX _ hio,if_pos rfl,g3,ce T hj,List.filterMap_append];simp only[List.filterMap_cons,hm,List.filterMap_nil]
   ·have hm:gL f (T.getD j default)=none:=by unfold gL;rw[if_neg hc]
    dsimp only;rw[g3,ce T hj,List.filterMap_append];simp only[List.filterMap_cons,hm,List.filterMap_nil,afF]
  ·obtain⟨o,v4⟩:=v;dsimp only at e g1 g2 g3⊢;subst e;rw[if_neg (by simp)];rw[afA]at g3;exact goal o g1 g2 g3
 ·obtain⟨out,v2⟩:=v;dsimp only at e h1 h2 h3⊢;subst e;rw[if_neg (by simp)];have:out=gD f:=yC [] (by rw[h1];unfold gD;rw[acY]) fun k hk=>by
   rw[h3 k kQ1];unfold gD;rw[sS _ _ kQ1]
  rw[this];exact h
theorem Vm(p:Nat->Bool)(i:Nat):(List.range (i+1)).filter p=(List.range i).filter p++(if p i=true then [i]else []):=by
 rw[List.range_succ,List.filter_append];cases h:p i<;>simp[h]
theorem Iy(g:List (List Int))(hp:oP g)(KK:List (List Int)->Prop)(h:KK (eQ g)):tX g KK:=by
 unfold tX;obtain⟨hn,hto⟩:=hp;dsimp only;have hz:(g.length:Int).toNat=g.length:=Int.toNat_natCast _
 intro _;rw[hz];refine⟨⟨by omega,by omega,by omega⟩,fun _=>?_⟩
 let pr:Nat->Nat->List Int:=fun i k=>((List.range i).filter fun i=>decide ((k:Int)∈g.getD i [])).map fun(i:Nat)=>(i:Int)
 have pl:∀i k,(pr i k).length<=i:=fun i k=>by
  show(List.map _ _).length<=i
  rw[acY];exact aeF (List.length_filter_le _ _) (by rw[ae6];exact ac1 _)
 have pn:∀i k,(i:Int) ∉ pr i k:=fun i k hm=>by
  obtain⟨a,ha,e⟩:=adR.1 hm;have:=List.mem_range.1 (afN.1 ha).1
  omega
 have ps:∀i k,pr (i+1) k=pr i k++(if(k:Int)∈g.getD i []then [(i:Int)]else []):=fun i k=>by
  show List.map _ _=List.map _ _++_
  rw[Vm,aeN];by_cases e:(k:Int)∈g.getD i []
  ·rw[if_pos e,if_pos (decide_eq_true e)];rfl
  ·rw[if_neg e,if_neg (by simpa using e)];rfl
 refine aZ _ g.length (fun i v=>v.2=(i:Int)/\v.1.length=g.length/\∀k,k<g.length->v.1.getD k []=pr i k) (fun R i v hi⟨e,h1,h2⟩ih=>?_) (fun R v⟨e,h1,h2⟩=>?_) _ ⟨rfl,by simp,fun k _=>tb _ _ _⟩
 ·obtain⟨out,v2⟩:=v;dsimp only at e h1 h2⊢;subst e;rw[if_pos (aU hi)];refine⟨ob hi,fun _=>?_⟩;dsimp +instances only [Int.toNat_natCast]
  have hln:=hto _ (by rw[List.getD,acW hi];exact adY hi:g.getD i []∈g)
  have goal:∀T:List Int,T=g.getD i []->∀o:List (List Int),o.length=g.length->(∀k,k<g.length->o.getD k []=pr i k++(if(k:Int)∈T then [(i:Int)]else []))->R (o,i64.wrap ((i:Int)+1)):=fun T e o o1 o2=>ih _ ⟨az kQ1,o1,fun k hk=>by rw[ps,<- e];exact o2 k hk⟩
  have goal:=goal (g.getD i []) rfl
  generalize g.getD i []=T at hln goal;refine aZ _ T.length (fun j v=>v.2=(j:Int)/\v.1.length=g.length/\∀k,k<g.length->v.1.getD k []=pr i k++(if(k:Int)∈T.take j then [(i:Int)]else [])) (fun R3 j v hj⟨e,g1,g2⟩ih3=>?_) (fun R3 v⟨e,g1,g2⟩=>?_) _ ⟨rfl,h1,fun k hk=>by rw[h2 k hk];simp⟩
  ·obtain⟨o,v4⟩:=v;dsimp only at e g1 g2⊢;subst e;rw[if_pos (aU hj)];intro J hJ;refine⟨ob hj,fun J7 hJ7=>?_⟩;dsimp +instances only [Int.toNat_natCast]at hJ7⊢
   have tk:=ce T hj
   generalize T.getD j default=z at hJ7 tk⊢;have stay:¬ (0<=z/\z < (g.length:Int))\/z∈T.take j->J o:=fun hh=>hJ _ (ih3 _ ⟨az kQ1,g1,fun k hk=>by
    dsimp only;rw[g2 k hk,tk];have:(k:Int)∈T.take j++[z] ↔ (k:Int)∈T.take j:=by
     rw[adF,ac9];exact⟨fun h=>h.elim id fun e=>hh.elim (fun hh=>absurd ⟨by omega,by omega⟩ hh) (fun hh=>by rw[e];exact hh),.inl⟩
    simp only[this]⟩)
   refine ifk (fun h0=>ifk (fun h1'=>?_) (fun h1'=>?_)) (fun h0=>?_)
   ·have h0:=of_decide_eq_true h0
    have h1':=of_decide_eq_true h1'
    have hzo:z.toNat<o.length:=by omega
    have ez:((z.toNat:Nat):Int)=z:=by omega
    have eg:=g2 z.toNat kQ1
    rw[ez]at eg;have hb:(o.getD z.toNat []).length<=1000001:=by
     rw[eg,ac3];have:=pl i z.toNat
     split<;>simp only[ac0,ac6]<;>omega
    have hin:uI (o.getD z.toNat []) (i:Int)=decide (z∈T.take j):=by
     rw[Qw,decide_eq_decide,eg,adF];have:=pn i z.toNat
     by_cases e:z∈T.take j
     ·rw[if_pos e];simp[e]
     ·rw[if_neg e];simp[e,this]
    refine⟨⟨by omega,by omega⟩,trivial,hJ7 _ ?_⟩;rw[hin];refine ifk (fun hc=>?_) (fun hc=>stay (.inr (by simpa using hc)));have hc:z ∉ T.take j:=by simpa using hc
    refine⟨⟨by omega,by omega⟩,⟨by simp only[ac0,ac6];omega,by simp only[ac0,ac6];omega⟩,⟨by omega,by omega⟩,hzo,rfl,hJ _ (ih3 _ ⟨az kQ1,by dsimp only;rw[List.length_set];exact g1,fun k hk=>?_⟩)⟩;dsimp only;rw[bX _ hzo,tk];by_cases e:k=z.toNat
    ·have e':(k:Int)=z:=by omega
     rw[if_pos e,eg,e',if_neg hc,if_pos (by simp),e];simp
    ·rw[if_neg e,g2 k hk];have:(k:Int)∈T.take j++[z] ↔ (k:Int)∈T.take j:=by
      rw[adF,ac9];exact⟨fun h=>h.elim id fun e'=>by omega,.inl⟩
     simp only[this]
   ·refine hJ7 _ ?_;rw[if_neg (by simp)];exact stay (.inl fun h'=>h1' (by simpa using h'.2))
   ·refine hJ7 _ ?_;rw[if_neg (by simp)];exact stay (.inl fun h'=>h0 (by simpa using h'.1))
  ·obtain⟨o,v4⟩:=v;dsimp only at e g1 g2⊢;subst e;rw[if_neg (by simp)];rw[afA]at g2;exact goal o g1 g2
 ·obtain⟨out,v2⟩:=v;dsimp only at e h1 h2⊢;subst e;rw[if_neg (by simp)];have:out=eQ g:=yC [] (by rw[h1];unfold eQ;rw[acY,ae6]) fun k hk=>by
   rw[h2 k kQ1];unfold eQ;rw[sS _ _ (by rw[ae6];omega),List.getD,List.getElem?_range kQ1];rfl
  rw[this];exact h
abbrev VM:=List (List UInt8×Bool)
def VMo(m:VM):Prop:=(m.map (·.1)).Nodup/\∀x∈m,x.2=true
theorem j0(k:List UInt8)(v:Bool):∀m:VM,(bS .s m k v).map (·.1)=if k∈m.map (·.1)then m.map (·.1)else m.map (·.1)++[k]
 |[]=>by simp[bS]
 |x::l=>by
  have ih:=j0 k v l
  simp only[bS,sM];by_cases e:x.1=k
  ·rw[decide_eq_true e,if_pos (by simp[e])];simp[e]
  ·rw[decide_eq_false e];simp only[List.map_cons,ih,ac8];have e':¬ k=x.1:=fun h=>e h.symm
   by_cases h:k∈l.map (·.1)
   ·rw[if_pos h,if_pos (.inr h)]
   ·rw[if_neg h,if_neg (by simp only[e',h,or_self,not_false_eq_true])];rfl
theorem Ik(k:List UInt8):∀m:VM,(∀x∈m,x.2=true)->∀x∈bS .s m k true,x.2=true
 |[],h,x,hx=>by
  simp only[bS,ac9]at hx;rw[hx]
 |y::l,h,x,hx=>by
  simp only[bS,sM]at hx;by_cases e:y.1=k
  ·rw[decide_eq_true e]at hx;rcases ac8.1 hx with hx|hx
   ·rw[hx]
   ·exact h x (adB _ hx)
  ·rw[decide_eq_false e]at hx;rcases ac8.1 hx with hx|hx
   ·rw[hx];exact h y (aeM)
   ·exact Ik k l (fun z hz=>h z (adB _ hz)) x hx
theorem VMo.ins{m:VM}(h:VMo m)(k:List UInt8):VMo (bS .s m k true):=by
 refine⟨?_,Ik k m h.2⟩;rw[j0];split
 ·exact h.1
 ·rename_i hk;rw[afH];exact⟨h.1,by simp,fun a ha b hb e=>by obtain rfl:=ac9.1 hb;subst e;exact hk ha⟩
theorem VMo.nil:VMo []:=⟨List.nodup_nil,fun x h=>by cases h⟩
theorem IS:∀{m:VM},(∀x∈m,x.2=true)->∀v,(aI (β:=Bool) .s m v).getD false=decide (v∈m.map (·.1))
 |[],_,v=>by simp[aI]
 |x::l,h,v=>by
  simp only[aI,sM];by_cases e:x.1=v
  ·rw[decide_eq_true e];simp[h x (aeM),e]
  ·rw[decide_eq_false e];show(aI (β:=Bool) .s l v).getD false=_
   rw[IS (fun z hz=>h z (adB _ hz)) v,decide_eq_decide];have e':¬ v=x.1:=fun h=>e h.symm
   simp[e']
def okU(U:List (List UInt8))(s:Lt.Vs):Prop:=∃m,s=some m/\VMo m/\∀v∈m.map (·.1),v∈U
theorem gR{m:VM}(h:VMo m)(v:List UInt8):bb (some m) v=decide (v∈m.map (·.1)):=IS h.2 v
theorem okU.len{U:List (List UInt8)}{s:Lt.Vs}(h:okU U s):(s.getD []).length<=U.length:=by
 obtain⟨m,rfl,h1,h2⟩:=h;have:=List.Nodup.length_le_of_subset h1.1 (l₂:=U) h2
 simpa using this
theorem okU.isS{U:List (List UInt8)}{s:Lt.Vs}(h:okU U s):s.isSome=true:=by obtain⟨m,rfl,_⟩:=h;rfl
theorem okU.nil(U:List (List UInt8)):okU U (some []):=⟨[],rfl,.nil,fun v h=>by cases h⟩
theorem okU.le{U:List (List UInt8)}{s t:Lt.Vs}(hs:okU U s)(ht:okU U t)(h:∀v,bb s v=true->bb t v=true):(s.getD []).length<=(t.getD []).length:=by
 obtain⟨m,rfl,h1,_⟩:=hs;obtain⟨n,rfl,g1,_⟩:=ht;have:=List.Nodup.length_le_of_subset h1.1 (l₂:=n.map (·.1)) fun v hv=>by
  have:=h v (by rw[gR h1];exact decide_eq_true hv)
  rw[gR g1]at this;exact of_decide_eq_true this
 simpa using this
theorem okU.same{U:List (List UInt8)}{s t:Lt.Vs}(hs:okU U s)(ht:okU U t)(h:∀v,bb s v=true->bb t v=true)(e:(s.getD []).length=(t.getD []).length):∀v,bb t v=true->bb s v=true:=by
 obtain⟨m,rfl,h1,_⟩:=hs;obtain⟨n,rfl,g1,_⟩:=ht;intro v hv;rw[gR g1]at hv;have hv:=of_decide_eq_true hv
 rw[gR h1];refine decide_eq_true (Classical.byContradiction fun hn=>?_);have:=List.Nodup.length_le_of_subset (l₁:=v::m.map (·.1)) (aeD.2 ⟨hn,h1.1⟩) (l₂:=n.map (·.1)) fun u hu=>by
  rcases ac8.1 hu with rfl|hu
  ·exact hv
  ·have:=h u (by rw[gR h1];exact decide_eq_true hu)
   rw[gR g1]at this;exact of_decide_eq_true this
 simp only[ac0,acY]at this;simp only[adW]at e;omega
theorem If(m:VM)(k v:List UInt8):bb (some (bS .s m k true)) v=(decide (k=v)||bb (some m) v):=by
 unfold bb;simp only[adW];rw[me];by_cases e:k=v
 ·rw[if_pos e,decide_eq_true e];rfl
 ·rw[if_neg e,decide_eq_false e];rfl
theorem G6:∀(l:List (List UInt8))(m:VM)v,bb (some (l.foldl (fun m v=>bS .s m v true) m)) v=(bb (some m) v||decide (v∈l))
 |[],m,v=>by simp
 |k::r,m,v=>by
  rw[List.foldl_cons,G6 r,If];by_cases e:k=v
  ·simp[e]
  ·have e':¬ v=k:=fun h=>e h.symm
   simp[e,e']
theorem Er(s:Lt.Vs)(l:List (List UInt8))(v:List UInt8):bb (AS s l) v=(bb s v||decide (v∈l)):=by
 unfold AS;rw[G6];rfl
theorem Ov{U:List (List UInt8)}:∀(l:List (List UInt8))(m:VM),okU U (some m)->(∀v∈l,v∈U)->okU U (some (l.foldl (fun m v=>bS .s m v true) m))
 |[],m,h,_=>h
 |k::r,m,h,hl=>by
  rw[List.foldl_cons];refine Ov r _ ?_ fun v hv=>hl v (adB _ hv)
  obtain⟨m',e,h1,h2⟩:=h;obtain rfl:=Option.some.inj e;refine⟨_,rfl,h1.ins k,fun v hv=>?_⟩;rw[j0]at hv;split at hv
  ·exact h2 v hv
  ·rcases adF.1 hv with hv|hv
   ·exact h2 v hv
   ·rw[ac9.1 hv];exact hl k (aeM)
theorem okU.put{U:List (List UInt8)}{s:Lt.Vs}(h:okU U s){l:List (List UInt8)}(hl:∀v∈l,v∈U):okU U (AS s l):=by
 obtain⟨m,rfl,h1,h2⟩:=h;exact Ov l m ⟨m,rfl,h1,h2⟩ hl
theorem zz{α:Type}[Inhabited α]{body:(Int×VM->Prop)->Int×VM->Prop}(l:List α)(nm:α->List (List UInt8))(m:VM)(KK:Lt.Vs->Prop)
  (hs:∀R(i:Nat)m,i<l.length->(l.length<=4611686018427387904->R (i64.wrap ((i:Int)+1),(nm (l.getD i default)).foldl (fun m v=>bS .s m v true) m))->body R ((i:Int),m))
  (he:∀R m,KK (some m)->body R ((l.length:Int),m)) (h:KK (AS (some m) (l.flatMap nm))):af body (0,m):=by
 refine gJ l (fun m i=>(i,m)) (fun r m=>KK (AS (some m) (r.flatMap nm))) (fun R m i x r hi hx _ ih h=>hs R i m hi fun hl=>ih hl _ ?_) (fun R m h=>he R m h) m h;rw[hx];unfold AS at h⊢;rw[adU,List.foldl_append]at h;exact h
theorem G5{α:Type}(g:α->List UInt8)(l:List α):l.flatMap (fun x=>[g x])=l.map g:=by
 induction l with
 |nil=>rfl
 |cons x r ih=>rw[adU,ih];rfl
theorem DP(f:Lt.Func)(KK:Lt.Vs->Prop)(h:KK (yd f)):qH f KK:=by
 unfold qH;intro hl;refine zz f.Params (fun x=>[x.Name]) [] KK (fun R i m hi ih=>?_) (fun R m h=>?_) (by rw[G5];exact h)
 ·rw[if_pos (aU hi)];exact⟨ob hi,ih hl⟩
 ·rw[if_neg (by simp)];exact h
theorem LD(s:Lt.Vs)(b:Lt.Block)(hp:qt s b)(KK:Lt.Vs->Prop)(h:KK (jP s b)):xn s b KK:=by
 unfold xn;refine⟨hp,fun hl=>?_⟩;have es:some (s.getD [])=s:=by unfold qt at hp;cases s with|none=>simp at hp|some m=>rfl
 refine zz b.Phis (fun x=>[x.Dst]) (s.getD []) KK (fun R i m hi ih=>?_) (fun R m h=>?_) (by rw[G5,es];exact h)
 ·rw[if_pos (aU hi)];exact⟨ob hi,ih hl⟩
 ·rw[if_neg (by simp)];exact h
theorem W1{α:Type}(g:α->List UInt8)(l:List α):l.flatMap (fun x=>if g x=[]then []else [g x])=(l.map g).filter fun d=>!decide (d=[]):=by
 induction l with
 |nil=>rfl
 |cons x r ih=>
  rw[adU,ih,List.map_cons,List.filter_cons];by_cases e:g x=[]
  ·rw[if_pos e,if_neg (by simp[e])];rfl
  ·rw[if_neg e,if_pos (by simp[e])];rfl
theorem LC(s:Lt.Vs)(b:Lt.Block)(hp:qt s b)(KK:Lt.Vs->Prop)(h:KK (iI s b)):xm s b KK:=by
 unfold xm;refine⟨hp,fun hl=>?_⟩;have es:some (s.getD [])=s:=by unfold qt at hp;cases s with|none=>simp at hp|some m=>rfl
 refine zz b.Code (fun x=>if x.Dst=[]then []else [x.Dst]) (s.getD []) KK (fun R i m hi ih=>?_) (fun R m h=>?_) (by rw[W1,es];exact h)
 ·rw[if_pos (aU hi)];intro J hJ;dsimp +instances only [Int.toNat_natCast]at hJ ih⊢
  refine⟨ob hi,?_⟩;have ih:=ih hl
  by_cases e:(b.Code.getD i default).Dst=[]
  ·rw[if_neg (by rw[decide_eq_true e];simp)];rw[if_pos e]at ih;exact hJ _ ih
  ·rw[if_pos (by rw[decide_eq_false e];rfl)];rw[if_neg e]at ih;exact hJ _ ih
 ·rw[if_neg (by simp)];exact h
theorem sT{α:Type}:∀(l:List α)(i:Nat)(hi:i<l.length)(d:α)x,x∈l ↔ x=l.getD i d\/x∈l.eraseIdx i
 |[],i,hi,d,x=>by simp at hi
 |y::l,0,hi,d,x=>by simp
 |y::l,i+1,hi,d,x=>by
  have:=sT l i (by simpa using hi) d x
  simp only[List.eraseIdx_cons_succ,ac8,List.getD_cons_succ];rw[this];exact⟨fun h=>h.elim (fun h=>.inr (.inl h)) fun h=>h.elim .inl fun h=>.inr (.inr h),fun h=>h.elim (fun h=>.inr (.inl h)) fun h=>h.elim .inl fun h=>.inr (.inr h)⟩
theorem LF(a b:Lt.Vs)(hp:Ei a b)(KK:Lt.Vs->Prop)(h:∀y,zt a b y->KK y):xp a b KK:=by
 unfold xp;refine ifk (fun ha=>h b ⟨fun _=>rfl,fun hn=>absurd (by simpa using ha) hn⟩) (fun ha=>?_);obtain⟨A,rfl⟩:∃A,a=some A:=by cases a with|none=>simp at ha|some A=>exact⟨A,rfl⟩
 have hA:VMo A:=by
  rcases hp with hp|⟨n,l,e,h1,h2,_⟩
  ·cases hp
  ·obtain rfl:=Option.some.inj e;exact⟨h1,h2⟩
 refine sU (fun v=>VMo v.1/\(∀x∈v.2,x∈A)/\(∀u,u∈v.1.map (·.1)->u∈A.map (·.1)/\bb b u=true)/\∀u,u∈A.map (·.1)->bb b u=true->u∈v.1.map (·.1)\/u∈v.2.map (·.1)) (fun v=>v.2.length) (fun R v⟨h1,h2,h3,h4⟩ih=>⟨fun e=>h _ ⟨fun e=>(by cases e),fun _=>⟨fun n hn=>?_,fun u=>?_⟩⟩,fun i hi=>?_⟩) _ ⟨.nil,fun x hx=>hx,fun u hu=>(by cases hu),fun u hu _=>.inr hu⟩
 ·obtain⟨l,e',g1,g2,g3⟩:=hn;obtain rfl:=Option.some.inj e';refine⟨v.1,rfl,h1.1,h1.2,?_⟩;have:=List.Nodup.length_le_of_subset h1.1 (l₂:=A.map (·.1)) fun u hu=>(h3 u hu).1
  simp only[acY]at this;omega
 ·rw[gR h1,gR hA];rw[e]at h4;by_cases g:u∈v.1.map (·.1)
  ·rw[decide_eq_true g,decide_eq_true (h3 u g).1,(h3 u g).2];rfl
  ·rw[decide_eq_false g];by_cases g2:u∈A.map (·.1)
   ·rw[decide_eq_true g2,ad6];cases hb:bb b u with
    |false=>rfl
    |true=>exact absurd ((h4 u g2 hb).resolve_right (by simp)) g
   ·rw[decide_eq_false g2];rfl
 ·obtain⟨acc,rest⟩:=v;dsimp only at h1 h2 h3 h4 ih hi⊢;have hm:=sT rest i hi default
  have hlen:(rest.eraseIdx i).length<rest.length:=by rw[List.length_eraseIdx];split<;>omega
  have hx:rest.getD i default∈A:=h2 _ ((hm _).2 (.inl rfl))
  generalize rest.getD i default=x at hm hx;have hb:∀w,(aI (β:=Bool) .s (b.getD []) w).getD (dflt .bo)=bb b w:=fun w=>rfl
  rw[hb];refine ifk (fun hc=>ih _ ⟨h1.ins _,fun y hy=>h2 y ((hm y).2 (.inr hy)),fun u hu=>?_,fun u hu hub=>?_⟩ hlen) (fun hc=>ih _ ⟨h1,fun y hy=>h2 y ((hm y).2 (.inr hy)),h3,fun u hu hub=>?_⟩ hlen)
  ·dsimp only at hu;rw[j0]at hu;split at hu
   ·exact h3 u hu
   ·rcases adF.1 hu with hu|hu
    ·exact h3 u hu
    ·rw[ac9.1 hu];exact⟨adO hx,hc⟩
  ·dsimp only;have hk:u∈(bS .s acc x.1 true).map (·.1) ↔ u∈acc.map (·.1)\/u=x.1:=by
    rw[j0];split
    ·rename_i g;exact⟨.inl,fun h=>h.elim id fun e=>by rw[e];exact g⟩
    ·rw[adF,ac9]
   rw[hk];rcases h4 u hu hub with g|g
   ·exact .inl (.inl g)
   ·obtain⟨y,hy,e⟩:=adR.1 g;rcases(hm y).1 hy with rfl|hy
    ·exact .inl (.inr e.symm)
    ·exact .inr (adR.2 ⟨y,hy,e⟩)
  ·dsimp only;rcases h4 u hu hub with g|g
   ·exact .inl g
   ·obtain⟨y,hy,e⟩:=adR.1 g;rcases(hm y).1 hy with rfl|hy
    ·rw[e]at hc;exact absurd hub hc
    ·exact .inr (adR.2 ⟨y,hy,e⟩)
def tW(a0_g:List (List Int))(KK:(List Int)->Prop):Prop:=
 ab (α:=List Int) (fun J1=>(a0_g.length<=4611686018427387904->((0:Int)<=(a0_g.length:Int)/\(a0_g.length:Int)<=4611686018427387904/\1*(a0_g.length:Int).toNat<=281474976710656)/\(a0_g.length<=4611686018427387904->if(decide ((a0_g.length:Int)=0))=true then(J1 [])else(((0:Int)<=0/\0 < (((List.replicate (a0_g.length:Int).toNat (dflt .bo)).length:Nat):Int))/\0 < (List.replicate (a0_g.length:Int).toNat (dflt .bo)).length/\af (α:=List Bool×List Int×List Lt.step) (fun R3 v4=>have z3:=(i64.wrap ((v4.2.2.length:Int) - 1));have z1:=(v4.2.2.getD z3.toNat default);have z6:=a0_g.getD (z1.at_).toNat [];have z4:=v4.2.2.set z3.toNat (Lt.step.mk (z1.at_) (i64.wrap ((z1.next)+1)));have z2:=z6.getD (z1.next).toNat default;have z7:=([(Lt.step.mk z2 0)]:List Lt.step);(v4.2.2.length<=4611686018427387904->if(decide (0 < (v4.2.2.length:Int)))=true then((v4.2.2.length<=4611686018427387904->((0:Int)<=z3/\z3 < ((v4.2.2.length:Nat):Int))/\((0:Int)<=z1.at_/\(z1.at_).toNat<a0_g.length)/\(z6.length<=4611686018427387904->if(decide (z1.next=(z6.length:Int)))=true then((v4.2.1.length+([z1.at_]:List Int).length<=4611686018427387904/\(v4.2.1.length+([z1.at_]:List Int).length)*8<=140737488355328)/\(v4.2.2.length<=4611686018427387904->((0:Int)<=z3/\z3.toNat<=v4.2.2.length)/\R3 (v4.1,(v4.2.1++([z1.at_]:List Int)),(v4.2.2.take z3.toNat))))else(((0:Int)<=z1.at_/\(z1.at_).toNat<a0_g.length)/\((0:Int)<=z1.next/\(z1.next).toNat<z6.length)/\z3.toNat<v4.2.2.length/\ab (α:=Bool) (fun J5=>if(decide (0<=z2))=true then(if(decide (z2 < (a0_g.length:Int)))=true then(((0:Int)<=z2/\z2 < ((v4.1.length:Nat):Int))/\J5 (!(v4.1.getD z2.toNat default)))else(J5 false))else(J5 false)) (fun v6=>if v6=true then(((0:Int)<=z2/\z2 < ((v4.1.length:Nat):Int))/\z2.toNat<v4.1.length/\(z4.length+z7.length<=4611686018427387904/\(z4.length+z7.length)*16<=140737488355328)/\R3 ((v4.1.set z2.toNat true),v4.2.1,(z4++z7)))else(R3 (v4.1,v4.2.1,z4)))))))else(J1 v4.2.1))) (((List.replicate (a0_g.length:Int).toNat (dflt .bo)).set 0 true),[],[(Lt.step.mk 0 0)]))))) (fun v2=>(v2.length<=4611686018427387904->af (α:=Int×Int×List Int) (fun R7 v8=>have z5:=v8.2.2.set v8.1.toNat (v8.2.2.getD v8.2.1.toNat default);if(decide (v8.1<v8.2.1))=true then(((0:Int)<=v8.2.1/\v8.2.1 < ((v8.2.2.length:Nat):Int))/\((0:Int)<=v8.1/\v8.1 < ((v8.2.2.length:Nat):Int))/\((0:Int)<=v8.1/\v8.1 < ((v8.2.2.length:Nat):Int))/\v8.1.toNat<v8.2.2.length/\((0:Int)<=v8.2.1/\v8.2.1 < ((z5.length:Nat):Int))/\v8.2.1.toNat<z5.length/\R7 ((i64.wrap (v8.1+1)),(i64.wrap (v8.2.1 - 1)),(z5.set v8.2.1.toNat (v8.2.2.getD v8.1.toNat default))))else(KK v8.2.2)) (0,(i64.wrap ((v2.length:Int) - 1)),v2)))
def PrF(g:List (List Int)):List Int->List Int->Prop
 |_,[]=>True
 |seen,x::r=>(x≠0->∃y∈seen,x∈g.getD y.toNat [])/\PrF g (x::seen) r
theorem PrF.mono{g:List (List Int)}:∀{r s t:List Int},PrF g s r->(∀x∈s,x∈t)->PrF g t r
 |[],s,t,_,_=>trivial
 |x::r,s,t,h,hs=>⟨fun e=>by obtain⟨y,hy,h'⟩:=h.1 e;exact⟨y,hs y hy,h'⟩,h.2.mono fun y hy=>by
   rcases ac8.1 hy with rfl|hy
   ·exact aeM
   ·exact adB _ (hs y hy)⟩
theorem Dd{g:List (List Int)}:∀{a b s:List Int},PrF g s (a++b) ↔ PrF g s a/\PrF g (a.reverse++s) b
 |[],b,s=>by simp[PrF]
 |x::a,b,s=>by
  rw[ad5,List.reverse_cons,aeC];show((x≠0->∃y∈s,x∈g.getD y.toNat [])/\PrF g (x::s) (a++b)) ↔ ((x≠0->∃y∈s,x∈g.getD y.toNat [])/\PrF g (x::s) a)/\PrF g (a.reverse++(x::s)) b
  rw[Dd (a:=a),and_assoc]
theorem PrF.at{g:List (List Int)}:∀{r s:List Int},PrF g s r->∀i,i<r.length->r.getD i 0≠0->(∃y∈s,r.getD i 0∈g.getD y.toNat [])\/∃j,j<i/\r.getD i 0∈g.getD (r.getD j 0).toNat []
 |[],s,h,i,hi,_=>by simp at hi
 |x::r,s,h,0,hi,e=>.inl (h.1 e)
 |x::r,s,h,i+1,hi,e=>by
  rcases h.2.at i (by simpa using hi) e with⟨y,hy,h'⟩|⟨j,hj,h'⟩
  ·rcases ac8.1 hy with rfl|hy
   ·exact .inr ⟨0,by omega,h'⟩
   ·exact .inl ⟨y,hy,h'⟩
  ·exact .inr ⟨j+1,by omega,h'⟩
def atS(S:List Lt.step):List Int:=S.map (·.at_)
def wkS(g:List (List Int))(S:List Lt.step):Nat:=(S.map fun s=>(g.getD s.at_.toNat []).length-s.next.toNat+1).sum
structure DF (g:List (List Int)) (mk:List Bool) (out:List Int) (S:List Lt.step):Prop where
 ol:mk.length=g.length
 lt:∀k∈atS S++out.reverse,0<=k/\k < (g.length:Int)
 mv:∀k:Nat,k<g.length->(mk.getD k false=true ↔ (k:Int)∈atS S++out.reverse)
 z:(0:Int)∈atS S++out.reverse
 nd:(atS S++out.reverse).Nodup
 pr:PrF g [] (atS S++out.reverse)
 nx:∀s∈S,0<=s.next/\s.next.toNat<=(g.getD s.at_.toNat []).length
 co:∀k∈out,∀s∈g.getD k.toNat [],s∈atS S++out.reverse
 cs:∀s∈S,∀j,j<s.next.toNat->(g.getD s.at_.toNat []).getD j default∈atS S++out.reverse
theorem DF.len{g:List (List Int)}{mk:List Bool}{out:List Int}{S:List Lt.step}(h:DF g mk out S):S.length+out.length<=g.length:=by
 have:=List.Nodup.length_le_of_subset h.nd (l₂:=(List.range g.length).map fun(i:Nat)=>(i:Int)) fun k hk=>by
  obtain⟨a,b⟩:=h.lt k hk;exact adR.2 ⟨k.toNat,List.mem_range.2 kQ1,by omega⟩
 simp only[atS,ac3,acY,List.length_reverse,ae6]at this;exact this
theorem DF.od{g:List (List Int)}{mk:List Bool}{out:List Int}(h:DF g mk out [])(hg:∀l∈g,∀k∈l,0<=k/\k < (g.length:Int)):Lt.Od g out.reverse:=by
 have e:atS []++out.reverse=out.reverse:=rfl
 refine⟨h.lt,fun k hk=>?_,h.nd,fun i hi hne=>?_⟩
 ·induction hk with
  |first=>exact h.z
  |next i k _ hk ih=>exact h.co _ (List.mem_reverse.1 ih) _ (by rw[Int.toNat_natCast];exact hk)
 ·rcases h.pr.at i hi hne with⟨y,hy,_⟩|h'
  ·cases hy
  ·exact h'
theorem DF.pop{g:List (List Int)}{mk:List Bool}{out:List Int}{S:List Lt.step}{t:Lt.step}(h:DF g mk out (S++[t]))(ht:t.next.toNat=(g.getD t.at_.toNat []).length):DF g mk (out++[t.at_]) S:=by
 have e:atS S++(out++[t.at_]).reverse=atS (S++[t])++out.reverse:=by simp[atS]
 refine⟨h.ol,by rw[e];exact h.lt,by rw[e];exact h.mv,by rw[e];exact h.z,by rw[e];exact h.nd,by rw[e];exact h.pr,fun s hs=>h.nx s (ad2 _ hs),fun k hk s hs=>?_,fun s hs j hj=>by rw[e];exact h.cs s (ad2 _ hs) j hj⟩;rw[e];rcases adF.1 hk with hk|hk
 ·exact h.co k hk s hs
 ·obtain rfl:=ac9.1 hk;obtain⟨j,hj,e2⟩:=ae4.1 hs;have:=h.cs t (ad4 _ (ac9.2 rfl)) j kQ1
  rw[List.getD,acW hj]at this;rw[<- e2];exact this
theorem DF.on{g:List (List Int)}{mk:List Bool}{out:List Int}{S R:List Lt.step}{t:Lt.step}(h:DF g mk out (S++t::R))(ht:t.next.toNat < (g.getD t.at_.toNat []).length)(hm:(g.getD t.at_.toNat []).getD t.next.toNat default∈atS (S++t::R)++out.reverse):DF g mk out (S++Lt.step.mk t.at_ (t.next+1)::R):=by
 have e:atS (S++Lt.step.mk t.at_ (t.next+1)::R)=atS (S++t::R):=by simp[atS]
 have tm:t∈S++t::R:=ad4 _ (aeM)
 have tn:=(h.nx t tm).1
 have sp:∀s∈S++Lt.step.mk t.at_ (t.next+1)::R,s=Lt.step.mk t.at_ (t.next+1)\/s∈S++t::R:=fun s hs=>by
  rcases adF.1 hs with hs|hs
  ·exact .inr (ad2 _ hs)
  ·rcases ac8.1 hs with rfl|hs
   ·exact .inl rfl
   ·exact .inr (ad4 _ (adB _ hs))
 refine⟨h.ol,by rw[e];exact h.lt,by rw[e];exact h.mv,by rw[e];exact h.z,by rw[e];exact h.nd,by rw[e];exact h.pr,fun s hs=>?_,by rw[e];exact h.co,fun s hs j hj=>?_⟩
 ·rcases sp s hs with rfl|hs
  ·dsimp only;omega
  ·exact h.nx s hs
 ·rw[e];rcases sp s hs with rfl|hs
  ·dsimp only at hj⊢;rcases adJ j t.next.toNat with h'|h'
   ·exact h.cs t tm j h'
   ·obtain rfl:j=t.next.toNat:=by omega
    exact hm
  ·exact h.cs s hs j hj
theorem DF.push{g:List (List Int)}{mk:List Bool}{out:List Int}{S:List Lt.step}{t:Lt.step}{z:Int}(h:DF g mk out (S++[t]))(hz:0<=z/\z < (g.length:Int))(hn:¬ mk.getD z.toNat false=true)(hm:z∈g.getD t.at_.toNat []):DF g (mk.set z.toNat true) out (S++[t]++[Lt.step.mk z 0]):=by
 have e:atS (S++[t]++[Lt.step.mk z 0])=atS (S++[t])++[z]:=by simp[atS]
 have hl:z.toNat<mk.length:=by rw[h.ol];omega
 have hni:z ∉ atS (S++[t])++out.reverse:=fun hi=>hn ((h.mv z.toNat kQ1).2 (by rw[Int.toNat_of_nonneg hz.1];exact hi))
 have up:∀k,k∈atS (S++[t])++out.reverse->k∈atS (S++[t]++[Lt.step.mk z 0])++out.reverse:=fun k hk=>by
  rw[e];rcases adF.1 hk with hk|hk
  ·exact ad2 _ (ad2 _ hk)
  ·exact ad4 _ hk
 have dn:∀k,k∈atS (S++[t]++[Lt.step.mk z 0])++out.reverse->k=z\/k∈atS (S++[t])++out.reverse:=fun k hk=>by
  rw[e]at hk;rcases adF.1 hk with hk|hk
  ·rcases adF.1 hk with hk|hk
   ·exact .inr (ad2 _ hk)
   ·exact .inl (ac9.1 hk)
  ·exact .inr (ad4 _ hk)
 refine⟨by rw[List.length_set];exact h.ol,fun k hk=>?_,fun k hk=>?_,up _ h.z,?_,?_,fun s hs=>?_,fun k hk s hs=>up _ (h.co k hk s hs),fun s hs j hj=>?_⟩
 ·rcases dn k hk with rfl|hk
  ·exact hz
  ·exact h.lt k hk
 ·rw[dU hl];by_cases ek:k=z.toNat
  ·subst ek;refine⟨fun _=>?_,fun _=>by simp⟩;rw[Int.toNat_of_nonneg hz.1,e];exact ad2 _ (ad4 _ (ac9.2 rfl))
  ·rw[decide_eq_false ek,aeG,h.mv k hk];exact⟨up _,fun hk'=>(dn _ hk').resolve_left kQ1⟩
 ·rw[e,aeC];have hnd:=h.nd
  rw[afH]at hnd⊢;refine⟨hnd.1,aeD.2 ⟨fun hi=>hni (ad4 _ hi),hnd.2.1⟩,fun a ha b hb eab=>?_⟩;rcases ac8.1 hb with rfl|hb
  ·subst eab;exact hni (ad2 _ ha)
  ·exact hnd.2.2 a ha b hb eab
 ·rw[e,aeC];have hp:=Dd.1 h.pr
  refine Dd.2 ⟨hp.1,fun _=>⟨t.at_,?_,hm⟩,hp.2.mono fun x hx=>adB _ hx⟩;simp[atS]
 ·rcases adF.1 hs with hs|hs
  ·exact h.nx s hs
  ·obtain rfl:=ac9.1 hs;exact⟨Int.le_refl _,ad1 _⟩
 ·rcases adF.1 hs with hs|hs
  ·exact up _ (h.cs s hs j hj)
  ·obtain rfl:=ac9.1 hs;exact absurd hj (Nat.not_lt_zero j)
theorem Vr{α:Type}(S:List α)(t x:α){m:Nat}(h:m=S.length):(S++[t]).set m x=S++[x]:=by
 subst h;rw[List.set_append_right _ _ (ac1 _)];simp
theorem Ix(g:List (List Int))(hp:sZ g)(KK:List Int->Prop)(h:∀y,uX g y->KK y):tW g KK:=by
 unfold tW;obtain⟨⟨hn,hto⟩,hps,hg⟩:=hp;dsimp only;intro J hJ hl;have hz:(g.length:Int).toNat=g.length:=Int.toNat_natCast _
 rw[hz];have hr:(List.replicate g.length (dflt .bo):List Bool).length=g.length:=aeQ
 refine⟨⟨by omega,by omega,by omega⟩,fun _=>?_⟩;rw[if_neg (by intro e;have:=of_decide_eq_true e;omega)];refine⟨⟨by omega,by rw[hr];omega⟩,by rw[hr];exact hps,?_⟩;have hfin:∀mk out,DF g mk out []->J out:=fun mk out hd=>by
  refine hJ out fun hlo=>?_
  have hlen:=hd.len
  simp only[ac6,aeA]at hlen;generalize hn':out.length=n at hlen hlo⊢;rw[dl kQ1 kQ1];refine sU (fun v=>∃i:Nat,v.1=(i:Int)/\v.2.1=(n:Int) - 1 - (i:Int)/\2*i<=n+1/\v.2.2.length=n/\∀k,k<n->v.2.2.getD k default=if k<i\/n<=k+i then out.getD (n - 1-k) default else out.getD k default) (fun v=>(v.2.1-v.1).toNat) (fun R v hv ih=>?_) _ ⟨0,rfl,by dsimp only;omega,by omega,hn',fun k hk=>by dsimp only;rw[if_neg kQ1]⟩;obtain⟨v1,v2,l⟩:=v;obtain⟨i,e1,e2,h3,h4,h5⟩:=hv;dsimp only at e1 e2 h4 h5 ih⊢;subst e1 e2;refine ifk (fun hc=>?_) (fun hc=>?_)
  ·have hc:=of_decide_eq_true hc
   generalize hj:((n:Int) - 1 - (i:Int)).toNat=j;have hjn:j=n - 1-i:=by omega
   have hil:i<l.length:=by omega
   have hjl:j<l.length:=by omega
   rw[Int.toNat_natCast];refine⟨⟨by omega,by omega⟩,⟨by omega,by omega⟩,⟨by omega,by omega⟩,hil,⟨by omega,by rw[List.length_set];omega⟩,by rw[List.length_set];omega,?_⟩;rw[az kQ1,dl kQ1 kQ1];refine ih _ ⟨i+1,rfl,by dsimp only;omega,by omega,by dsimp only;rw[List.length_set,List.length_set];exact h4,fun k hk=>?_⟩ (by dsimp only;omega);dsimp only;rw[bX _ (by rw[List.length_set];exact hjl),bX _ hil];by_cases ej:k=j
   ·rw[if_pos ej,if_pos kQ1,h5 i kQ1,if_neg kQ1,show n - 1-k=i by omega]
   ·rw[if_neg ej];by_cases ei:k=i
    ·rw[if_pos ei,if_pos kQ1,h5 j kQ1,if_neg kQ1,show n - 1-k=j by omega]
    ·rw[if_neg ei,h5 k hk];by_cases hh:k<i\/n<=k+i
     ·rw[if_pos hh,if_pos kQ1]
     ·rw[if_neg hh,if_neg kQ1]
  ·have hc:¬ (i:Int) < (n:Int) - 1 - (i:Int):=by simpa using hc
   have:l=out.reverse:=yC default (by rw[List.length_reverse];omega) fun k hk=>by
    rw[h5 k kQ1,List.getD,List.getD,List.getD,List.getElem?_reverse kQ1,hn'];split
    ·rfl
    ·rw[show n - 1-k=k by omega]
   rw[this];exact h _ (hd.od hg)
 have hst:DF g ((List.replicate g.length (dflt .bo):List Bool).set 0 true) [] [Lt.step.mk 0 0]:=by
  refine⟨by rw[List.length_set,hr],fun k hk=>?_,fun k hk=>?_,by simp[atS],by simp[atS],⟨fun e=>absurd rfl e,trivial⟩,fun s hs=>?_,fun k hk=>(by cases hk),fun s hs j hj=>?_⟩
  ·obtain rfl:k=0:=by simpa[atS]using hk
   omega
  ·rw[dU (by rw[hr];exact hps),show(List.replicate g.length (dflt .bo):List Bool).getD k false=false from tb _ _ _];simp[atS]
  ·obtain rfl:=ac9.1 hs;exact⟨Int.le_refl _,ad1 _⟩
  ·obtain rfl:=ac9.1 hs;exact absurd hj (Nat.not_lt_zero j)
 refine sU (fun v=>DF g v.1 v.2.1 v.2.2) (fun v=>1000002*uC v.1+wkS g v.2.2) (fun R v hd ih=>?_) _ hst;obtain⟨mk,out,S⟩:=v;dsimp only at hd ih⊢;have hlen:=hd.len
 intro _;refine ifk (fun hpos=>?_) (fun hemp=>?_)
 rotate_left
 ·have e0:S=[]:=adZ (by simp at hemp;simp[hemp])
  subst e0;exact hfin mk out hd
 have hpos:0<S.length:=by have:=of_decide_eq_true hpos;omega
 have hw:i64.wrap ((S.length:Int) - 1)=((S.length - 1:Nat):Int):=by
  rw[dl kQ1 kQ1];omega
 rw[hw];dsimp +instances only [Int.toNat_natCast]
 generalize hmm:S.length - 1=m;have hsplit:S=S.take m++[S.getD m default]:=by
  have:=ce S (i:=m) kQ1
  rw[List.take_of_length_le kQ1]at this;exact this
 have htl:(S.take m).length=m:=by rw[ad8];omega
 generalize S.getD m default=t at hsplit;generalize hT:S.take m=T at hsplit htl;have htm:t∈S:=by rw[hsplit];exact ad4 _ (ac9.2 rfl)
 have hat:=hd.lt t.at_ (ad2 _ (adR.2 ⟨t,htm,rfl⟩))
 obtain⟨hx0,hx1⟩:=hd.nx t htm;have hatn:t.at_.toNat<g.length:=by omega
 have hgm:g.getD t.at_.toNat []∈g:=by rw[List.getD,acW hatn];exact adY hatn
 have hgl:=hto _ hgm
 have hgr:=hg _ hgm
 have hww:wkS g S=wkS g T+((g.getD t.at_.toNat []).length-t.next.toNat+1):=by rw[hsplit];simp[wkS]
 rw[hsplit]at hd;have hset:∀x,S.set m x=T++[x]:=fun x=>by rw[hsplit];exact Vr T t x htl.symm
 intro _;refine⟨⟨by omega,by omega⟩,⟨hat.1,hatn⟩,fun _=>?_⟩;refine ifk (fun he=>?_) (fun hne=>?_)
 ·have he:=of_decide_eq_true he
  refine⟨⟨by simp only[ac0,ac6];omega,by simp only[ac0,ac6];omega⟩,fun _=>⟨⟨by omega,by omega⟩,?_⟩⟩;exact ih _ (hd.pop kQ1) (by dsimp only;omega)
 ·have hne:¬ t.next=((g.getD t.at_.toNat []).length:Int):=by simpa using hne
  have hlt:t.next.toNat < (g.getD t.at_.toNat []).length:=by omega
  have hzm:(g.getD t.at_.toNat []).getD t.next.toNat default∈g.getD t.at_.toNat []:=bJ _ hlt
  have hzr:=hgr _ hzm
  have hw2:i64.wrap (t.next+1)=t.next+1:=dl kQ1 kQ1
  rw[hset,hw2];have hon:=hd.on hlt
  have hwn:wkS g (T++[Lt.step.mk t.at_ (t.next+1)])+1=wkS g S:=by
   rw[hww];simp only[wkS,aeN,List.map_cons,List.map_nil,List.sum_append,aeS,List.sum_nil];omega
  refine⟨⟨hat.1,hatn⟩,⟨hx0,hlt⟩,by omega,fun J5 hJ5=>?_⟩;generalize hze:(g.getD t.at_.toNat []).getD t.next.toNat default=z at hzm hzr hon hJ5⊢;have hmk:=hd.mv z.toNat kQ1
  rw[Int.toNat_of_nonneg hzr.1]at hmk;rw[if_pos (by simpa using hzr.1),if_pos (by simpa using hzr.2)];have hol:=hd.ol
  refine⟨⟨by omega,by omega⟩,hJ5 _ ?_⟩;refine ifk (fun hc=>?_) (fun hc=>?_)
  ·have hf:mk.getD z.toNat false=false:=by simpa using hc
   have hf0:mk.getD z.toNat true=false:=by
    have:z.toNat<mk.length:=by omega
    rw[List.getD,acW this]at hf⊢;exact hf
   have hcn:=yx mk z.toNat hf0
   have hz1:z.toNat<g.length:=by omega
   have hgz:(g.getD z.toNat []).length<=1000000:=hto _ (by rw[List.getD,acW hz1];exact adY hz1)
   refine⟨⟨by omega,by omega⟩,by omega,⟨?_,?_⟩,?_⟩
   ·simp only[ac3,ac0,ac6];omega
   ·simp only[ac3,ac0,ac6];omega
   ·have hpu:=hd.push hzr (by rw[hf];simp) hzm
    rw[aeC]at hpu;have hq:=DF.on (S:=T) (R:=[Lt.step.mk z 0]) (t:=t) hpu hlt (by rw[hze];simp[atS])
    rw[show T++[Lt.step.mk t.at_ (t.next+1)]++[Lt.step.mk z 0]=T++Lt.step.mk t.at_ (t.next+1)::[Lt.step.mk z 0]by simp];refine ih _ hq ?_;have:wkS g (T++Lt.step.mk t.at_ (t.next+1)::[Lt.step.mk z 0])=wkS g (T++[Lt.step.mk t.at_ (t.next+1)])+((g.getD z.toNat []).length+1):=by
     simp[wkS];omega
    dsimp only;omega
  ·refine ih _ (hon (hmk.1 (by simpa using hc))) (by dsimp only;omega)
end Go.Am
end

section
namespace Go.Am
open Go
open Lt (nmB toB Gd Rc bkB phB iQ Bare bb)
theorem rl(s:List UInt8):∀(l:List Lt.Block)(i:Int),((lf s l i).2=true->∃k,k<l.length/\(lf s l i).1=i+(k:Int)/\(l.getD k default).Name=s)/\((∃k,k<l.length/\(l.getD k default).Name=s)->(lf s l i).2=true)
 |[],i=>⟨fun h=>(by cases h),fun⟨k,hk,_⟩=>absurd hk (Nat.not_lt_zero k)⟩
 |b::r,i=>by
  unfold lf;by_cases e:b.Name=s
  ·rw[if_pos e];exact⟨fun _=>⟨0,Nat.zero_lt_succ _,by simp,e⟩,fun _=>rfl⟩
  ·rw[if_neg e];obtain⟨h1,h2⟩:=rl s r (i+1);refine⟨fun h=>?_,fun⟨k,hk,h⟩=>h2 ?_⟩
   ·obtain⟨k,hk,e1,e2⟩:=h1 h;exact⟨k+1,Nat.succ_lt_succ hk,by rw[e1];omega,e2⟩
   ·cases k with
    |zero=>exact absurd h e
    |succ k=>exact⟨k,Nat.lt_of_succ_lt_succ hk,h⟩
theorem fT(f:Lt.Func):(gD f).length=f.Blocks.length:=by unfold gD;rw[acY]
theorem G2(f:Lt.Func){i:Nat}(hi:i<f.Blocks.length):(gD f).getD i []=(toB f.Blocks i).filterMap (gL f):=by
 unfold gD;rw[sS _ _ hi]
theorem oN(f:Lt.Func)(s:List UInt8)(z:Int)(h:gL f s=some z):∃k:Nat,k<f.Blocks.length/\z=(k:Int)/\nmB f.Blocks k=s:=by
 unfold gL at h;split at h
 ·rename_i h2;obtain⟨k,hk,e1,e2⟩:=(rl s f.Blocks 0).1 h2;refine⟨k,hk,?_,e2⟩;rw[<- Option.some.inj h];unfold gW;rw[e1];omega
 ·cases h
theorem sG{f:Lt.Func}(hg:Gd f.Blocks){i k:Nat}:(k:Int)∈(gD f).getD i [] ↔ i<f.Blocks.length/\k<f.Blocks.length/\nmB f.Blocks k∈toB f.Blocks i:=by
 constructor
 ·intro h;have hi:i<f.Blocks.length:=by
   rcases adJ i f.Blocks.length with h'|h'
   ·exact h'
   ·rw[List.getD,adQ (by rw[fT];exact h')]at h;cases h
  rw[G2 f hi]at h;obtain⟨s,hs,e⟩:=List.mem_filterMap.1 h;obtain⟨k',hk',e1,e2⟩:=oN f s _ e;obtain rfl:k=k':=by omega
  exact⟨hi,hk',by rw[e2];exact hs⟩
 ·rintro⟨hi,hk,hm⟩
  rw[G2 f hi];refine List.mem_filterMap.2 ⟨_,hm,?_⟩;have h2:(gW f (nmB f.Blocks k)).2=true:=(rl _ f.Blocks 0).2 ⟨k,hk,rfl⟩
  have e:gL f (nmB f.Blocks k)=some (gW f (nmB f.Blocks k)).1:=by unfold gL;rw[if_pos h2]
  obtain⟨k',hk',e1,e2⟩:=oN f _ _ e;rw[e,e1,hg.nd k' k hk' hk e2]
theorem G3{f:Lt.Func}(hp:qu f):oP (gD f):=by
 refine⟨by rw[fT];exact hp.1,fun l hl=>?_⟩;unfold gD at hl;obtain⟨b,hb,rfl⟩:=adR.1 hl;exact aeF (qk _ _) (hp.2 b hb)
theorem T5{f:Lt.Func}(hp:qu f)(hg:Gd f.Blocks):sZ (gD f):=by
 refine⟨G3 hp,by rw[fT];exact hg.ps,fun l hl k hk=>?_⟩;unfold gD at hl;obtain⟨b,hb,rfl⟩:=adR.1 hl;obtain⟨s,hs,e⟩:=List.mem_filterMap.1 hk;obtain⟨k',hk',e1,e2⟩:=oN f s _ e;rw[fT];omega
theorem Q9{f:Lt.Func}(hg:Gd f.Blocks){k:Nat}(hk:k<f.Blocks.length)(z:Int):z∈(eQ (gD f)).getD k [] ↔ ∃i:Nat,z=(i:Int)/\i<f.Blocks.length/\nmB f.Blocks k∈toB f.Blocks i:=by
 unfold eQ;rw[sS _ _ (by rw[ae6,fT];exact hk),List.getD,List.getElem?_range (by rw[fT];exact hk)];show z∈Em (gD f) k ↔ _
 unfold Em;rw[adR];refine⟨fun⟨i,hi,e⟩=>?_,fun⟨i,e,hi,hm⟩=>⟨i,afN.2 ⟨List.mem_range.2 (by rw[fT];exact hi),decide_eq_true ((sG hg).2 ⟨hi,hk,hm⟩)⟩,e.symm⟩⟩;have:=of_decide_eq_true (afN.1 hi).2
 obtain⟨h1,h2,h3⟩:=(sG hg).1 this;exact⟨i,e.symm,h1,h3⟩
theorem Re{f:Lt.Func}(hg:Gd f.Blocks){k:Nat}(hk:k<f.Blocks.length):Lt.Gr (gD f) k:=by
 have:=hg.re k hk
 induction this with
 |first _=>exact .first
 |next i k _ hi hk hm ih=>exact .next i k (ih hi) ((sG hg).2 ⟨hi,hk,hm⟩)
def univ(f:Lt.Func):List (List UInt8):=f.Params.map (·.Name)++f.Blocks.flatMap fun b=>b.Phis.map (·.Dst)++b.Code.map (·.Dst)
theorem G4{α β:Type}(g:α->List β)(c:Nat):∀l:List α,(∀x∈l,(g x).length<=c)->(l.flatMap g).length<=l.length*c
 |[],_=>by simp
 |x::r,h=>by
  have:=G4 g c r fun y hy=>h y (adB _ hy)
  have h1:=h x (aeM)
  rw[adU,ac3,ac0,Nat.succ_mul];omega
theorem VB{f:Lt.Func}(hp:oO f):(univ f).length<=4000000000000:=by
 obtain⟨⟨h1,_⟩,_,h2,h3⟩:=hp;have:=G4 (fun b:Lt.Block=>b.Phis.map (·.Dst)++b.Code.map (·.Dst)) 2000000 f.Blocks fun b hb=>by
  have:=h3 b hb
  simp only[ac3,acY];omega
 unfold univ;rw[ac3,acY];have h4:f.Blocks.length*2000000<=1000000*2000000:=aeE _ h1
 omega
theorem Z5{f:Lt.Func}:∀v∈f.Params.map (·.Name),v∈univ f:=fun v hv=>ad2 _ hv
theorem Z4{f:Lt.Func}{k:Nat}(hk:k<f.Blocks.length):∀v∈phB f k,v∈univ f:=fun v hv=>ad4 _ (List.mem_flatMap.2 ⟨_,bJ _ hk,ad2 _ hv⟩)
theorem Z6{f:Lt.Func}{k:Nat}(hk:k<f.Blocks.length):∀v∈iQ (bkB f k),v∈univ f:=fun v hv=>ad4 _ (List.mem_flatMap.2 ⟨_,bJ _ hk,ad4 _ (afN.1 hv).1⟩)
theorem okU.okV{U:List (List UInt8)}{s:Lt.Vs}(h:okU U s):Lt.okV s (s.getD []).length:=by
 obtain⟨m,rfl,h1,h2⟩:=h;exact⟨m,rfl,h1.1,h1.2,ac1 _⟩
theorem UT{U:List (List UInt8)}{a b y:Lt.Vs}(h:okU U a)(hy:Lt.okV y (a.getD []).length)(he:∀v,bb y v=(bb a v&&bb b v)):okU U y:=by
 obtain⟨l,rfl,h1,h2,_⟩:=hy;refine⟨l,rfl,⟨h1,h2⟩,fun v hv=>?_⟩;have e:=he v
 rw[gR ⟨h1,h2⟩,decide_eq_true hv]at e;have e:bb a v=true:=by cases h':bb a v with|false=>rw[h']at e;cases e|true=>rfl
 obtain⟨m,rfl,g1,g2⟩:=h;rw[gR g1]at e;exact g2 v (of_decide_eq_true e)
def szV(n:Nat)(s:Lt.Vs):Nat:=match s with|none=>n+1|some m=>m.length
def Jz(n:Nat)(l:List Lt.Vs):Nat:=(l.map (szV n)).sum
theorem JA(n:Nat):∀(l:List Lt.Vs)(k:Nat)(s:Lt.Vs),k<l.length->Jz n (l.set k s)+szV n (l.getD k none)=Jz n l+szV n s
 |[],k,s,h=>by simp at h
 |x::l,0,s,h=>by simp[Jz];omega
 |x::l,k+1,s,h=>by
  have:=JA n l k s (by simpa using h)
  simp only[Jz,List.set_cons_succ,List.map_cons,aeS,List.getD_cons_succ]at this⊢;omega
end Go.Am
end
