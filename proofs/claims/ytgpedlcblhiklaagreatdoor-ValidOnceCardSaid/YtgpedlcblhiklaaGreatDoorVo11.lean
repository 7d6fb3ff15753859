/-
  Part 11: AmLay · AmNiceM · AmNice14 · AmNice14b · AmNice14c · AmNice14d · AmG23 · AmG22 · AmG18c · AmG16 · AmG15 · AmG14 · AmLoopE · AmL20 · AmL21 · AmL22 · AmL23 · AmG17 · AmL24 · AmL25 · AmL26 · AmL27 · AmL20b.
-/
import Derived.Test.YtgpedlcblhiklaaGreatDoorVo10
import Derived.Shelf.Small.Strs
import Derived.Shelf.Small.Wraps
import Derived.Shelf.Strings.Cut
import Derived.Shelf.Strings.Split
import Derived.Test.YtgpedlcblhiklaaGreatDoorProg
set_option linter.unusedSimpArgs false
set_option linter.unusedVariables false
set_option linter.unusedSectionVars false
set_option linter.unnecessarySimpa false
open Lt
open Go.Proofs.Tryz
open Go.IntKind (i64)
section
namespace Go.Proofs
open Go.Shelf
def Tryz.lays137_ren:Go.Shelf.Ren:=⟨fun|137=>239|217=>219|266=>233|n=>n,fun|9=>9|5=>5|3=>3|n=>n,fun|n=>n⟩
theorem Tryz.lays137:Go.Proofs.Lays.n137 prog Tryz.lays137_ren:={
 mixed:=by rfl
 f137:=func239.trans (congrArg some (by rfl))
 f217:=func219.trans (congrArg some (by rfl))
 f266:=func233.trans (congrArg some (by rfl))
 t3:=underlying3
 a3:=isAgg3
 z3:=sizeOf3
 v3:=zeroValue3
 t5:=underlying5
 a5:=isAgg5
 z5:=sizeOf5
 v5:=zeroValue5
 t9:=underlying9
 a9:=isAgg9
 z9:=sizeOf9
 v9:=zeroValue9 }
open Go.RowKit in
theorem Tryz.strings_IndexByte(s:ByteArray)(c:Int)(w:World) :
  Calls prog 239 #[.string s,.int .u8 c] w fun e w'=>e=.returned (.int .i64 (Lib.indexByte s.data.toList c.toNat.toUInt8))/\w'=w:=Any.strings_IndexByte Tryz.lays137 s c w
def Tryz.lays103_ren:Go.Shelf.Ren:=⟨fun|103=>238|210=>240|206=>241|n=>n,fun|9=>9|4=>4|24=>127|3=>3|n=>n,fun|n=>n⟩
theorem Tryz.lays103:Go.Proofs.Lays.n103 prog Tryz.lays103_ren:={
 mixed:=by rfl
 f103:=func238.trans (congrArg some (by rfl))
 f206:=func241.trans (congrArg some (by rfl))
 f210:=func240.trans (congrArg some (by rfl))
 t3:=underlying3
 a3:=isAgg3
 z3:=sizeOf3
 v3:=zeroValue3
 t4:=underlying4
 a4:=isAgg4
 z4:=sizeOf4
 v4:=zeroValue4
 t9:=underlying9
 a9:=isAgg9
 z9:=sizeOf9
 v9:=zeroValue9
 t24:=underlying127
 a24:=isAgg127
 z24:=sizeOf127
 v24:=zeroValue127 }
open Go.RowKit in
theorem Tryz.strings_CutPrefix(s p:ByteArray)(w:World) :
  Calls prog 238 #[.string s,.string p] w fun e w'=>e=.returned (.tuple #[.string ⟨(Lib.trimPrefix s.data.toList p.data.toList).toArray⟩,.bool (Lib.hasPrefix s.data.toList p.data.toList)])/\w'=w:=Any.strings_CutPrefix Tryz.lays103 s p w
def Tryz.lays145_ren:Go.Shelf.Ren:=⟨fun|145=>87|220=>137|219=>188|217=>219|225=>220|224=>221|267=>222|266=>233|314=>234|n=>n,fun|9=>9|4=>4|59=>166|3=>3|5=>5|46=>241|146=>299|51=>280|n=>n,fun|1=>0|n=>n⟩
theorem Tryz.lays145:Go.Proofs.Lays.n145 prog Tryz.lays145_ren:={
 mixed:=by rfl
 f145:=func87.trans (congrArg some (by rfl))
 f217:=func219.trans (congrArg some (by rfl))
 f219:=func188.trans (congrArg some (by rfl))
 f220:=func137.trans (congrArg some (by rfl))
 f224:=func221.trans (congrArg some (by rfl))
 f225:=func220.trans (congrArg some (by rfl))
 f266:=func233.trans (congrArg some (by rfl))
 f267:=func222.trans (congrArg some (by rfl))
 f314:=func234.trans (congrArg some (by rfl))
 t3:=underlying3
 a3:=isAgg3
 z3:=sizeOf3
 v3:=zeroValue3
 t4:=underlying4
 a4:=isAgg4
 z4:=sizeOf4
 v4:=zeroValue4
 t5:=underlying5
 a5:=isAgg5
 z5:=sizeOf5
 v5:=zeroValue5
 t9:=underlying9
 a9:=isAgg9
 z9:=sizeOf9
 v9:=zeroValue9
 t46:=underlying241
 a46:=isAgg241
 z46:=sizeOf241
 v46:=zeroValue241
 t51:=underlying280
 a51:=isAgg280
 z51:=sizeOf280
 v51:=zeroValue280
 t59:=underlying166
 a59:=isAgg166
 z59:=sizeOf166
 v59:=zeroValue166
 t146:=underlying299
 a146:=isAgg299
 z146:=sizeOf299
 v146:=zeroValue299
 g1:=by kernel_rfl }
open Go.RowKit Go.Lib in
theorem Tryz.strings_Cut(s sep:ByteArray)(m:Int)(w:World)(hs:s.size < 4294967281)(hm:w.cell? ⟨0,0,none⟩=some (.int .i64 m)) :
  Calls prog 87 #[.string s,.string sep] w fun e w'=>e=.returned (.tuple #[.string ⟨(Lib.cut s.data.toList sep.data.toList).1.toArray⟩,.string ⟨(Lib.cut s.data.toList sep.data.toList).2.1.toArray⟩,.bool (Lib.cut s.data.toList sep.data.toList).2.2])/\∃n,w'=w.drewN n:=Any.strings_Cut Tryz.lays145 s sep m w hs hm
def Tryz.lays146_ren:Go.Shelf.Ren:=⟨fun|146=>86|221=>136|268=>185|138=>186|143=>187|195=>216|197=>217|218=>218|219=>188|260=>232|217=>219|225=>220|224=>221|267=>222|266=>233|314=>234|n=>n,fun|9=>9|31=>47|3=>3|4=>4|0=>0|105=>285|21=>21|5=>5|46=>241|119=>304|139=>307|138=>306|146=>299|51=>280|n=>n,fun|1=>0|3=>1|4=>2|n=>n⟩
theorem Tryz.lays146:Go.Proofs.Lays.n146 prog Tryz.lays146_ren:={
 mixed:=by rfl
 f138:=func186.trans (congrArg some (by rfl))
 f143:=func187.trans (congrArg some (by rfl))
 f146:=func86.trans (congrArg some (by rfl))
 f195:=func216.trans (congrArg some (by rfl))
 f197:=func217.trans (congrArg some (by rfl))
 f217:=func219.trans (congrArg some (by rfl))
 f218:=func218.trans (congrArg some (by rfl))
 f219:=func188.trans (congrArg some (by rfl))
 f221:=func136.trans (congrArg some (by rfl))
 f224:=func221.trans (congrArg some (by rfl))
 f225:=func220.trans (congrArg some (by rfl))
 f260:=func232.trans (congrArg some (by rfl))
 f266:=func233.trans (congrArg some (by rfl))
 f267:=func222.trans (congrArg some (by rfl))
 f268:=func185.trans (congrArg some (by rfl))
 f314:=func234.trans (congrArg some (by rfl))
 t0:=underlying0
 a0:=isAgg0
 z0:=sizeOf0
 v0:=zeroValue0
 t3:=underlying3
 a3:=isAgg3
 z3:=sizeOf3
 v3:=zeroValue3
 t4:=underlying4
 a4:=isAgg4
 z4:=sizeOf4
 v4:=zeroValue4
 t5:=underlying5
 a5:=isAgg5
 z5:=sizeOf5
 v5:=zeroValue5
 t9:=underlying9
 a9:=isAgg9
 z9:=sizeOf9
 v9:=zeroValue9
 t21:=underlying21
 a21:=isAgg21
 z21:=sizeOf21
 v21:=zeroValue21
 t31:=underlying47
 a31:=isAgg47
 z31:=sizeOf47
 v31:=zeroValue47
 t46:=underlying241
 a46:=isAgg241
 z46:=sizeOf241
 v46:=zeroValue241
 t51:=underlying280
 a51:=isAgg280
 z51:=sizeOf280
 v51:=zeroValue280
 t105:=underlying285
 a105:=isAgg285
 z105:=sizeOf285
 v105:=zeroValue285
 t119:=underlying304
 a119:=isAgg304
 z119:=sizeOf304
 t138:=underlying306
 a138:=isAgg306
 z138:=sizeOf306
 v138:=zeroValue306
 t139:=underlying307
 a139:=isAgg307
 z139:=sizeOf307
 v139:=zeroValue307
 t146:=underlying299
 a146:=isAgg299
 z146:=sizeOf299
 v146:=zeroValue299
 g1:=by kernel_rfl
 g3:=by kernel_rfl
 g4:=by kernel_rfl }
open Go.RowKit Go.Lib in
theorem Tryz.strings_Split(s sep:ByteArray)(m:Int)(w:World)(hs:s.size < 4294967281)(hm:w.cell? ⟨0,0,none⟩=some (.int .i64 m))(h1:1<=sep.size) :
  Calls prog 86 #[.string s,.string sep] w fun e w'=>
   e=.returned (.slice (some ⟨w.heap.size,0,none⟩) (Lib.countB s sep+1) (Lib.countB s sep+1))/\w'=w.alloc (.cells ((Lib.splitB sep 0 (Lib.countB s sep) s).map Value.string).toArray 9):=Any.strings_Split Tryz.lays146 kQ0 s sep m w hs hm h1
end Go.Proofs
end

section
namespace Lt
open Go
structure RForm where
 Word:List UInt8
 Dst:Bool
 Named:Bool
 Least:Int
 Most:Int
 deriving Inhabited,DecidableEq
structure RLine where
 N:Int
 Words:List (List UInt8)
 deriving Inhabited,DecidableEq
structure Read where
 P:Program
 Where:Int
 Long:Int
 deriving Inhabited,DecidableEq
def jw:Bool->List (List UInt8)->List UInt8
 |_,[]=>[]
 |b,w::r=>(if b then [32]else [])++w++jw true r
def bD(l:List Line):List UInt8:=l.flatMap fun x=>jw false x.Words++[10]
def uB(c:Int):Bool:=(((decide (97<=c))&&(decide (c<=122)))||((decide (65<=c))&&(decide (c<=90))))||(decide (c=95))
def letter(c:UInt8):Bool:=uB ((c.toNat:Nat):Int)
def kg(c:UInt8):Bool:=(decide (48<=((c.toNat:Nat):Int)))&&(decide (((c.toNat:Nat):Int)<=57))
def kept(s:List UInt8):Bool:=((decide (s=[110,117,108,108]))||(decide (s=[105,110,116])))||(decide (s=[102,108,111,97,116]))
def iw(c:UInt8):Bool:=letter c||kg c
def Name(s:List UInt8):Bool:=(!decide (s=[])&&decide (s.length<=16)&&letter (s.getD 0 0)&&!kept s)&&s.all iw
def kind(s:List UInt8):Bool:=((decide (s=[105,110,116]))||(decide (s=[102,108,111,97,116])))||Name s
def typed(l:List Var)(most:Int):Bool:=decide ((l.length:Int)<=most)&&l.all fun v=>Name v.Name&&kind v.Type_
def Plain(n:Int):Int:=
 if((decide ((i64.wrap ((BitVec.ofInt i64.bits n &&& BitVec.ofInt i64.bits 9218868437227405312).toNat:Nat))=9218868437227405312))&&(!decide ((i64.wrap ((BitVec.ofInt i64.bits n &&& BitVec.ofInt i64.bits 4503599627370495).toNat:Nat))=0)))=true then 9221120237041090560 else n
def aW(a:Arg):Bool:=
 if a.Kind=1 then Name a.S&&decide (a.N=0)
 else if a.Kind=2 then decide (a.S=[])
 else if a.Kind=3 then decide (a.S=[])&&decide (Plain a.N=a.N)
 else if a.Kind=4 then decide (a.S=[])&&decide (a.N=0)
 else if a.Kind=5 then(decide (a.S=[])&&decide (0<=a.N))&&decide (a.N<=999)
 else false
def bg(objs:Bool)(a:Arg):Bool:=aW a&&!(decide (a.Kind=5)&&!objs)
def bK(l:List Arg)(objs:Bool):Bool:=l.all (bg objs)
def gU(b:Bind):Bool:=Name b.Name&&bg true b.A
def frame(f:Frame):Bool:=(Name f.Func&&Name f.Block&&decide (0<=f.At)&&decide (f.At<=1024)&&decide (f.Vars.length<=16))&&f.Vars.all gU
def virt(o:Virt):Bool:=Name o.Class&&decide (o.Vals.length<=8)&&bK o.Vals true
def FJ(l:List UInt8):Nat->Int->Nat->Nat->List UInt8
 |0,_,_,_=>[]
 |k+1,n,f,i=>
  if i<l.length then
   if(((l.getD i 0).toNat:Nat):Int)=32 then
    if i64.wrap (n - 1)=0 then(l.drop (f+1)).take (i - (f+1))else FJ l k (i64.wrap (n - 1)) i (i+1)
   else FJ l k n f (i+1)
  else []
def nth(l:List UInt8)(n:Int):List UInt8:=FJ l (l.length+1) n 0 1
def two:List UInt8:=32::97::100::100::32::115::117::98::32::109::117::108::32::100::105::118::32::114::101::109::32::97::110::100::32::111::114::32::120::111::114::32::115::104::108::32::115::104::114::32::101::113::32::110::101::32::108::116::32::108::101::32::102::97::100::100::32::102::115::117::98::32::102::109::117::108::32::102::100::105::118::32::102::101::113::32::102::108::116::32::102::108::101::32::[]
def Of(op:Int):Form×Bool:=
 if 1<=op/\op<=21 then(⟨nth two op,true,false,2,2⟩,true)
 else if 22<=op/\op<=24 then(⟨nth [32,105,116,111,102,32,102,116,111,105,32,109,111,118,32] (i64.wrap (op - 21)),true,false,1,1⟩,true)
 else if op=25 then(⟨[110,101,119],true,true,0,8⟩,true)
 else if op=26 then(⟨[108,111,97,100],true,true,1,1⟩,true)
 else if op=27 then(⟨[115,116,111,114,101],false,true,2,2⟩,true)
 else if op=28 then(⟨[115,97,109,101],true,false,2,2⟩,true)
 else if op=29 then(⟨[103,108,111,97,100],true,true,0,0⟩,true)
 else if op=30 then(⟨[103,115,116,111,114,101],false,true,1,1⟩,true)
 else if op=31 then(⟨[99,97,108,108],true,true,0,8⟩,true)
 else if op=32 then(⟨[101,120,116],true,true,0,8⟩,true)
 else if op=33 then(⟨[111,117,116],false,false,1,1⟩,true)
 else if op=34 then(⟨[103,117,97,114,100],false,false,0,0⟩,true)
 else(⟨[],false,false,0,0⟩,false)
def instr(i:Instr):Bool:=
 ((Of i.Op).2&&((Of i.Op).1.Dst==!decide (i.Dst=[]))&&((Of i.Op).1.Named==!decide (i.Name=[]))&&!((Of i.Op).1.Dst&&!Name i.Dst)&&!((Of i.Op).1.Named&&!Name i.Name))
 && (decide ((Of i.Op).1.Least<=(i.Args.length:Int))&&decide ((i.Args.length:Int)<=(Of i.Op).1.Most)&&bK i.Args false&&decide (i.Frames.length<=16)&&decide (i.Objs.length<=99))
 && (if i.Op≠31/\i.Op≠34 then decide (i.Frames=[])&&decide (i.Objs=[])else i.Frames.all frame&&i.Objs.all virt)
def lE(i:In):Bool:=Name i.Block&&bg false i.A
def phi(x:Phi):Bool:=(Name x.Dst&&!decide (x.Ins=[])&&decide (x.Ins.length<=256))&&x.Ins.all lE
def DI(a:Arg):Bool:=decide (a=⟨0,[],0⟩)
def dv(t:Term):Bool:=t.To.all Name &&
 (if t.Kind=1 then DI t.A&&decide (t.To.length=1)&&decide (t.N=0)
  else if t.Kind=2 then bg false t.A&&decide (t.To.length=2)&&decide (t.N=0)
  else if t.Kind=3 then bg false t.A&&decide (t.To.length=0)&&decide (t.N=0)
  else if t.Kind=4 then DI t.A&&decide (t.To.length=0)
  else false)
def block(b:Block):Bool:=(Name b.Name&&dv b.End)&&(b.Phis.all phi&&b.Code.all instr)
def blocks:List Block->Nat->Bool
 |[],_=>true
 |b::r,long=>(decide (long+(b.Phis.length+b.Code.length)<=1024)&&block b)&&blocks r (long+(b.Phis.length+b.Code.length))
def ay(f:Func):Bool:=(Name f.Name&&kind f.Result&&typed f.Params 6&&typed f.Vars 1024&&!decide (f.Blocks=[])&&decide (f.Blocks.length<=256))&&blocks f.Blocks 0
def bL(c:Class):Bool:=Name c.Name&&typed c.Fields 8
def cc(x:Extern):Bool:=Name x.Name&&decide (0<=x.N)&&decide (x.N<=8)
def bH(p:Program):Bool:=
 (decide (p.Classes.length<=8)&&decide (p.Externs.length<=8)&&decide (p.Funcs.length<=8)&&typed p.Globals 8) &&
 (p.Classes.all bL&&(p.Externs.all cc&&p.Funcs.all ay))
def digs(n:Nat):List UInt8:=if n < 10 then [UInt8.ofNat (48+n)]else digs (n / 10)++[UInt8.ofNat (48+n % 10)]
def aF(n:Int):List UInt8:=(if n < 0 then [45]else [])++digs n.natAbs
def number(n:Int):List UInt8:=aF n
def Qe(u:Int)(x:Int):UInt8:=([48,49,50,51,52,53,54,55,56,57,97,98,99,100,101,102]:List UInt8).getD (IntKind.u64.wrap ((BitVec.ofInt IntKind.u64.bits (Int.fdiv (IntKind.u64.wrap u) (2 ^ (min (IntKind.u64.wrap x).toNat IntKind.u64.bits))) &&& BitVec.ofInt IntKind.u64.bits 15).toNat:Nat)).toNat 0
def fa(n:Int):List UInt8:=[48,102]++(List.range 16).map fun(i:Nat)=>Qe (Plain n) (60 - 4*(i:Int))
def al(a:Arg):List UInt8:=
 if aW a then
  if a.Kind=2 then aF a.N else if a.Kind=3 then fa a.N else if a.Kind=4 then [110,117,108,108]else if a.Kind=5 then 35::aF a.N else a.S
 else []
def puts(l:List Arg):List (List UInt8):=l.map al
def ln(w:List (List UInt8)):Line:=⟨0,w⟩
def gf(first:List UInt8)(l:List Var):List Line:=l.map fun v=>ln [first,v.Name,v.Type_]
def words(i:Instr):List (List UInt8):=
 (if(Of i.Op).1.Dst then [i.Dst,[61]]else [])++[(Of i.Op).1.Word] ++
 (if i.Op=26\/i.Op=27 then(puts i.Args).getD 0 default::i.Name::(puts i.Args).drop 1
  else(if(Of i.Op).1.Named then [i.Name]else [])++puts i.Args)
def gM(f:Frame):List (List UInt8):=[[97,116],f.Func,f.Block,number f.At]++f.Vars.flatMap fun b=>[b.Name,al b.A]
def ni(o:Virt):List (List UInt8):=[[111,98,106],o.Class]++puts o.Vals
def gY(i:Instr):List Line:=[ln (words i)]++i.Frames.map (fun f=>ln (gM f))++i.Objs.map (fun o=>ln (ni o))
def wz(x:Phi):List (List UInt8):=[[112,104,105],x.Dst]++x.Ins.flatMap fun i=>[i.Block,al i.A]
def ip(t:Term):List (List UInt8):=
 if t.Kind=1 then [[106,117,109,112],t.To.getD 0 default]
 else if t.Kind=2 then [[98,114,97,110,99,104],al t.A,t.To.getD 0 default,t.To.getD 1 default]
 else if t.Kind=3 then [[114,101,116],al t.A]
 else [[116,114,97,112],aF t.N]
def dS(b:Block):List Line:=[ln [[98,108,111,99,107],b.Name]]++b.Phis.map (fun x=>ln (wz x))++b.Code.flatMap gY++[ln (ip b.End)]
def gp(f:Func):List Line:=[ln [[102,117,110,99],f.Name,f.Result]]++gf [112,97,114,97,109] f.Params++gf [118,97,114] f.Vars++f.Blocks.flatMap dS
def dT(c:Class):List Line:=[ln [[99,108,97,115,115],c.Name]]++gf [102,105,101,108,100] c.Fields
def jc(x:Extern):Line:=ln [[101,120,116,101,114,110],x.Name,number x.N]
def kU(p:Program):List Line:=(if p.SSA then [ln [[115,115,97]]]else [])++p.Classes.flatMap dT++gf [103,108,111,98,97,108] p.Globals++p.Externs.map jc++p.Funcs.flatMap gp
def aV(s:Sheet)(w:List (List UInt8)):Unit×Sheet:=((),⟨s.l++[ln w]⟩)
def dj(s:Sheet)(first:List UInt8)(l:List Var):Unit×Sheet:=((),⟨s.l++gf first l⟩)
def wO(s:Sheet)(i:Instr):Unit×Sheet:=((),⟨s.l++gY i⟩)
def Bt(s:Sheet)(t:Term):Unit×Sheet:=((),⟨s.l++[ln (ip t)]⟩)
def me(s:Sheet)(f:Func):Unit×Sheet:=((),⟨s.l++gp f⟩)
def Join(l:List Line):List UInt8:=bD l
def nb(p:Program):List UInt8×Int:=
 if bH p then(if(bD (kU p)).length<=4194304 then(bD (kU p),0)else([],2))else([],1)
abbrev plus(n:Int)(k:Nat):Int:=i64.wrap (n+(k:Int))
def upto(most n k:Int):Int:=if n<=most then i64.wrap (n+k)else n
def zF(most:Int):List Var->Int->Int
 |[],n=>n
 |v::r,n=>if n<=most then(let m:=plus n v.Name.length;zF most r (if m<=most then plus m v.Type_.length else m))else n
def di(l:List Var)(most:Int):Int:=if most < (l.length:Int)then i64.wrap (most+1)else zF most l (l.length:Int)
def zE(most:Int):List Arg->Int->Int
 |[],n=>n
 |a::r,n=>if n<=most then zE most r (plus n a.S.length)else n
def fM(l:List Arg)(most:Int):Int:=if most < (l.length:Int)then i64.wrap (most+1)else zE most l (l.length:Int)
def pi(most:Int):List Bind->Int->Int
 |[],n=>n
 |b::r,n=>if n<=most then(let m:=plus (i64.wrap (n+1)) b.Name.length;pi most r (if m<=most then plus m b.A.S.length else m))else n
def lq(most:Int):List Frame->Int->Int
 |[],n=>n
 |f::r,n=>if n<=most then(let m:=plus n f.Func.length;lq most r (pi most f.Vars (if m<=most then plus m f.Block.length else m)))else n
def t7(most:Int):List Virt->Int->Int
 |[],n=>n
 |o::r,n=>if n<=most then(let m:=plus n o.Class.length;t7 most r (if m<=most then i64.wrap (m+fM o.Vals most)else m))else n
def gJ(x:Instr)(most:Int):Int:=
 if(decide (most < (x.Frames.length:Int)))||(decide (most < (x.Objs.length:Int)))then i64.wrap (most+1)
 else
  t7 most x.Objs (lq most x.Frames (upto most (upto most (plus (plus (plus 1 x.Dst.length) x.Frames.length) x.Objs.length) (x.Name.length:Int)) (fM x.Args most)))
def cTo(most:Int):List (List UInt8)->Int->Int
 |[],n=>n
 |t::r,n=>if n<=most then cTo most r (plus (i64.wrap (n+1)) t.length)else n
def IK(most:Int):List In->Int->Int
 |[],n=>n
 |b::r,n=>if n<=most then(let m:=plus (i64.wrap (n+1)) b.Block.length;IK most r (if m<=most then plus m b.A.S.length else m))else n
def t8(most:Int):List Phi->Int->Int
 |[],n=>n
 |x::r,n=>if n<=most then t8 most r (IK most x.Ins (plus (i64.wrap (n+1)) x.Dst.length))else n
def rK(most:Int):List Instr->Int->Int
 |[],n=>n
 |x::r,n=>if n<=most then rK most r (i64.wrap (n+gJ x most))else n
def gI(b:Block)(most:Int):Int:=
 if(decide (most < (b.Phis.length:Int)))||(decide (most < (b.Code.length:Int)))||(decide (most < (b.End.To.length:Int)))then i64.wrap (most+1)
 else
  rK most b.Code (t8 most b.Phis (cTo most b.End.To (upto most (plus 1 b.Name.length) (b.End.A.S.length:Int))))
def nC(most:Int):List Block->Int->Int
 |[],n=>n
 |x::r,n=>if n<=most then nC most r (i64.wrap (n+gI x most))else n
def nr(f:Func)(most:Int):Int:=
 if most < (f.Blocks.length:Int)then i64.wrap (most+1)
 else
  nC most f.Blocks (upto most (upto most (upto most (plus 1 f.Name.length) (f.Result.length:Int)) (di f.Params most)) (di f.Vars most))
def kp(most:Int):List Class->Int->Int
 |[],n=>n
 |c::r,n=>if n<=most then(let m:=plus n c.Name.length;kp most r (if m<=most then i64.wrap (m+di c.Fields most)else m))else n
def js(most:Int):List Extern->Int->Int
 |[],n=>n
 |x::r,n=>if n<=most then js most r (plus (i64.wrap (n+1)) x.Name.length)else n
def nD(most:Int):List Func->Int->Int
 |[],n=>n
 |x::r,n=>if n<=most then nD most r (i64.wrap (n+nr x most))else n
def Few(p:Program)(most:Int):Bool:=
 if(decide (50 < (p.Classes.length:Int)))||(decide (50 < (p.Externs.length:Int)))||(decide (50 < (p.Funcs.length:Int)))then false
 else decide (nD most p.Funcs (js most p.Externs (kp most p.Classes (di p.Globals most)))<=most)
def inR(n:Int):Prop:=-9223372036854775808<=n/\n < 9223372036854775808
def Arg.ok(a:Arg):Prop:=inR a.N
def sk(l:List Arg):Prop:=∀a∈l,a.ok
def Bind.ok(b:Bind):Prop:=b.A.ok
def Frame.ok(f:Frame):Prop:=f.Vars.length<=4611686018427387904/\∀b∈f.Vars,b.ok
def Virt.ok(o:Virt):Prop:=sk o.Vals
def Instr.ok(i:Instr):Prop:=sk i.Args/\(∀f∈i.Frames,f.ok)/\(∀o∈i.Objs,o.ok)
def In.ok(i:In):Prop:=i.A.ok
def Phi.ok(x:Phi):Prop:=x.Ins.length<=4611686018427387904/\∀i∈x.Ins,i.ok
def Term.ok(t:Term):Prop:=t.A.ok/\inR t.N
def Block.ok(b:Block):Prop:=(∀x∈b.Phis,x.ok)/\(∀i∈b.Code,i.ok)/\b.End.ok
def Func.ok(f:Func):Prop:=∀b∈f.Blocks,b.ok
def Program.ok(p:Program):Prop:=∀f∈p.Funcs,f.ok
def room:Nat:=1099511627776
def bB(s:Sheet)(_:List (List UInt8)):Prop:=s.l.length<room
def jg(s:Sheet)(_:List UInt8)(l:List Var):Prop:=s.l.length+l.length<=room
def Qv(s:Sheet)(i:Instr):Prop:=i.ok/\instr i=true/\s.l.length+200<=room
def Ye(s:Sheet)(t:Term):Prop:=t.ok/\dv t=true/\s.l.length+1<=room
def xF(s:Sheet)(f:Func):Prop:=f.ok/\ay f=true/\s.l.length+1000000<=room
def l5(n:Int):Prop:=inR n
def kP(a:Arg):Prop:=a.ok
def FT(l:List Arg):Prop:=sk l/\l.length<=1000000
def FU(p:Program):Prop:=p.ok
def Qw(l:List Line):Prop:=(bD l).length<=140737488355328
def ad2(x:Instr)(most:Int):Prop:=x.ok/\most<=4611686018427387904
def ad1(b:Block)(most:Int):Prop:=b.ok/\most<=4611686018427387904
def ad3(f:Func)(most:Int):Prop:=f.ok/\most<=4611686018427387904
def Yf(p:Program)(most:Int):Prop:=p.ok/\most<=4611686018427387904
def Ck(n:Int):List UInt8:=aF n
def Yq(n:Int):Bool:=decide (9218868437227405312 < (Int.tmod (IntKind.u64.wrap n) 9223372036854775808))
def cY(n:Int):Int:=if Yq n=true then 9221120237041090560 else n
def afV(x:Int):UInt8:=UInt8.ofNat (IntKind.u8.wrap ((IntKind.u8.wrap (Int.tmod x 16))+(if IntKind.u8.wrap (Int.tmod x 16) < 10 then 48 else 87))).toNat
def nT:Nat->Int->List UInt8->List UInt8
 |0,_,l=>l
 |k+1,x,l=>nT k (IntKind.u64.wrap (Int.tdiv x 16)) (afV x::l)
def oU(n:Int):List UInt8:=[48,102]++nT 16 (IntKind.u64.wrap (cY n)) []
def FX(i:Nat)(c:UInt8):Bool:=
 !((((!(((decide (48<=((c.toNat:Nat):Int)))&&(decide (((c.toNat:Nat):Int)<=57)))&&(decide (0 < (i:Int)))))&&(!decide (((c.toNat:Nat):Int)=95)))&&((decide (((c.toNat:Nat):Int) < 65))||(decide (90 < ((c.toNat:Nat):Int)))))&&((decide (((c.toNat:Nat):Int) < 97))||(decide (122 < ((c.toNat:Nat):Int)))))
def cu(s:List UInt8):Bool:=((List.range s.length).all fun i=>FX i (s.getD i 0)) &&
 (((((decide (1<=(s.length:Int)))&&(decide ((s.length:Int)<=16)))&&(!decide (s=[110,117,108,108])))&&(!decide (s=[105,110,116])))&&(!decide (s=[102,108,111,97,116])))
def FY(a:Arg):Bool:=
 if a.Kind=1 then cu a.S&&decide (a.N=0)
 else if(((decide (a.Kind < 1))||(decide (5<a.Kind)))||(!decide (a.S=[])))=true then false
 else(((decide (a.Kind=2))||((decide (a.Kind=3))&&(decide ((cY a.N)=a.N))))||((decide (a.Kind=4))&&(decide (a.N=0))))||(((decide (a.Kind=5))&&(decide (0<=a.N)))&&(decide (a.N<=999)))
def ic(a:Arg):List UInt8:=
 if FY a then
  if a.Kind=1 then a.S else if a.Kind=2 then Ck a.N else if a.Kind=3 then oU a.N else if a.Kind=4 then [110,117,108,108]else 35::Ck a.N
 else []
def rOf(op:Int):RForm×Bool:=
 if op < 1\/34<op then(⟨[],false,false,0,0⟩,false)
 else(⟨Go.Am.gw.getD op.toNat default,(((!decide (op=27))&&(!decide (op=30)))&&(!decide (op=33)))&&(!decide (op=34)),(((decide (op=25))||(decide (op=26)))||(decide (op=27)))||((decide (29<=op))&&(decide (op<=32))),
  if op=22\/op=23\/op=24\/op=26\/op=30\/op=33 then 1 else if op=25\/op=31\/op=32\/op=29\/op=34 then 0 else 2,
  if op=22\/op=23\/op=24\/op=26\/op=30\/op=33 then 1 else if op=25\/op=31\/op=32 then 8 else if op=29\/op=34 then 0 else 2⟩,true)
def lnT(w:List (List UInt8)):List UInt8:=jw false w++[10]
def K2(x:Instr):List (List UInt8):=(if(rOf x.Op).1.Dst then [x.Dst,[61]]else [])++[(rOf x.Op).1.Word]
def Bi(x:Instr):List (List UInt8):=
 if(x.Op=26\/x.Op=27)/\x.Args≠[]then K2 x++(x.Args.take 1).map ic++[x.Name]++(x.Args.drop 1).map ic
 else K2 x++(if(rOf x.Op).1.Named then [x.Name]else [])++x.Args.map ic
def ox(f:Frame):List (List UInt8):=[[97,116],f.Func,f.Block,Ck f.At]++f.Vars.flatMap fun b=>[b.Name,ic b.A]
def wG(o:Virt):List (List UInt8):=[[111,98,106],o.Class]++o.Vals.map ic
def wC(x:Instr):List UInt8:=lnT (Bi x)++(x.Frames.flatMap fun f=>lnT (ox f))++(x.Objs.flatMap fun o=>lnT (wG o))
def QB(t:Term):List (List UInt8):=
 [([[],[106,117,109,112],[98,114,97,110,99,104],[114,101,116],[116,114,97,112]]:List (List UInt8)).getD t.Kind.toNat default]++(if t.Kind=2\/t.Kind=3 then [ic t.A]else [])++t.To++(if t.Kind=4 then [Ck t.N]else [])
def K0(t:Term):List UInt8:=if t.Kind < 1\/4<t.Kind then []else lnT (QB t)
def Bh(x:Phi):List (List UInt8):=[[112,104,105],x.Dst]++x.Ins.flatMap fun i=>[i.Block,ic i.A]
def rh(b:Block):List UInt8:=lnT [[98,108,111,99,107],b.Name]++(b.Phis.flatMap fun x=>lnT (Bh x))++b.Code.flatMap wC++K0 b.End
def wE(first:List UInt8)(l:List Var):List UInt8:=l.flatMap fun v=>lnT [first,v.Name,v.Type_]
def wD(f:Func):List UInt8:=lnT [[102,117,110,99],f.Name,f.Result]++wE [112,97,114,97,109] f.Params++wE [118,97,114] f.Vars++f.Blocks.flatMap rh
def ri(c:Class):List UInt8:=lnT [[99,108,97,115,115],c.Name]++wE [102,105,101,108,100] c.Fields
def pX(x:Extern):List UInt8:=lnT [[101,120,116,101,114,110],x.Name,Ck x.N]
def oy(p:Program):List UInt8:=(if p.SSA=true then lnT [[115,115,97]]else [])++p.Classes.flatMap ri++wE [103,108,111,98,97,108] p.Globals++p.Externs.flatMap pX++p.Funcs.flatMap wD
def iu(s:List UInt8)(c:UInt8):Int:=Go.Lib.indexByte s c
def mE(s p:List UInt8):List UInt8×Bool:=(Go.Lib.trimPrefix s p,Go.Lib.hasPrefix s p)
def W3(s p:List UInt8):List UInt8×List UInt8×Bool:=Go.Lib.cut s p
def fy(s p:List UInt8):List (List UInt8):=(Go.Lib.splitB ⟨p.toArray⟩ 0 (Go.Lib.countB ⟨s.toArray⟩ ⟨p.toArray⟩) ⟨s.toArray⟩).map (·.data.toList)
def Yd(s p:List UInt8):Prop:=s.length < 4294967281
def KT(s p:List UInt8):Prop:=s.length < 4294967281/\1<=p.length
def flt(n:Int):Value:=.iface 93 (.agg #[.int .i64 n])
def fnd{α:Type}[Inhabited α](nm:α->List UInt8)(s:List UInt8):List α->α×Bool
 |[]=>(default,false)
 |x::r=>if nm x=s then(x,true)else fnd nm s r
def bm(p:Program)(s:List UInt8):Class×Bool:=fnd (·.Name) s p.Classes
def s4(p:Program)(s:List UInt8):Func×Bool:=fnd (·.Name) s p.Funcs
def pW(p:Program)(s:List UInt8):Extern×Bool:=fnd (·.Name) s p.Externs
def KZ(l:List Var)(s:List UInt8):Var×Bool:=fnd (·.Name) s l
def ix(p:Program)(s:List UInt8):Var×Bool:=KZ p.Globals s
def uR(p:Program)(c s:List UInt8):Var×Bool:=KZ (bm p c).1.Fields s
def lK(f:Func)(s:List UInt8):Var×Bool:=if(KZ f.Params s).2=true then((KZ f.Params s).1,true)else KZ f.Vars s
def fl(f:Func)(a:Arg):List UInt8×Bool:=
 if a.Kind=1 then((lK f a.S).1.Type_,(lK f a.S).2)
 else if a.Kind=2 then([105,110,116],true)
 else if a.Kind=3 then([102,108,111,97,116],true)
 else if a.Kind=4 then([110,117,108,108],true)
 else([],false)
def oR(t:List UInt8):Bool:=!decide (t=[105,110,116])&&!decide (t=[102,108,111,97,116])
def eE(h w:List UInt8):Bool:=decide (h=w)||(decide (h=[110,117,108,108])&&oR w)
def l6:List (List UInt8)->List Var->Bool
 |[],[]=>true
 |t::l,x::v=>eE t x.Type_&&l6 l v
 |_,_=>false
def KY(f:Func)(t:Term):Bool:=
 decide (t.Kind=1)||(decide (t.Kind=2)&&(fl f t.A).2&&decide ((fl f t.A).1=[105,110,116]))||(decide (t.Kind=3)&&(fl f t.A).2&&eE (fl f t.A).1 f.Result)||(decide (t.Kind=4)&&decide (10<=t.N))
def sS(l:List (List UInt8)):Bool:=decide l.Nodup
def oC(p:Program)(t:List UInt8):Bool:=!oR t||(bm p t).2
def iy(p:Program)(l:List Var):Bool:=(l.all fun x=>oC p x.Type_)&&sS (l.map (·.Name))
def ou(p:Program):Bool:=
 sS (p.Classes.map (·.Name))&&sS (p.Externs.map (·.Name))&&sS (p.Funcs.map (·.Name))&&iy p p.Globals&&(p.Classes.all fun c=>iy p c.Fields) &&
 p.Funcs.all fun f=>oC p f.Result&&iy p (f.Params++f.Vars)
def kN(p:Program):Prop:=∀f∈p.Funcs,f.Params.length+f.Vars.length<=1000000
def QM(a b:List UInt8):Bool:=oR a&&(oR b&&(decide (a=b)||(decide (a=[110,117,108,108])||decide (b=[110,117,108,108]))))
def aiH(l:List (List UInt8))(t:List UInt8):Bool:=l.all fun x=>decide (x=t)
def ng(q:asked)(a d:List UInt8):Bool:=aiH q.args a&&decide (q.dst=d)
def Gk(q:asked):Bool:=(bm q.p q.i.Name).2&&(decide (q.dst=q.i.Name)&&(decide (q.args.length=0)||l6 q.args (bm q.p q.i.Name).1.Fields))
def N8(q:asked):Prop:=0<q.args.length/\q.args.length=q.i.Args.length
def N9(q:asked):Prop:=q.i.Op≠29->0<q.args.length
def jk(q:asked):Var×Bool:=if(q.i.Args.getD 0 default).Kind=1 then uR q.p (q.args.getD 0 default) q.i.Name else(default,false)
def vj(q:asked):Bool:=if q.i.Op=29 then(ix q.p q.i.Name).2&&decide ((ix q.p q.i.Name).1.Type_=q.dst)else(ix q.p q.i.Name).2&&eE (q.args.getD 0 default) (ix q.p q.i.Name).1.Type_
def yD(q:asked):Bool:=
 if q.i.Op<=14 then ng q [105,110,116] [105,110,116]
 else if q.i.Op<=18 then ng q [102,108,111,97,116] [102,108,111,97,116]
 else if q.i.Op<=21 then ng q [102,108,111,97,116] [105,110,116]
 else if q.i.Op=22 then ng q [105,110,116] [102,108,111,97,116]
 else if q.i.Op=23 then ng q [102,108,111,97,116] [105,110,116]
 else if q.i.Op=24 then eE (q.args.getD 0 default) q.dst
 else if q.i.Op=25 then Gk q
 else if q.i.Op=26 then(jk q).2&&decide ((jk q).1.Type_=q.dst)
 else if q.i.Op=27 then(jk q).2&&eE (q.args.getD 1 default) (jk q).1.Type_
 else if q.i.Op=28 then decide (q.dst=[105,110,116])&&QM (q.args.getD 0 default) (q.args.getD 1 default)
 else if q.i.Op=29\/q.i.Op=30 then vj q
 else if q.i.Op=31 then(s4 q.p q.i.Name).2&&(l6 q.args (s4 q.p q.i.Name).1.Params&&decide (q.dst=(s4 q.p q.i.Name).1.Result))
 else if q.i.Op=32 then(pW q.p q.i.Name).2&&(decide ((q.args.length:Int)=(pW q.p q.i.Name).1.N)&&ng q [105,110,116] [105,110,116])
 else if q.i.Op=33 then !oR (q.args.getD 0 default)
 else true
def A8(q:asked):Prop:=(Of q.i.Op).2=true/\q.args.length=q.i.Args.length/\(Of q.i.Op).1.Least<=(q.args.length:Int)/\(q.args.length:Int)<=(Of q.i.Op).1.Most
def lS(f:Func)(i:Instr):Bool:=
 (Of i.Op).2&&(decide ((Of i.Op).1.Least<=(i.Args.length:Int))&&(decide ((i.Args.length:Int)<=(Of i.Op).1.Most)&&(!(Of i.Op).1.Dst||(lK f i.Dst).2)))
def xm(f:Func)(l:List Arg):List (List UInt8):=l.map fun a=>(fl f a).1
def WJ(f:Func)(i:Instr):List UInt8:=if(Of i.Op).1.Dst=true then(lK f i.Dst).1.Type_ else []
def oV(p:Program)(f:Func)(i:Instr):asked×Bool:=
 if(lS f i&&i.Args.all fun a=>(fl f a).2)=true then(⟨p,i,WJ f i,xm f i.Args⟩,true)else(default,false)
def A5(_:Program)(_:Func)(i:Instr):Prop:=i.Args.length<=1000000
def ad4:=A5
def tg(p:Program)(f:Func)(i:Instr):Bool:=(oV p f i).2&&yD (oV p f i).1
def Yh(_:Program)(f:Func):Prop:=∀b∈f.Blocks,∀i∈b.Code,i.Args.length<=1000000
abbrev nmB(B:List Block)(i:Nat):List UInt8:=(B.getD i default).Name
abbrev toB(B:List Block)(i:Nat):List (List UInt8):=(B.getD i default).End.To
inductive Rc (B:List Block):Nat->Prop
 |first:0<B.length->Rc B 0
 |next (i k:Nat):Rc B i->i<B.length->k<B.length->nmB B k∈toB B i->Rc B k
structure Gd (B:List Block):Prop where
 ps:0<B.length
 nd:∀i j,i<B.length->j<B.length->nmB B i=nmB B j->i=j
 tn:∀i,i<B.length->(toB B i).Nodup
 tr:∀i,i<B.length->∀s∈toB B i,∃k,k<B.length/\k≠0/\nmB B k=s
 re:∀k,k<B.length->Rc B k
noncomputable def S1(P:Prop):Bool:=@decide P (Classical.propDecidable P)
variable{P:Prop}
theorem wh(h:P):S1 P=true:=@decide_eq_true P (Classical.propDecidable P) h
theorem M3(h:¬ P):S1 P=false:=@decide_eq_false P (Classical.propDecidable P) h
theorem yx:S1 P=true ↔ P:=@decide_eq_true_iff P (Classical.propDecidable P)
def Yg(f:Func):Prop:=f.Blocks.length<=1000000/\∀b∈f.Blocks,b.End.To.length<=1000000
noncomputable def ji(f:Func):Bool:=S1 (Gd f.Blocks)
def lI(s:List UInt8):List Block->Int->Int×Bool
 |[],_=>(0,false)
 |b::r,i=>if b.Name=s then(i,true)else lI s r (i+1)
def oB(f:Func)(s:List UInt8):Int×Bool:=lI s f.Blocks 0
def BX{α:Type}[DecidableEq α](v:α):List α->Int->Int
 |[],_=>-1
 |x::r,i=>if v=x then i else BX v r (i+1)
def JH(l:List Int)(v:Int):Int:=BX v l 0
def Ag(l:List Int)(v:Int):Bool:=decide (0<=JH l v)
def JI(l:List (List UInt8))(v:List UInt8):Int:=BX v l 0
def wd(l:List (List UInt8))(v:List UInt8):Bool:=decide (0<=JI l v)
def uN(f:Func):Prop:=f.Blocks.length<=1000000/\∀b∈f.Blocks,b.End.To.length<=1000000
def oq(f:Func)(s:List UInt8):Option Int:=if(oB f s).2=true then some (oB f s).1 else none
def ju(f:Func):List (List Int):=f.Blocks.map fun b=>b.End.To.filterMap (oq f)
def uO(g:List (List Int)):Prop:=g.length<=1000000/\∀l∈g,l.length<=1000000
def Qy(g:List (List Int))(k:Nat):List Int:=((List.range g.length).filter fun i=>decide ((k:Int)∈g.getD i [])).map fun(i:Nat)=>(i:Int)
def iq(g:List (List Int)):List (List Int):=(List.range g.length).map (Qy g)
def A6(g:List (List Int)):Prop:=uO g/\0<g.length/\∀l∈g,∀k∈l,0<=k/\k < (g.length:Int)
inductive Gr (g:List (List Int)):Nat->Prop
 |first:Gr g 0
 |next (i k:Nat):Gr g i->(k:Int)∈g.getD i []->Gr g k
structure Od (g:List (List Int)) (l:List Int):Prop where
 lt:∀k∈l,0<=k/\k < (g.length:Int)
 all:∀k,Gr g k->(k:Int)∈l
 nd:l.Nodup
 pr:∀i,i<l.length->l.getD i 0≠0->∃j,j<i/\l.getD i 0∈g.getD (l.getD j 0).toNat []
def DU(g:List (List Int))(l:List Int):Prop:=Od g l
abbrev Vs:=Option (List (List UInt8×Bool))
def bf(s:Vs)(v:List UInt8):Bool:=((Go.Am.aw .s (s.getD []) v).getD false)
def okV(s:Vs)(n:Nat):Prop:=∃l,s=some l/\(l.map (·.1)).Nodup/\(∀x∈l,x.2=true)/\l.length<=n
def Cj(s:Vs)(l:List (List UInt8)):Vs:=some (l.foldl (fun m v=>Go.Am.bV .s m v true) (s.getD []))
def IC(f:Func):Vs:=Cj (some []) (f.Params.map (·.Name))
def xE(s:Vs)(_:Block):Prop:=s.isSome=true
def lP(s:Vs)(b:Block):Vs:=Cj s (b.Phis.map (·.Dst))
def bj(b:Block):List (List UInt8):=(b.Code.map (·.Dst)).filter fun d=>!decide (d=[])
def iP(s:Vs)(b:Block):Vs:=Cj s (bj b)
def Qx(a b:Vs):Prop:=a=none\/∃n,okV a n
def KO(a b y:Vs):Prop:=(a=none->y=b)/\(a≠none->(∀n,okV a n->okV y n)/\∀v,bf y v=(bf a v&&bf b v))
abbrev bkB(f:Func)(i:Nat):Block:=f.Blocks.getD i default
abbrev phB(f:Func)(i:Nat):List (List UInt8):=(bkB f i).Phis.map (·.Dst)
inductive Bare (f:Func) (v:List UInt8):Nat->Prop
 |first:v ∉ f.Params.map (·.Name)->Bare f v 0
 |next (i k:Nat):Bare f v i->v ∉ phB f i->v ∉ bj (bkB f i)->i<f.Blocks.length->k<f.Blocks.length->nmB f.Blocks k∈toB f.Blocks i->Bare f v k
def xR(f:Func):Nat:=(f.Params.map (·.Name)++f.Blocks.flatMap fun b=>b.Phis.map (·.Dst)++b.Code.map (·.Dst)).length
def mY(f:Func):Prop:=uN f/\Gd f.Blocks/\f.Params.length<=1000000/\∀b∈f.Blocks,b.Phis.length<=1000000/\b.Code.length<=1000000
def ab0(f:Func)(y:List Vs):Prop:=y.length=f.Blocks.length/\∀k,k<f.Blocks.length->(y.getD k none).isSome=true/\∀v,bf (y.getD k none) v=true ↔ (¬ Bare f v k\/v∈phB f k)
def mX(f:Func)(y:List Vs):Prop:=ab0 f y/\∀k,k<f.Blocks.length->okV (y.getD k none) (xR f)
def lk(i:Instr)(v:List UInt8):Prop:=(∃a∈i.Args,a.Kind=1/\a.S=v)\/(∃f∈i.Frames,∃b∈f.Vars,b.A.Kind=1/\b.A.S=v)\/∃o∈i.Objs,∃a∈o.Vals,a.Kind=1/\a.S=v
def xS(i:Instr):Nat:=i.Args.length+(i.Frames.map fun f=>f.Vars.length).sum+(i.Objs.map fun o=>o.Vals.length).sum
def fV(i:Instr):Prop:=xS i<=1000000
def jB(s:Vs):Prop:=s.isSome=true/\(s.getD []).length<=1000000
def uM(i:Instr)(l:List (List UInt8)):Prop:=∀v,v∈l ↔ lk i v
def fU(s:Vs)(l:List (List UInt8)):Prop:=(∀v,v∈l ↔ v∈(s.getD []).map (·.1))/\l.length<=(s.getD []).length
def oK(P:List UInt8->Prop)(b:Block):Prop:=(∀j,j<b.Code.length->∀v,lk (b.Code.getD j default) v->P v\/v∈((b.Code.take j).map (·.Dst)).filter fun d=>!decide (d=[]))/\((b.End.Kind=2\/b.End.Kind=3)->b.End.A.Kind=1->P b.End.A.S\/b.End.A.S∈bj b)
def Yb(s:Vs)(b:Block):Prop:=s.isSome=true/\∀x∈b.Code,fV x
noncomputable def ny(s:Vs)(b:Block):Bool:=S1 (oK (fun v=>bf s v=true) b)
def sL(a:List UInt8)(s:List UInt8):List Block->Bool
 |[]=>false
 |b::r=>if b.Name=s then wd b.End.To a else sL a s r
def yp(f:Func)(s a:List UInt8):Bool:=sL a s f.Blocks
def pS(f:Func)(o:Option (List (List UInt8×Vs)))(b:Block)(i:In):Bool:=!((Go.Am.aw .s (o.getD []) i.Block).isSome&&yp f i.Block b.Name)||(!decide (i.A.Kind=1)||bf ((Go.Am.aw .s (o.getD []) i.Block).getD none) i.A.S)
def zw(f:Func)(o:Option (List (List UInt8×Vs))):Bool:=f.Blocks.all fun b=>b.Phis.all fun x=>x.Ins.all (pS f o b)
def Yc(f:Func):Prop:=mY f/\∀b∈f.Blocks,∀x∈b.Code,fV x
def PK(f:Func)(k:Nat)(v:List UInt8):Prop:=(¬ Bare f v k\/v∈phB f k)\/v∈bj (bkB f k)
def zg(f:Func):Prop:=∀b∈f.Blocks,∀x∈b.Phis,∀i∈x.Ins,∀k,k<f.Blocks.length->nmB f.Blocks k=i.Block->b.Name∈toB f.Blocks k->i.A.Kind=1->PK f k i.A.S
noncomputable def lm(f:Func):Bool:=S1 ((∀k,k<f.Blocks.length->oK (fun v=>¬ Bare f v k\/v∈phB f k) (bkB f k))/\zg f)
def TV(p:Program):Prop:=kN p/\∀f∈p.Funcs,Yh p f/\uN f/\f.Params.length<=1000000/\(∀b∈f.Blocks,b.Phis.length<=1000000/\b.Code.length<=1000000)/\∀b∈f.Blocks,∀x∈b.Code,fV x
end Lt
end

section
namespace Go.Am
open Go
def w6(a:List Lt.Var)(b:Int)(KK:Int->Prop):Prop:=
 (a.length<=4611686018427387904->if(decide (b < (a.length:Int)))=true then(KK (i64.wrap (b+1)))else((a.length<=4611686018427387904->ab (α:=Int×Int) (fun g c=>aa (α:=Bool) (fun d=>(a.length<=4611686018427387904->if(decide (c.2 < (a.length:Int)))=true then(d (decide (c.1<=b)))else(d false))) (fun v4=>if v4=true then(aa (α:=Int) (fun e=>((0:Int)<=c.2/\c.2.toNat<a.length)/\(((a.getD c.2.toNat default).Name).length<=4611686018427387904->if(decide ((i64.wrap (c.1+(((a.getD c.2.toNat default).Name).length:Int)))<=b))=true then(((0:Int)<=c.2/\c.2.toNat<a.length)/\(((a.getD c.2.toNat default).Type_).length<=4611686018427387904->e (i64.wrap ((i64.wrap (c.1+(((a.getD c.2.toNat default).Name).length:Int)))+(((a.getD c.2.toNat default).Type_).length:Int)))))else(e (i64.wrap (c.1+(((a.getD c.2.toNat default).Name).length:Int)))))) (fun f=>g (f,(i64.wrap (c.2+1)))))else(KK c.1))) ((a.length:Int),0))))
def wZ(a:List Lt.Arg)(b:Int)(KK:Int->Prop):Prop:=
 (a.length<=4611686018427387904->if(decide (b < (a.length:Int)))=true then(KK (i64.wrap (b+1)))else((a.length<=4611686018427387904->ab (α:=Int×Int) (fun e c=>aa (α:=Bool) (fun d=>(a.length<=4611686018427387904->if(decide (c.2 < (a.length:Int)))=true then(d (decide (c.1<=b)))else(d false))) (fun v4=>if v4=true then(((0:Int)<=c.2/\c.2.toNat<a.length)/\(((a.getD c.2.toNat default).S).length<=4611686018427387904->e ((i64.wrap (c.1+(((a.getD c.2.toNat default).S).length:Int))),(i64.wrap (c.2+1)))))else(KK c.1))) ((a.length:Int),0))))
def tJ(b:Lt.Instr)(a:Int)(KK:Int->Prop):Prop:=
 have p:=(i64.wrap ((i64.wrap ((i64.wrap (1+(b.Dst.length:Int)))+(b.Frames.length:Int)))+(b.Objs.length:Int)));aa (α:=Bool) (fun v=>(b.Frames.length<=4611686018427387904->if(decide (a < (b.Frames.length:Int)))=true then(v true)else(v (decide (a < (b.Objs.length:Int)))))) (fun B=>if B=true then(KK (i64.wrap (a+1)))else((b.Dst.length<=4611686018427387904->(b.Frames.length<=4611686018427387904->(b.Objs.length<=4611686018427387904->aa (α:=Int) (fun w=>if(decide (p<=a))=true then((b.Name.length<=4611686018427387904->w (i64.wrap (p+(b.Name.length:Int)))))else(w p)) (fun v4=>aa (α:=Int) (fun x=>if(decide (v4<=a))=true then(x (i64.wrap (v4+(fM b.Args a))))else(x v4)) (fun z=>ab (α:=Int×Int) (fun C e=>have z4:=((0:Int)<=e.2/\e.2.toNat<b.Frames.length);have d:=b.Frames.getD e.2.toNat default;have r:=(i64.wrap (e.1+((d.Func).length:Int)));aa (α:=Bool) (fun y=>(b.Frames.length<=4611686018427387904->if(decide (e.2 < (b.Frames.length:Int)))=true then(y (decide (e.1<=a)))else(y false))) (fun t=>if t=true then(z4/\((d.Func).length<=4611686018427387904->aa (α:=Int) (fun i=>if(decide (r<=a))=true then(z4/\((d.Block).length<=4611686018427387904->i (i64.wrap (r+((d.Block).length:Int)))))else(i r)) (fun q=>ab (α:=Int×Int) (fun u c=>have k:=(d.Vars).getD c.2.toNat default;have z3:=(i64.wrap ((i64.wrap (c.1+1))+((k.Name).length:Int)));aa (α:=Bool) (fun h=>z4/\((d.Vars).length<=4611686018427387904->if(decide (c.2 < ((d.Vars).length:Int)))=true then(h (decide (c.1<=a)))else(h false))) (fun n=>if n=true then(aa (α:=Int) (fun g=>z4/\((0:Int)<=c.2/\c.2.toNat < (d.Vars).length)/\((k.Name).length<=4611686018427387904->if(decide (z3<=a))=true then(z4/\((0:Int)<=c.2/\c.2.toNat < (d.Vars).length)/\(((k.A).S).length<=4611686018427387904->g (i64.wrap (z3+(((k.A).S).length:Int)))))else(g z3))) (fun l=>u (l,(i64.wrap (c.2+1)))))else(C (c.1,(i64.wrap (e.2+1)))))) (q,0))))else(ab (α:=Int×Int) (fun s v20=>have o:=b.Objs.getD v20.2.toNat default;have z5:=(i64.wrap (v20.1+((o.Class).length:Int)));aa (α:=Bool) (fun f=>(b.Objs.length<=4611686018427387904->if(decide (v20.2 < (b.Objs.length:Int)))=true then(f (decide (v20.1<=a)))else(f false))) (fun m=>if m=true then(aa (α:=Int) (fun j=>((0:Int)<=v20.2/\v20.2.toNat<b.Objs.length)/\((o.Class).length<=4611686018427387904->if(decide (z5<=a))=true then(((0:Int)<=v20.2/\v20.2.toNat<b.Objs.length)/\j (i64.wrap (z5+(fM (o.Vals) a))))else(j z5))) (fun v24=>s (v24,(i64.wrap (v20.2+1)))))else(KK v20.1))) (e.1,0)))) (z,0))))))))
def tH(b:Lt.Block)(a:Int)(KK:Int->Prop):Prop:=
 have z5:=(i64.wrap (1+(b.Name.length:Int)));aa (α:=Bool) (fun l=>(b.Phis.length<=4611686018427387904->if(decide (a < (b.Phis.length:Int)))=true then(l true)else(if(decide (a < (b.Code.length:Int)))=true then(l true)else(l (decide (a < (b.End.To.length:Int))))))) (fun v=>if v=true then(KK (i64.wrap (a+1)))else((b.Name.length<=4611686018427387904->aa (α:=Int) (fun t=>if(decide (z5<=a))=true then((b.End.A.S.length<=4611686018427387904->t (i64.wrap (z5+(b.End.A.S.length:Int)))))else(t z5)) (fun v4=>ab (α:=Int×Int) (fun x e=>aa (α:=Bool) (fun s=>(b.End.To.length<=4611686018427387904->if(decide (e.2 < (b.End.To.length:Int)))=true then(s (decide (e.1<=a)))else(s false))) (fun w=>if w=true then(((0:Int)<=e.2/\e.2.toNat<b.End.To.length)/\((b.End.To.getD e.2.toNat default).length<=4611686018427387904->x ((i64.wrap ((i64.wrap (e.1+1))+((b.End.To.getD e.2.toNat default).length:Int))),(i64.wrap (e.2+1)))))else(ab (α:=Int×Int) (fun u d=>have z3:=((0:Int)<=d.2/\d.2.toNat<b.Phis.length);have f:=b.Phis.getD d.2.toNat default;aa (α:=Bool) (fun j=>(b.Phis.length<=4611686018427387904->if(decide (d.2 < (b.Phis.length:Int)))=true then(j (decide (d.1<=a)))else(j false))) (fun p=>if p=true then(z3/\((f.Dst).length<=4611686018427387904->ab (α:=Int×Int) (fun r c=>have z4:=(f.Ins).getD c.2.toNat default;have o:=(i64.wrap ((i64.wrap (c.1+1))+((z4.Block).length:Int)));aa (α:=Bool) (fun i=>z3/\((f.Ins).length<=4611686018427387904->if(decide (c.2 < ((f.Ins).length:Int)))=true then(i (decide (c.1<=a)))else(i false))) (fun n=>if n=true then(aa (α:=Int) (fun h=>z3/\((0:Int)<=c.2/\c.2.toNat < (f.Ins).length)/\((z4.Block).length<=4611686018427387904->if(decide (o<=a))=true then(z3/\((0:Int)<=c.2/\c.2.toNat < (f.Ins).length)/\(((z4.A).S).length<=4611686018427387904->h (i64.wrap (o+(((z4.A).S).length:Int)))))else(h o))) (fun k=>r (k,(i64.wrap (c.2+1)))))else(u (c.1,(i64.wrap (d.2+1)))))) ((i64.wrap ((i64.wrap (d.1+1))+((f.Dst).length:Int))),0)))else(ab (α:=Int×Int) (fun q v20=>aa (α:=Bool) (fun g=>(b.Code.length<=4611686018427387904->if(decide (v20.2 < (b.Code.length:Int)))=true then(g (decide (v20.1<=a)))else(g false))) (fun m=>if m=true then(((0:Int)<=v20.2/\v20.2.toNat<b.Code.length)/\(ad2 (b.Code.getD v20.2.toNat default) a)/\q ((i64.wrap (v20.1+(gJ (b.Code.getD v20.2.toNat default) a))),(i64.wrap (v20.2+1))))else(KK v20.1))) (d.1,0)))) (e.1,0)))) (v4,0)))))
def Cv(b:Lt.Func)(a:Int)(KK:Int->Prop):Prop:=
 have z3:=(i64.wrap (1+(b.Name.length:Int)));(b.Blocks.length<=4611686018427387904->if(decide (a < (b.Blocks.length:Int)))=true then(KK (i64.wrap (a+1)))else((b.Name.length<=4611686018427387904->aa (α:=Int) (fun h=>if(decide (z3<=a))=true then((b.Result.length<=4611686018427387904->h (i64.wrap (z3+(b.Result.length:Int)))))else(h z3)) (fun e=>aa (α:=Int) (fun i=>if(decide (e<=a))=true then(i (i64.wrap (e+(di b.Params a))))else(i e)) (fun v4=>aa (α:=Int) (fun j=>if(decide (v4<=a))=true then(j (i64.wrap (v4+(di b.Vars a))))else(j v4)) (fun l=>ab (α:=Int×Int) (fun m c=>have d:=b.Blocks.getD c.2.toNat default;have g:=Lt.Block.mk (d.Name) (d.Phis) (d.Code) (Lt.Term.mk ((d.End).Kind) ((d.End).A) ((d.End).To) ((d.End).N));aa (α:=Bool) (fun k=>(b.Blocks.length<=4611686018427387904->if(decide (c.2 < (b.Blocks.length:Int)))=true then(k (decide (c.1<=a)))else(k false))) (fun f=>if f=true then(((0:Int)<=c.2/\c.2.toNat<b.Blocks.length)/\(ad1 g a)/\m ((i64.wrap (c.1+(gI g a))),(i64.wrap (c.2+1))))else(KK c.1))) (l,0)))))))
def ac8(a:Lt.Program)(b:Int)(KK:Bool->Prop):Prop:=
 aa (α:=Bool) (fun g=>(a.Classes.length<=4611686018427387904->if(decide (50 < (a.Classes.length:Int)))=true then(g true)else(if(decide (50 < (a.Externs.length:Int)))=true then(g true)else(g (decide (50 < (a.Funcs.length:Int))))))) (fun q=>if q=true then(KK false)else(ab (α:=Int×Int) (fun r v4=>have i:=a.Classes.getD v4.2.toNat default;have k:=(i64.wrap (v4.1+((i.Name).length:Int)));aa (α:=Bool) (fun n=>(a.Classes.length<=4611686018427387904->if(decide (v4.2 < (a.Classes.length:Int)))=true then(n (decide (v4.1<=b)))else(n false))) (fun p=>if p=true then(aa (α:=Int) (fun m=>((0:Int)<=v4.2/\v4.2.toNat<a.Classes.length)/\((i.Name).length<=4611686018427387904->if(decide (k<=b))=true then(((0:Int)<=v4.2/\v4.2.toNat<a.Classes.length)/\m (i64.wrap (k+(di (i.Fields) b))))else(m k))) (fun s=>r (s,(i64.wrap (v4.2+1)))))else(ab (α:=Int×Int) (fun o d=>aa (α:=Bool) (fun f=>(a.Externs.length<=4611686018427387904->if(decide (d.2 < (a.Externs.length:Int)))=true then(f (decide (d.1<=b)))else(f false))) (fun j=>if j=true then(((0:Int)<=d.2/\d.2.toNat<a.Externs.length)/\(((a.Externs.getD d.2.toNat default).Name).length<=4611686018427387904->o ((i64.wrap ((i64.wrap (d.1+1))+(((a.Externs.getD d.2.toNat default).Name).length:Int))),(i64.wrap (d.2+1)))))else(ab (α:=Int×Int) (fun l c=>aa (α:=Bool) (fun e=>(a.Funcs.length<=4611686018427387904->if(decide (c.2 < (a.Funcs.length:Int)))=true then(e (decide (c.1<=b)))else(e false))) (fun h=>if h=true then(((0:Int)<=c.2/\c.2.toNat<a.Funcs.length)/\(ad3 (a.Funcs.getD c.2.toNat default) b)/\l ((i64.wrap (c.1+(nr (a.Funcs.getD c.2.toNat default) b))),(i64.wrap (c.2+1))))else(KK (decide (c.1<=b))))) (d.1,0)))) (v4.1,0)))) ((di a.Globals b),0)))
def GQ(a:UInt8)(KK:Bool->Prop):Prop:=
 aa (α:=Bool) (fun b=>if(decide ((((97:UInt8).toNat:Nat):Int)<=((a.toNat:Nat):Int)))=true then(if(decide (((a.toNat:Nat):Int)<=(((122:UInt8).toNat:Nat):Int)))=true then(b true)else(if(decide ((((65:UInt8).toNat:Nat):Int)<=((a.toNat:Nat):Int)))=true then(if(decide (((a.toNat:Nat):Int)<=(((90:UInt8).toNat:Nat):Int)))=true then(b true)else(b (decide (((a.toNat:Nat):Int)=(((95:UInt8).toNat:Nat):Int)))))else(b (decide (((a.toNat:Nat):Int)=(((95:UInt8).toNat:Nat):Int))))))else(if(decide ((((65:UInt8).toNat:Nat):Int)<=((a.toNat:Nat):Int)))=true then(if(decide (((a.toNat:Nat):Int)<=(((90:UInt8).toNat:Nat):Int)))=true then(b true)else(b (decide (((a.toNat:Nat):Int)=(((95:UInt8).toNat:Nat):Int)))))else(b (decide (((a.toNat:Nat):Int)=(((95:UInt8).toNat:Nat):Int)))))) (fun c=>KK c)
def U3(a:List UInt8)(KK:Bool->Prop):Prop:=
 aa (α:=Bool) (fun b=>if(decide (a=[110,117,108,108]))=true then(b true)else(if(decide (a=[105,110,116]))=true then(b true)else(b (decide (a=[102,108,111,97,116]))))) (fun c=>KK c)
def xg(a:UInt8)(KK:Bool->Prop):Prop:=
 if(decide ((((48:UInt8).toNat:Nat):Int)<=((a.toNat:Nat):Int)))=true then(KK (decide (((a.toNat:Nat):Int)<=(((57:UInt8).toNat:Nat):Int))))else(KK false)
def UZ(a:List UInt8)(KK:Bool->Prop):Prop:=
 aa (α:=Bool) (fun b=>if(decide (a=([]:List UInt8)))=true then(b true)else(if(decide (16 < (a.length:Int)))=true then(b true)else(((0:Int)<=0/\0<a.length)/\if(!(Lt.letter (a.getD 0 0)))=true then(b true)else(b (Lt.kept a))))) (fun e=>if e=true then(KK false)else((a.length<=4611686018427387904->ab (α:=Int) (fun f v4=>if(decide (v4 < (a.length:Int)))=true then(aa (α:=Bool) (fun c=>((0:Int)<=v4/\v4.toNat<a.length)/\if(!(Lt.letter (a.getD v4.toNat 0)))=true then(((0:Int)<=v4/\v4.toNat<a.length)/\c (!(kg (a.getD v4.toNat 0))))else(c false)) (fun d=>if d=true then(KK false)else(f (i64.wrap (v4+1)))))else(KK true)) 0)))
def U4(a:List UInt8)(KK:Bool->Prop):Prop:=
 aa (α:=Bool) (fun b=>if(decide (a=[105,110,116]))=true then(b true)else(if(decide (a=[102,108,111,97,116]))=true then(b true)else(b (Lt.Name a)))) (fun c=>KK c)
def Pg(a:List Lt.Var)(b:Int)(KK:Bool->Prop):Prop:=
 (a.length<=4611686018427387904->if(decide (b < (a.length:Int)))=true then(KK false)else((a.length<=4611686018427387904->ab (α:=Int) (fun e c=>if(decide (c < (a.length:Int)))=true then(((0:Int)<=c/\c.toNat<a.length)/\aa (α:=Bool) (fun d=>if(!(Lt.Name ((a.getD c.toNat default).Name)))=true then(d true)else(d (!(Lt.kind ((a.getD c.toNat default).Type_))))) (fun v4=>if v4=true then(KK false)else(e (i64.wrap (c+1)))))else(KK true)) 0)))
def O0(a:Int)(KK:Int->Prop):Prop:=
 aa (α:=Bool) (fun b=>if(decide ((i64.wrap ((BitVec.ofInt i64.bits a &&& BitVec.ofInt i64.bits 9218868437227405312).toNat:Nat))=9218868437227405312))=true then(b (!decide ((i64.wrap ((BitVec.ofInt i64.bits a &&& BitVec.ofInt i64.bits 4503599627370495).toNat:Nat))=0)))else(b false)) (fun c=>if c=true then(KK 9221120237041090560)else(KK a))
def xh(a:Lt.Arg)(KK:Bool->Prop):Prop:=
 if(decide (a.Kind=1))=true then(if(Lt.Name a.S)=true then(KK (decide (a.N=0)))else(KK false))else(if(decide (a.Kind=2))=true then(KK (decide (a.S=([]:List UInt8))))else(if(decide (a.Kind=3))=true then(aa (α:=Bool) (fun b=>if(decide (a.S=([]:List UInt8)))=true then((b (decide ((Lt.Plain a.N)=a.N)))/\(b (decide ((Lt.Plain a.N)=a.N))))else((b false)/\(b false))) (fun d=>KK d))else(if(decide (a.Kind=4))=true then(if(decide (a.S=([]:List UInt8)))=true then(KK (decide (a.N=0)))else(KK false))else(if(decide (a.Kind=5))=true then(aa (α:=Bool) (fun c=>if(decide (a.S=([]:List UInt8)))=true then(if(decide (0<=a.N))=true then(c (decide (a.N<=999)))else(c false))else(c false)) (fun v4=>KK v4))else(KK false)))))
def yV(a:List Lt.Arg)(b:Bool)(KK:Bool->Prop):Prop:=
 (a.length<=4611686018427387904->ab (α:=Int) (fun e c=>if(decide (c < (a.length:Int)))=true then(((0:Int)<=c/\c.toNat<a.length)/\aa (α:=Bool) (fun d=>if(!(aW (a.getD c.toNat default)))=true then(d true)else(if(decide ((a.getD c.toNat default).Kind=5))=true then(d (!b))else(d false))) (fun v4=>if v4=true then(KK false)else(e (i64.wrap (c+1)))))else(KK true)) 0)
def CH(a:Lt.Term)(KK:Bool->Prop):Prop:=
 (a.To.length<=4611686018427387904->ab (α:=Int) (fun h b=>if(decide (b < (a.To.length:Int)))=true then(((0:Int)<=b/\b.toNat<a.To.length)/\if(!(Lt.Name (a.To.getD b.toNat default)))=true then(KK false)else(h (i64.wrap (b+1))))else(if(decide (a.Kind=1))=true then(aa (α:=Bool) (fun d=>if(decide (a.A.Kind=0)&&(decide (a.A.S=([]:List UInt8))&&decide (a.A.N=0)))=true then(if(decide ((a.To.length:Int)=1))=true then(d (decide (a.N=0)))else(d false))else(d false)) (fun v4=>KK v4))else(if(decide (a.Kind=2))=true then(aa (α:=Bool) (fun e=>if(bK [a.A] false)=true then(if(decide ((a.To.length:Int)=2))=true then(e (decide (a.N=0)))else(e false))else(e false)) (fun g=>KK g))else(if(decide (a.Kind=3))=true then(aa (α:=Bool) (fun c=>if(bK [a.A] false)=true then(if(decide ((a.To.length:Int)=0))=true then(c (decide (a.N=0)))else(c false))else(c false)) (fun f=>KK f))else(if(decide (a.Kind=4))=true then(if(decide (a.A.Kind=0)&&(decide (a.A.S=([]:List UInt8))&&decide (a.A.N=0)))=true then(KK (decide ((a.To.length:Int)=0)))else(KK false))else(KK false)))))) 0)
def adA(a:Lt.Phi)(KK:Bool->Prop):Prop:=
 aa (α:=Bool) (fun b=>if(!(Lt.Name a.Dst))=true then(b true)else(if(decide ((a.Ins.length:Int)=0))=true then(b true)else(b (decide (256 < (a.Ins.length:Int)))))) (fun e=>if e=true then(KK false)else((a.Ins.length<=4611686018427387904->ab (α:=Int) (fun f v4=>if(decide (v4 < (a.Ins.length:Int)))=true then(((0:Int)<=v4/\v4.toNat<a.Ins.length)/\aa (α:=Bool) (fun c=>if(!(Lt.Name ((a.Ins.getD v4.toNat default).Block)))=true then(c true)else(c (!(bK [((a.Ins.getD v4.toNat default).A)] false)))) (fun d=>if d=true then(KK false)else(f (i64.wrap (v4+1)))))else(KK true)) 0)))
def ac9(a:List UInt8)(c:Int)(KK:(List UInt8)->Prop):Prop:=
 ab (α:=Int×Int×Int) (fun e b=>(a.length<=4611686018427387904->if(decide (b.2.2 < (a.length:Int)))=true then(aa (α:=Int×Int) (fun d=>((0:Int)<=b.2.2/\b.2.2.toNat<a.length)/\if(!decide ((((a.getD b.2.2.toNat 0).toNat:Nat):Int)=(((32:UInt8).toNat:Nat):Int)))=true then(d (b.1,b.2.1))else(if(decide ((i64.wrap (b.1 - 1))=0))=true then((0:Int)<=(i64.wrap (b.2.1+1))/\(0:Int)<=b.2.2/\((i64.wrap (b.2.1+1)).toNat<=b.2.2.toNat/\b.2.2.toNat<=a.length)/\KK ((a.drop (i64.wrap (b.2.1+1)).toNat).take (b.2.2.toNat - (i64.wrap (b.2.1+1)).toNat)))else(d ((i64.wrap (b.1 - 1)),b.2.2)))) (fun v4=>e (v4.1,v4.2,(i64.wrap (b.2.2+1)))))else(KK ([]:List UInt8)))) (c,0,1)
def ag3(a:Int)(KK:(Lt.Form×Bool)->Prop):Prop:=
 aa (α:=Bool) (fun b=>if(decide (1<=a))=true then(b (decide (a<=21)))else(b false)) (fun d=>if d=true then(KK ((Lt.Form.mk (Lt.nth (32::97::100::100::32::115::117::98::32::109::117::108::32::100::105::118::32::114::101::109::32::97::110::100::32::111::114::32::120::111::114::32::115::104::108::32::115::104::114::32::101::113::32::110::101::32::108::116::32::108::101::32::102::97::100::100::32::102::115::117::98::32::102::109::117::108::32::102::100::105::118::32::102::101::113::32::102::108::116::32::102::108::101::32::([]:List UInt8)) a) true false 2 2),true))else(aa (α:=Bool) (fun c=>if(decide (22<=a))=true then(c (decide (a<=24)))else(c false)) (fun v4=>if v4=true then(KK ((Lt.Form.mk (Lt.nth [32,105,116,111,102,32,102,116,111,105,32,109,111,118,32] (i64.wrap (a - 21))) true false 1 1),true))else(if(decide (a=25))=true then(KK ((Lt.Form.mk [110,101,119] true true 0 8),true))else(if(decide (a=26))=true then(KK ((Lt.Form.mk [108,111,97,100] true true 1 1),true))else(if(decide (a=27))=true then(KK ((Lt.Form.mk [115,116,111,114,101] false true 2 2),true))else(if(decide (a=28))=true then(KK ((Lt.Form.mk [115,97,109,101] true false 2 2),true))else(if(decide (a=29))=true then(KK ((Lt.Form.mk [103,108,111,97,100] true true 0 0),true))else(if(decide (a=30))=true then(KK ((Lt.Form.mk [103,115,116,111,114,101] false true 1 1),true))else(if(decide (a=31))=true then(KK ((Lt.Form.mk [99,97,108,108] true true 0 8),true))else(if(decide (a=32))=true then(KK ((Lt.Form.mk [101,120,116] true true 0 8),true))else(if(decide (a=33))=true then(KK ((Lt.Form.mk [111,117,116] false false 1 1),true))else(if(decide (a=34))=true then(KK ((Lt.Form.mk [103,117,97,114,100] false false 0 0),true))else(KK ((Lt.Form.mk ([]:List UInt8) false false 0 0),false)))))))))))))))
def O5(a:Lt.Frame)(KK:Bool->Prop):Prop:=
 aa (α:=Bool) (fun b=>if(!(Lt.Name a.Func))=true then(b true)else(if(!(Lt.Name a.Block))=true then(b true)else(if(decide (a.At < 0))=true then(b true)else(if(decide (1024<a.At))=true then(b true)else(b (decide (16 < (a.Vars.length:Int)))))))) (fun e=>if e=true then(KK false)else((a.Vars.length<=4611686018427387904->ab (α:=Int) (fun f v4=>if(decide (v4 < (a.Vars.length:Int)))=true then(((0:Int)<=v4/\v4.toNat<a.Vars.length)/\aa (α:=Bool) (fun c=>if(!(Lt.Name ((a.Vars.getD v4.toNat default).Name)))=true then(c true)else(c (!(bK [((a.Vars.getD v4.toNat default).A)] true)))) (fun d=>if d=true then(KK false)else(f (i64.wrap (v4+1)))))else(KK true)) 0)))
def O6(a:Lt.Instr)(KK:Bool->Prop):Prop:=
 aa (α:=Bool) (fun c=>if(!((Lt.Of a.Op).2))=true then(c true)else(if(!(((Lt.Of a.Op).1).Dst==(!decide (a.Dst=([]:List UInt8)))))=true then(c true)else(if(!(((Lt.Of a.Op).1).Named==(!decide (a.Name=([]:List UInt8)))))=true then(c true)else(if(((Lt.Of a.Op).1).Dst)=true then(if(!(Lt.Name a.Dst))=true then(c true)else(if(((Lt.Of a.Op).1).Named)=true then(c (!(Lt.Name a.Name)))else(c false)))else(if(((Lt.Of a.Op).1).Named)=true then(c (!(Lt.Name a.Name)))else(c false)))))) (fun l=>if l=true then(KK false)else(aa (α:=Bool) (fun e=>(a.Args.length<=4611686018427387904->if(decide ((a.Args.length:Int) < ((Lt.Of a.Op).1).Least))=true then(e true)else(if(decide (((Lt.Of a.Op).1).Most < (a.Args.length:Int)))=true then(e true)else(if(!(bK a.Args false))=true then(e true)else(if(decide (16 < (a.Frames.length:Int)))=true then(e true)else(e (decide (99 < (a.Objs.length:Int))))))))) (fun v4=>if v4=true then(KK false)else(aa (α:=Bool) (fun i=>if(!decide (a.Op=31))=true then(i (!decide (a.Op=34)))else(i false)) (fun k=>if k=true then((a.Frames.length<=4611686018427387904->if(decide ((a.Frames.length:Int)=0))=true then(KK (decide ((a.Objs.length:Int)=0)))else(KK false)))else((a.Frames.length<=4611686018427387904->ab (α:=Int) (fun m f=>if(decide (f < (a.Frames.length:Int)))=true then(((0:Int)<=f/\f.toNat<a.Frames.length)/\if(!(Lt.frame (a.Frames.getD f.toNat default)))=true then(KK false)else(m (i64.wrap (f+1))))else((a.Objs.length<=4611686018427387904->ab (α:=Int) (fun j b=>have h:=a.Objs.getD b.toNat default;if(decide (b < (a.Objs.length:Int)))=true then(((0:Int)<=b/\b.toNat<a.Objs.length)/\aa (α:=Bool) (fun d=>if(!(Lt.Name (h.Class)))=true then(d true)else(if(decide (8 < ((h.Vals).length:Int)))=true then(d true)else(d (!(bK (h.Vals) true))))) (fun g=>if g=true then(KK false)else(j (i64.wrap (b+1)))))else(KK true)) 0))) 0)))))))
def O4(a:Lt.Block)(KK:Bool->Prop):Prop:=
 aa (α:=Bool) (fun c=>if(!(Lt.Name a.Name))=true then(c true)else(c (!(dv a.End)))) (fun d=>if d=true then(KK false)else((a.Phis.length<=4611686018427387904->ab (α:=Int) (fun f v4=>if(decide (v4 < (a.Phis.length:Int)))=true then(((0:Int)<=v4/\v4.toNat<a.Phis.length)/\if(!(Lt.phi (a.Phis.getD v4.toNat default)))=true then(KK false)else(f (i64.wrap (v4+1))))else((a.Code.length<=4611686018427387904->ab (α:=Int) (fun e b=>if(decide (b < (a.Code.length:Int)))=true then(((0:Int)<=b/\b.toNat<a.Code.length)/\if(!(Lt.instr (a.Code.getD b.toNat default)))=true then(KK false)else(e (i64.wrap (b+1))))else(KK true)) 0))) 0)))
def o4(a:Lt.Func)(KK:Bool->Prop):Prop:=
 aa (α:=Bool) (fun c=>if(!(Lt.Name a.Name))=true then(c true)else(if(!(Lt.kind a.Result))=true then(c true)else(if(!(Lt.typed a.Params 6))=true then(c true)else(if(!(Lt.typed a.Vars 1024))=true then(c true)else(if(decide ((a.Blocks.length:Int)=0))=true then(c true)else(c (decide (256 < (a.Blocks.length:Int))))))))) (fun i=>if i=true then(KK false)else((a.Blocks.length<=4611686018427387904->ab (α:=Int×Int) (fun j v4=>have b:=a.Blocks.getD v4.2.toNat default;have d:=(i64.wrap (v4.1+(i64.wrap (((b.Phis).length:Int)+((b.Code).length:Int)))));if(decide (v4.2 < (a.Blocks.length:Int)))=true then(((0:Int)<=v4.2/\v4.2.toNat<a.Blocks.length)/\aa (α:=Bool) (fun f=>((b.Phis).length<=4611686018427387904->if(decide (1024 < ((b.Phis).length:Int)))=true then(f true)else(f (decide (1024 < ((b.Code).length:Int)))))) (fun h=>if h=true then(KK false)else(((b.Phis).length<=4611686018427387904->((b.Code).length<=4611686018427387904->aa (α:=Bool) (fun e=>if(decide (1024<d))=true then(e true)else(e (!(Lt.block (Lt.Block.mk (b.Name) (b.Phis) (b.Code) (Lt.Term.mk ((b.End).Kind) ((b.End).A) ((b.End).To) ((b.End).N))))))) (fun g=>if g=true then(KK false)else(j (d,(i64.wrap (v4.2+1))))))))))else(KK true)) (0,0))))
def xd(a:Lt.Program)(KK:Bool->Prop):Prop:=
 aa (α:=Bool) (fun d=>(a.Classes.length<=4611686018427387904->if(decide (8 < (a.Classes.length:Int)))=true then(d true)else(if(decide (8 < (a.Externs.length:Int)))=true then(d true)else(if(decide (8 < (a.Funcs.length:Int)))=true then(d true)else(d (!(Lt.typed a.Globals 8))))))) (fun k=>if k=true then(KK false)else((a.Classes.length<=4611686018427387904->ab (α:=Int) (fun m v4=>if(decide (v4 < (a.Classes.length:Int)))=true then(((0:Int)<=v4/\v4.toNat<a.Classes.length)/\aa (α:=Bool) (fun i=>if(!(Lt.Name ((a.Classes.getD v4.toNat default).Name)))=true then(i true)else(i (!(Lt.typed ((a.Classes.getD v4.toNat default).Fields) 8)))) (fun j=>if j=true then(KK false)else(m (i64.wrap (v4+1)))))else((a.Externs.length<=4611686018427387904->ab (α:=Int) (fun l c=>have f:=a.Externs.getD c.toNat default;if(decide (c < (a.Externs.length:Int)))=true then(((0:Int)<=c/\c.toNat<a.Externs.length)/\aa (α:=Bool) (fun h=>if(!(Lt.Name (f.Name)))=true then(h true)else(if(decide (f.N < 0))=true then(h true)else(h (decide (8<f.N))))) (fun g=>if g=true then(KK false)else(l (i64.wrap (c+1)))))else((a.Funcs.length<=4611686018427387904->ab (α:=Int) (fun e b=>if(decide (b < (a.Funcs.length:Int)))=true then(((0:Int)<=b/\b.toNat<a.Funcs.length)/\if(!(ay (a.Funcs.getD b.toNat default)))=true then(KK false)else(e (i64.wrap (b+1))))else(KK true)) 0))) 0))) 0)))
def O1(a:Lt.Func)(KK:(List (Option (List ((List UInt8)×Bool))))->Prop):Prop:=
 have z5:=(a.Blocks.length:Int);have q:=((0:Int)<=z5/\z5<=4611686018427387904/\8*z5.toNat<=281474976710656);(uN a)/\(uO (ju a))/\(A6 (ju a))/\(∀i:List Int,DU (ju a) i->(a.Blocks.length<=4611686018427387904->q/\(a.Blocks.length<=4611686018427387904->q/\ab (α:=List (Option (List ((List UInt8)×Bool)))×List (Option (List ((List UInt8)×Bool)))×Bool) (fun t v3=>if v3.2.2=true then((i.length<=4611686018427387904->ab (α:=List (Option (List ((List UInt8)×Bool)))×List (Option (List ((List UInt8)×Bool)))×Bool×Int) (fun v v5=>have b:=i.getD v5.2.2.2.toNat default;have o:=((0:Int)<=b/\b < ((v5.1.length:Nat):Int));have k:=(iq (ju a)).getD b.toNat [];have z4:=a.Blocks.getD b.toNat default;have d:=Lt.Block.mk (z4.Name) (z4.Phis) (z4.Code) (Lt.Term.mk ((z4.End).Kind) ((z4.End).A) ((z4.End).To) ((z4.End).N));if(decide (v5.2.2.2 < (i.length:Int)))=true then(((0:Int)<=v5.2.2.2/\v5.2.2.2.toNat<i.length)/\aa (α:=Option (List ((List UInt8)×Bool))) (fun p=>if(decide (b=0))=true then(p (IC a))else(p none)) (fun u=>((0:Int)<=b/\b.toNat < (iq (ju a)).length)/\(k.length<=4611686018427387904->ab (α:=Option (List ((List UInt8)×Bool))×Int) (fun r v9=>have z3:=k.getD v9.2.toNat default;if(decide (v9.2 < (k.length:Int)))=true then(aa (α:=Option (List ((List UInt8)×Bool))) (fun h=>((0:Int)<=v9.2/\v9.2.toNat<k.length)/\((0:Int)<=z3/\z3 < ((v5.2.1.length:Nat):Int))/\if(!(v5.2.1.getD z3.toNat default).isNone)=true then(((0:Int)<=z3/\z3 < ((v5.2.1.length:Nat):Int))/\(Qx v9.1 (v5.2.1.getD z3.toNat default))/\(∀j:Option (List ((List UInt8)×Bool)),KO v9.1 (v5.2.1.getD z3.toNat default) j->h j))else(h v9.1)) (fun n=>r (n,(i64.wrap (v9.2+1)))))else(aa (α:=Option (List ((List UInt8)×Bool))) (fun e=>if v9.1.isNone=true then(e (some []))else(e v9.1)) (fun c=>((0:Int)<=b/\b.toNat<a.Blocks.length)/\(xE c d)/\aa (α:=Bool) (fun g=>aa (α:=Bool) (fun f=>o/\if((v5.1.getD b.toNat default).isNone)=true then(f true)else(o/\((v5.1.getD b.toNat default).getD []).length<=4611686018427387904/\((lP c d).getD []).length<=4611686018427387904/\f (!decide ((((v5.1.getD b.toNat default).getD []).length:Int)=(((lP c d).getD []).length:Int))))) (fun l=>if l=true then(g true)else(g v5.2.2.1))) (fun m=>((0:Int)<=b/\b.toNat<a.Blocks.length)/\(xE (lP c d) d)/\o/\b.toNat<v5.1.length/\((0:Int)<=b/\b < ((v5.2.1.length:Nat):Int))/\b.toNat<v5.2.1.length/\v ((v5.1.set b.toNat (lP c d)),(v5.2.1.set b.toNat (iP (lP c d) d)),m,(i64.wrap (v5.2.2.2+1))))))) (u,0))))else(t (v5.1,v5.2.1,v5.2.2.1))) (v3.1,v3.2.1,false,0)))else(KK v3.1)) ((List.replicate z5.toNat (dflt (.mp .s .bo))),(List.replicate z5.toNat (dflt (.mp .s .bo))),true))))
def Cy(a:Lt.Func)(KK:Bool->Prop):Prop:=
 (mY a)/\(∀d:List (Option (List ((List UInt8)×Bool))),mX a d->(d.length<=4611686018427387904->ab (α:=Int×List ((List UInt8)×(Option (List ((List UInt8)×Bool))))) (fun f v3=>have z4:=d.getD v3.1.toNat default;have z3:=((0:Int)<=v3.1/\v3.1.toNat<a.Blocks.length);have b:=a.Blocks.getD v3.1.toNat default;have c:=Lt.Block.mk (b.Name) (b.Phis) (b.Code) (Lt.Term.mk ((b.End).Kind) ((b.End).A) ((b.End).To) ((b.End).N));if(decide (v3.1 < (d.length:Int)))=true then(aa (α:=List ((List UInt8)×(Option (List ((List UInt8)×Bool))))) (fun e=>((0:Int)<=v3.1/\v3.1.toNat<d.length)/\z3/\(Yb z4 c)/\if(!(ny z4 c))=true then(KK false)else(z3/\(z3/\(xE z4 c)/\e (bV .s v3.2 (b.Name) (iP z4 c)))/\((xE z4 c)/\z3/\e (bV .s v3.2 (b.Name) (iP z4 c))))) (fun v5=>f ((i64.wrap (v3.1+1)),v5)))else(KK (zw a (some v3.2)))) (0,[])))
def Cw(d:Option (List ((List UInt8)×Bool)))(a:Lt.Block)(KK:Bool->Prop):Prop:=
 d.isSome=true/\(a.Code.length<=4611686018427387904->ab (α:=Int×List ((List UInt8)×Bool)) (fun l c=>have f:=a.Code.getD c.1.toNat default;if(decide (c.1 < (a.Code.length:Int)))=true then(aa (α:=List ((List UInt8)×Bool)) (fun h=>((0:Int)<=c.1/\c.1.toNat<a.Code.length)/\aa (α:=Bool) (fun i=>(fV f)/\(∀e:List (List UInt8),uM f e->(e.length<=4611686018427387904->ab (α:=Int) (fun j v9=>if(decide (v9 < (e.length:Int)))=true then(((0:Int)<=v9/\v9.toNat<e.length)/\if(!((aw (β:=Bool) .s c.2 (e.getD v9.toNat default)).getD (dflt .bo)))=true then(i true)else(j (i64.wrap (v9+1))))else(i false)) 0))) (fun k=>if k=true then(KK false)else(if(!decide (f.Dst=([]:List UInt8)))=true then(h (bV .s c.2 (f.Dst) true))else(h c.2)))) (fun v4=>l ((i64.wrap (c.1+1)),v4)))else(aa (α:=Bool) (fun b=>if(!decide (a.End.Kind=2))=true then(if(!decide (a.End.Kind=3))=true then(b true)else(if(!decide (a.End.A.Kind=1))=true then(b true)else(b ((aw (β:=Bool) .s c.2 a.End.A.S).getD (dflt .bo)))))else(if(!decide (a.End.A.Kind=1))=true then(b true)else(b ((aw (β:=Bool) .s c.2 a.End.A.S).getD (dflt .bo))))) (fun g=>KK g))) (0,(d.getD [])))
def GM(a:Lt.Func)(b:Option (List ((List UInt8)×(Option (List ((List UInt8)×Bool))))))(KK:Bool->Prop):Prop:=
 (a.Blocks.length<=4611686018427387904->ab (α:=Int) (fun i e=>have c:=a.Blocks.getD e.toNat default;if(decide (e < (a.Blocks.length:Int)))=true then(((0:Int)<=e/\e.toNat<a.Blocks.length)/\((c.Phis).length<=4611686018427387904->ab (α:=Int) (fun k v4=>have g:=((c.Phis).getD v4.toNat default).Ins;if(decide (v4 < ((c.Phis).length:Int)))=true then(((0:Int)<=v4/\v4.toNat < (c.Phis).length)/\(g.length<=4611686018427387904->ab (α:=Int) (fun j d=>have z4:=g.getD d.toNat default;have z3:=aw (β:=Option (List ((List UInt8)×Bool))) .s (b.getD []) (z4.Block);if(decide (d < (g.length:Int)))=true then(((0:Int)<=d/\d.toNat<g.length)/\aa (α:=Bool) (fun f=>if(z3.isSome)=true then(if(yp a (z4.Block) (c.Name))=true then(if(!decide ((z4.A).Kind=1))=true then(f false)else(f (!((aw (β:=Bool) .s ((z3.getD (dflt (.mp .s .bo))).getD []) ((z4.A).S)).getD (dflt .bo)))))else(f false))else(f false)) (fun h=>if h=true then(KK false)else(j (i64.wrap (d+1)))))else(k (i64.wrap (v4+1)))) 0))else(i (i64.wrap (e+1)))) 0))else(KK true)) 0)
def Cx(a:Lt.Func)(b:List UInt8)(c:List UInt8)(KK:Bool->Prop):Prop:=
 (a.Blocks.length<=4611686018427387904->ab (α:=Int) (fun e d=>if(decide (d < (a.Blocks.length:Int)))=true then(((0:Int)<=d/\d.toNat<a.Blocks.length)/\if(decide ((a.Blocks.getD d.toNat default).Name=b))=true then(KK (wd (((a.Blocks.getD d.toNat default).End).To) c))else(e (i64.wrap (d+1))))else(KK false)) 0)
def GR(a:Lt.Instr)(KK:(List (List UInt8))->Prop):Prop:=
 (a.Args.length<=4611686018427387904->ab (α:=Int×List ((List UInt8)×Bool)) (fun r d=>if(decide (d.1 < (a.Args.length:Int)))=true then(aa (α:=List ((List UInt8)×Bool)) (fun o=>((0:Int)<=d.1/\d.1.toNat<a.Args.length)/\if(decide ((a.Args.getD d.1.toNat default).Kind=1))=true then(o (bV .s d.2 ((a.Args.getD d.1.toNat default).S) true))else(o d.2)) (fun v4=>r ((i64.wrap (d.1+1)),v4)))else((a.Frames.length<=4611686018427387904->ab (α:=Int×List ((List UInt8)×Bool)) (fun t f=>have i:=(a.Frames.getD f.1.toNat default).Vars;if(decide (f.1 < (a.Frames.length:Int)))=true then(((0:Int)<=f.1/\f.1.toNat<a.Frames.length)/\(i.length<=4611686018427387904->ab (α:=Int×List ((List UInt8)×Bool)) (fun q e=>if(decide (e.1 < (i.length:Int)))=true then(aa (α:=List ((List UInt8)×Bool)) (fun p=>((0:Int)<=e.1/\e.1.toNat<i.length)/\if(decide (((i.getD e.1.toNat default).A).Kind=1))=true then(p (bV .s e.2 (((i.getD e.1.toNat default).A).S) true))else(p e.2)) (fun m=>q ((i64.wrap (e.1+1)),m)))else(t ((i64.wrap (f.1+1)),e.2))) (0,f.2)))else((a.Objs.length<=4611686018427387904->ab (α:=Int×List ((List UInt8)×Bool)) (fun l c=>have h:=(a.Objs.getD c.1.toNat default).Vals;if(decide (c.1 < (a.Objs.length:Int)))=true then(((0:Int)<=c.1/\c.1.toNat<a.Objs.length)/\(h.length<=4611686018427387904->ab (α:=Int×List ((List UInt8)×Bool)) (fun n b=>if(decide (b.1 < (h.length:Int)))=true then(aa (α:=List ((List UInt8)×Bool)) (fun g=>((0:Int)<=b.1/\b.1.toNat<h.length)/\if(decide ((h.getD b.1.toNat default).Kind=1))=true then(g (bV .s b.2 ((h.getD b.1.toNat default).S) true))else(g b.2)) (fun k=>n ((i64.wrap (b.1+1)),k)))else(l ((i64.wrap (c.1+1)),b.2))) (0,c.2)))else((jB (some c.2))/\(∀j:List (List UInt8),fU (some c.2) j->KK j))) (0,f.2)))) (0,d.2)))) (0,[]))
def CJ(a:Lt.Func)(b:List UInt8)(KK:(Int×Bool)->Prop):Prop:=
 (a.Blocks.length<=4611686018427387904->ab (α:=Int) (fun d c=>if(decide (c < (a.Blocks.length:Int)))=true then(((0:Int)<=c/\c.toNat<a.Blocks.length)/\if(decide ((a.Blocks.getD c.toNat default).Name=b))=true then(KK (c,true))else(d (i64.wrap (c+1))))else(KK (0,false))) 0)
def O7(a:List Int)(c:Int)(KK:Int->Prop):Prop:=
 (a.length<=4611686018427387904->ab (α:=Int) (fun d b=>if(decide (b < (a.length:Int)))=true then(((0:Int)<=b/\b.toNat<a.length)/\if(decide (c=(a.getD b.toNat default)))=true then(KK b)else(d (i64.wrap (b+1))))else(KK (-1))) 0)
def U1(b:List Int)(a:Int)(KK:Bool->Prop):Prop:=
 KK (decide (0<=(JH b a)))
def O8(a:List (List UInt8))(c:List UInt8)(KK:Int->Prop):Prop:=
 (a.length<=4611686018427387904->ab (α:=Int) (fun d b=>if(decide (b < (a.length:Int)))=true then(((0:Int)<=b/\b.toNat<a.length)/\if(decide (c=(a.getD b.toNat default)))=true then(KK b)else(d (i64.wrap (b+1))))else(KK (-1))) 0)
def U2(b:List (List UInt8))(a:List UInt8)(KK:Bool->Prop):Prop:=
 KK (decide (0<=(JI b a)))
def U0(a:Lt.Func)(KK:(List (List Int))->Prop):Prop:=
 have z3:=(a.Blocks.length:Int);(a.Blocks.length<=4611686018427387904->((0:Int)<=z3/\z3<=4611686018427387904/\24*z3.toNat<=281474976710656)/\(a.Blocks.length<=4611686018427387904->ab (α:=List (List Int)×Int) (fun g b=>have d:=((a.Blocks.getD b.2.toNat default).End).To;if(decide (b.2<z3))=true then(((0:Int)<=b.2/\b.2.toNat<a.Blocks.length)/\(d.length<=4611686018427387904->ab (α:=List (List Int)×Int) (fun h v4=>have c:=oB a (d.getD v4.2.toNat default);if(decide (v4.2 < (d.length:Int)))=true then(aa (α:=List (List Int)) (fun e=>((0:Int)<=v4.2/\v4.2.toNat<d.length)/\if(c.2)=true then(((0:Int)<=b.2/\b.2 < ((v4.1.length:Nat):Int))/\((v4.1.getD b.2.toNat []).length+([c.1]:List Int).length<=4611686018427387904/\((v4.1.getD b.2.toNat []).length+([c.1]:List Int).length)*8<=140737488355328)/\((0:Int)<=b.2/\b.2 < ((v4.1.length:Nat):Int))/\b.2.toNat<v4.1.length/\b.2.toNat=b.2.toNat/\e (v4.1.set b.2.toNat ((v4.1.getD b.2.toNat [])++([c.1]:List Int))))else(e v4.1)) (fun f=>h (f,(i64.wrap (v4.2+1)))))else(g (v4.1,(i64.wrap (b.2+1))))) (b.1,0)))else(KK b.1)) ((List.replicate z3.toNat (dflt (.sl (.i .i64)))),0)))
def CC(a:List (List Int))(KK:(List (List Int))->Prop):Prop:=
 (a.length<=4611686018427387904->((0:Int)<=(a.length:Int)/\(a.length:Int)<=4611686018427387904/\24*(a.length:Int).toNat<=281474976710656)/\(a.length<=4611686018427387904->ab (α:=List (List Int)×Int) (fun j c=>have z3:=a.getD c.2.toNat [];if(decide (c.2 < (a.length:Int)))=true then(((0:Int)<=c.2/\c.2.toNat<a.length)/\(z3.length<=4611686018427387904->ab (α:=List (List Int)×Int) (fun k v4=>have b:=z3.getD v4.2.toNat default;have d:=((0:Int)<=b/\b < ((v4.1.length:Nat):Int));if(decide (v4.2 < (z3.length:Int)))=true then(aa (α:=List (List Int)) (fun f=>((0:Int)<=v4.2/\v4.2.toNat<z3.length)/\aa (α:=Bool) (fun e=>if(decide (0<=b))=true then(if(decide (b < (a.length:Int)))=true then(d/\True/\e (!(Ag (v4.1.getD b.toNat []) c.2)))else(e false))else(e false)) (fun g=>if g=true then(d/\((v4.1.getD b.toNat []).length+([c.2]:List Int).length<=4611686018427387904/\((v4.1.getD b.toNat []).length+([c.2]:List Int).length)*8<=140737488355328)/\d/\b.toNat<v4.1.length/\b.toNat=b.toNat/\f (v4.1.set b.toNat ((v4.1.getD b.toNat [])++([c.2]:List Int))))else(f v4.1))) (fun h=>k (h,(i64.wrap (v4.2+1)))))else(j (v4.1,(i64.wrap (c.2+1))))) (c.1,0)))else(KK c.1)) ((List.replicate (a.length:Int).toNat (dflt (.sl (.i .i64)))),0)))
def yT(a:Lt.Func)(KK:(Option (List ((List UInt8)×Bool)))->Prop):Prop:=
 (a.Params.length<=4611686018427387904->ab (α:=Int×List ((List UInt8)×Bool)) (fun c b=>if(decide (b.1 < (a.Params.length:Int)))=true then(((0:Int)<=b.1/\b.1.toNat<a.Params.length)/\c ((i64.wrap (b.1+1)),(bV .s b.2 ((a.Params.getD b.1.toNat default).Name) true)))else(KK (some b.2))) (0,[]))
def GK(b:Option (List ((List UInt8)×Bool)))(a:Lt.Block)(KK:(Option (List ((List UInt8)×Bool)))->Prop):Prop:=
 b.isSome=true/\(a.Phis.length<=4611686018427387904->ab (α:=Int×List ((List UInt8)×Bool)) (fun d c=>if(decide (c.1 < (a.Phis.length:Int)))=true then(((0:Int)<=c.1/\c.1.toNat<a.Phis.length)/\d ((i64.wrap (c.1+1)),(bV .s c.2 ((a.Phis.getD c.1.toNat default).Dst) true)))else(KK (some c.2))) (0,(b.getD [])))
def GJ(c:Option (List ((List UInt8)×Bool)))(a:Lt.Block)(KK:(Option (List ((List UInt8)×Bool)))->Prop):Prop:=
 c.isSome=true/\(a.Code.length<=4611686018427387904->ab (α:=Int×List ((List UInt8)×Bool)) (fun e b=>if(decide (b.1 < (a.Code.length:Int)))=true then(aa (α:=List ((List UInt8)×Bool)) (fun d=>((0:Int)<=b.1/\b.1.toNat<a.Code.length)/\if(!decide ((a.Code.getD b.1.toNat default).Dst=([]:List UInt8)))=true then(d (bV .s b.2 ((a.Code.getD b.1.toNat default).Dst) true))else(d b.2)) (fun v4=>e ((i64.wrap (b.1+1)),v4)))else(KK (some b.2))) (0,(c.getD [])))
def GL(b:Option (List ((List UInt8)×Bool)))(c:Option (List ((List UInt8)×Bool)))(KK:(Option (List ((List UInt8)×Bool)))->Prop):Prop:=
 if b.isNone=true then(KK c)else(ab (α:=List ((List UInt8)×Bool)×List ((List UInt8)×Bool)) (fun e a=>(a.2=[]->KK (some a.1))/\∀d:Nat,d<a.2.length->if((aw (β:=Bool) .s (c.getD []) ((a.2.getD d default).1)).getD (dflt .bo))=true then(e ((bV .s a.1 ((a.2.getD d default).1) true),(a.2.eraseIdx d)))else(e (a.1,(a.2.eraseIdx d)))) ([],(b.getD [])))
def CG(a:Lt.Func)(KK:Bool->Prop):Prop:=
 have h:=(a.Blocks.length:Int);(a.Blocks.length<=4611686018427387904->if(decide (h=0))=true then(KK false)else((a.Blocks.length<=4611686018427387904->(a.Blocks.length<=4611686018427387904->ab (α:=Int×List ((List UInt8)×Int)) (fun w d=>if(decide (d.1<h))=true then(((0:Int)<=d.1/\d.1.toNat<a.Blocks.length)/\if((aw (β:=Int) .s d.2 ((a.Blocks.getD d.1.toNat default).Name)).isSome)=true then(KK false)else(w ((i64.wrap (d.1+1)),(bV .s d.2 ((a.Blocks.getD d.1.toNat default).Name) d.1))))else((a.Blocks.length<=4611686018427387904->ab (α:=Int) (fun u v4=>have z5:=((a.Blocks.getD v4.toNat default).End).To;if(decide (v4<h))=true then(((0:Int)<=v4/\v4.toNat<a.Blocks.length)/\(z5.length<=4611686018427387904->ab (α:=Int×List ((List UInt8)×Bool)) (fun x j=>have n:=z5.getD j.1.toNat default;if(decide (j.1 < (z5.length:Int)))=true then(((0:Int)<=j.1/\j.1.toNat<z5.length)/\aa (α:=Bool) (fun o=>if(!((aw (β:=Int) .s d.2 n).isSome))=true then(o true)else(if(decide (((aw (β:=Int) .s d.2 n).getD (dflt (.i .i64)))=0))=true then(o true)else(o ((aw (β:=Bool) .s j.2 n).getD (dflt .bo))))) (fun v=>if v=true then(KK false)else(x ((i64.wrap (j.1+1)),(bV .s j.2 n true)))))else(u (i64.wrap (v4+1)))) (0,[])))else(if false=true then(KK false)else((a.Blocks.length<=4611686018427387904->((0:Int)<=h/\h<=4611686018427387904/\1*h.toNat<=281474976710656)/\((0:Int)<=0/\0 < (((List.replicate h.toNat (dflt .bo)).length:Nat):Int))/\0 < (List.replicate h.toNat (dflt .bo)).length/\ab (α:=List Bool×List Int) (fun t c=>have z4:=(i64.wrap ((c.2.length:Int) - 1));have z3:=(a.Blocks.getD (c.2.getD z4.toNat default).toNat default);(c.2.length<=4611686018427387904->if(decide (0 < (c.2.length:Int)))=true then(aa (α:=Lt.Block) (fun q=>have m:=(((0:Int)<=(c.2.getD z4.toNat default)/\(c.2.getD z4.toNat default).toNat<a.Blocks.length)/\q (Lt.Block.mk (z3.Name) (z3.Phis) (z3.Code) (Lt.Term.mk ((z3.End).Kind) ((z3.End).A) ((z3.End).To) ((z3.End).N))));(c.2.length<=4611686018427387904->((0:Int)<=z4/\z4 < ((c.2.length:Nat):Int))/\(m/\m)/\(m/\m)/\m)) (fun g=>(c.2.length<=4611686018427387904->((0:Int)<=z4/\z4.toNat<=c.2.length)/\(g.End.To.length<=4611686018427387904->ab (α:=List Bool×List Int×Int) (fun r b=>have f:=(aw (β:=Int) .s d.2 (g.End.To.getD b.2.2.toNat default)).getD (dflt (.i .i64));if(decide (b.2.2 < (g.End.To.length:Int)))=true then(aa (α:=List Bool×List Int) (fun l=>((0:Int)<=b.2.2/\b.2.2.toNat<g.End.To.length)/\((0:Int)<=f/\f < ((b.1.length:Nat):Int))/\if(!(b.1.getD f.toNat default))=true then(((0:Int)<=f/\f < ((b.1.length:Nat):Int))/\f.toNat<b.1.length/\(b.2.1.length+([f]:List Int).length<=4611686018427387904/\(b.2.1.length+([f]:List Int).length)*8<=140737488355328)/\l ((b.1.set f.toNat true),(b.2.1++([f]:List Int))))else(l (b.1,b.2.1))) (fun k=>r (k.1,k.2,(i64.wrap (b.2.2+1)))))else(t (b.1,b.2.1))) (c.1,(c.2.take z4.toNat),0)))))else((c.1.length<=4611686018427387904->ab (α:=Int) (fun p e=>if(decide (e < (c.1.length:Int)))=true then(((0:Int)<=e/\e < ((c.1.length:Nat):Int))/\if(!(c.1.getD e.toNat default))=true then(KK false)else(p (i64.wrap (e+1))))else(KK true)) 0)))) (((List.replicate h.toNat (dflt .bo)).set 0 true),[0]))))) 0))) (0,[])))))
def GY(a:Lt.Program)(b:List UInt8)(KK:(Lt.Class×Bool)->Prop):Prop:=
 (a.Classes.length<=4611686018427387904->ab (α:=Int) (fun d c=>if(decide (c < (a.Classes.length:Int)))=true then(((0:Int)<=c/\c.toNat<a.Classes.length)/\if(decide ((a.Classes.getD c.toNat default).Name=b))=true then(KK ((a.Classes.getD c.toNat default),true))else(d (i64.wrap (c+1))))else(KK ((Lt.Class.mk ([]:List UInt8) []),false))) 0)
def Pd(a:Lt.Program)(b:List UInt8)(KK:(Lt.Func×Bool)->Prop):Prop:=
 (a.Funcs.length<=4611686018427387904->ab (α:=Int) (fun d c=>if(decide (c < (a.Funcs.length:Int)))=true then(((0:Int)<=c/\c.toNat<a.Funcs.length)/\if(decide ((a.Funcs.getD c.toNat default).Name=b))=true then(KK ((a.Funcs.getD c.toNat default),true))else(d (i64.wrap (c+1))))else(KK ((Lt.Func.mk ([]:List UInt8) ([]:List UInt8) [] [] []),false))) 0)
def CN(a:Lt.Program)(b:List UInt8)(KK:(Lt.Var×Bool)->Prop):Prop:=
 (a.Globals.length<=4611686018427387904->ab (α:=Int) (fun d c=>if(decide (c < (a.Globals.length:Int)))=true then(((0:Int)<=c/\c.toNat<a.Globals.length)/\if(decide ((a.Globals.getD c.toNat default).Name=b))=true then(KK ((a.Globals.getD c.toNat default),true))else(d (i64.wrap (c+1))))else(KK ((Lt.Var.mk ([]:List UInt8) ([]:List UInt8)),false))) 0)
def CM(a:Lt.Program)(b:List UInt8)(KK:(Lt.Extern×Bool)->Prop):Prop:=
 (a.Externs.length<=4611686018427387904->ab (α:=Int) (fun d c=>if(decide (c < (a.Externs.length:Int)))=true then(((0:Int)<=c/\c.toNat<a.Externs.length)/\if(decide ((a.Externs.getD c.toNat default).Name=b))=true then(KK ((a.Externs.getD c.toNat default),true))else(d (i64.wrap (c+1))))else(KK ((Lt.Extern.mk ([]:List UInt8) 0),false))) 0)
def xf(a:Lt.Func)(b:List UInt8)(KK:(Lt.Var×Bool)->Prop):Prop:=
 aa (α:=Bool×Lt.Var) (fun d=>(a.Params.length<=4611686018427387904->ab (α:=Int) (fun g v4=>if(decide (v4 < (a.Params.length:Int)))=true then(((0:Int)<=v4/\v4.toNat<a.Params.length)/\if(decide ((a.Params.getD v4.toNat default).Name=b))=true then(d (true,(a.Params.getD v4.toNat default)))else(g (i64.wrap (v4+1))))else(d (false,(Lt.Var.mk ([]:List UInt8) ([]:List UInt8))))) 0)) (fun e=>if e.1=true then(KK (e.2,true))else((a.Vars.length<=4611686018427387904->ab (α:=Int) (fun f c=>if(decide (c < (a.Vars.length:Int)))=true then(((0:Int)<=c/\c.toNat<a.Vars.length)/\if(decide ((a.Vars.getD c.toNat default).Name=b))=true then(KK ((a.Vars.getD c.toNat default),true))else(f (i64.wrap (c+1))))else(KK ((Lt.Var.mk ([]:List UInt8) ([]:List UInt8)),false))) 0)))
def GZ(b:Lt.Program)(a:List UInt8)(c:List UInt8)(KK:(Lt.Var×Bool)->Prop):Prop:=
 if(!((bm b a).2))=true then(KK ((Lt.Var.mk ([]:List UInt8) ([]:List UInt8)),false))else(((((bm b a).1).Fields).length<=4611686018427387904->ab (α:=Int) (fun e d=>if(decide (d < ((((bm b a).1).Fields).length:Int)))=true then(((0:Int)<=d/\d.toNat < (((bm b a).1).Fields).length)/\if(decide (((((bm b a).1).Fields).getD d.toNat default).Name=c))=true then(KK (((((bm b a).1).Fields).getD d.toNat default),true))else(e (i64.wrap (d+1))))else(KK ((Lt.Var.mk ([]:List UInt8) ([]:List UInt8)),false))) 0))
def adB(b:Lt.Func)(a:Lt.Arg)(KK:(List UInt8×Bool)->Prop):Prop:=
 if(decide (a.Kind=1))=true then(KK (((lK b a.S).1).Type_,(lK b a.S).2))else(if(decide (a.Kind=2))=true then(KK ([105,110,116],true))else(if(decide (a.Kind=3))=true then(KK ([102,108,111,97,116],true))else(if(decide (a.Kind=4))=true then(KK ([110,117,108,108],true))else(KK (([]:List UInt8),false)))))
def Va(a:List UInt8)(KK:Bool->Prop):Prop:=
 if(!decide (a=[105,110,116]))=true then(KK (!decide (a=[102,108,111,97,116])))else(KK false)
def Pb(a:List UInt8)(b:List UInt8)(KK:Bool->Prop):Prop:=
 aa (α:=Bool) (fun c=>if(decide (a=b))=true then(c true)else(if(decide (a=[110,117,108,108]))=true then(c (oR b))else(c false))) (fun d=>KK d)
def U9(a:List (List UInt8))(b:List Lt.Var)(KK:Bool->Prop):Prop:=
 (a.length<=4611686018427387904->(b.length<=4611686018427387904->if(!decide ((a.length:Int)=(b.length:Int)))=true then(KK false)else((a.length<=4611686018427387904->ab (α:=Int) (fun d c=>if(decide (c < (a.length:Int)))=true then(((0:Int)<=c/\c.toNat<a.length)/\((0:Int)<=c/\c.toNat<b.length)/\if(!(eE (a.getD c.toNat default) ((b.getD c.toNat default).Type_)))=true then(KK false)else(d (i64.wrap (c+1))))else(KK true)) 0))))
def G2(b:Lt.Program)(a:List UInt8)(KK:Bool->Prop):Prop:=
 aa (α:=Bool) (fun c=>if(decide (a=[105,110,116]))=true then(c true)else(if(decide (a=[102,108,111,97,116]))=true then(c true)else(c ((bm b a).2)))) (fun d=>KK d)
def xe(b:Lt.Program)(a:List Lt.Var)(KK:Bool->Prop):Prop:=
 (a.length<=4611686018427387904->ab (α:=Int) (fun d c=>if(decide (c < (a.length:Int)))=true then(((0:Int)<=c/\c.toNat<a.length)/\if(!(oC b ((a.getD c.toNat default).Type_)))=true then(KK false)else(d (i64.wrap (c+1))))else((a.length<=4611686018427387904->ab (α:=Int×List ((List UInt8)×Bool)) (fun e v4=>if(decide (v4.1 < (a.length:Int)))=true then(((0:Int)<=v4.1/\v4.1.toNat<a.length)/\if((aw (β:=Bool) .s v4.2 ((a.getD v4.1.toNat default).Name)).getD (dflt .bo))=true then(KK false)else(e ((i64.wrap (v4.1+1)),(bV .s v4.2 ((a.getD v4.1.toNat default).Name) true))))else(KK true)) (0,[])))) 0)
def G0(a:Lt.Program)(KK:Bool->Prop):Prop:=
 aa (α:=Bool) (fun i=>(a.Classes.length<=4611686018427387904->ab (α:=Int×List ((List UInt8)×Bool)) (fun r v4=>if(decide (v4.1 < (a.Classes.length:Int)))=true then(((0:Int)<=v4.1/\v4.1.toNat<a.Classes.length)/\if((aw (β:=Bool) .s v4.2 ((a.Classes.getD v4.1.toNat default).Name)).getD (dflt .bo))=true then(i true)else(r ((i64.wrap (v4.1+1)),(bV .s v4.2 ((a.Classes.getD v4.1.toNat default).Name) true))))else((a.Externs.length<=4611686018427387904->ab (α:=Int×List ((List UInt8)×Bool)) (fun q f=>if(decide (f.1 < (a.Externs.length:Int)))=true then(((0:Int)<=f.1/\f.1.toNat<a.Externs.length)/\if((aw (β:=Bool) .s f.2 ((a.Externs.getD f.1.toNat default).Name)).getD (dflt .bo))=true then(i true)else(q ((i64.wrap (f.1+1)),(bV .s f.2 ((a.Externs.getD f.1.toNat default).Name) true))))else((a.Funcs.length<=4611686018427387904->ab (α:=Int×List ((List UInt8)×Bool)) (fun p e=>if(decide (e.1 < (a.Funcs.length:Int)))=true then(((0:Int)<=e.1/\e.1.toNat<a.Funcs.length)/\if((aw (β:=Bool) .s e.2 ((a.Funcs.getD e.1.toNat default).Name)).getD (dflt .bo))=true then(i true)else(p ((i64.wrap (e.1+1)),(bV .s e.2 ((a.Funcs.getD e.1.toNat default).Name) true))))else(i (!(iy a a.Globals)))) (0,[])))) (0,[])))) (0,[]))) (fun o=>if o=true then(KK false)else((a.Classes.length<=4611686018427387904->ab (α:=Int) (fun n c=>if(decide (c < (a.Classes.length:Int)))=true then(((0:Int)<=c/\c.toNat<a.Classes.length)/\if(!(iy a ((a.Classes.getD c.toNat default).Fields)))=true then(KK false)else(n (i64.wrap (c+1))))else((a.Funcs.length<=4611686018427387904->ab (α:=Int) (fun l b=>have d:=a.Funcs.getD b.toNat default;if(decide (b < (a.Funcs.length:Int)))=true then(((0:Int)<=b/\b.toNat<a.Funcs.length)/\aa (α:=List Lt.Var) (fun m=>have g:=((([]:List Lt.Var).length+(d.Params).length<=4611686018427387904/\(([]:List Lt.Var).length+(d.Params).length)*32<=140737488355328)/\((d.Params).length+(d.Vars).length<=4611686018427387904/\((d.Params).length+(d.Vars).length)*32<=140737488355328)/\m ((d.Params)++(d.Vars)));(g/\g)/\((g/\g)/\g)/\(g/\g)) (fun k=>aa (α:=Bool) (fun h=>if(!(oC a (d.Result)))=true then(h true)else(h (!(iy a k)))) (fun j=>if j=true then(KK false)else(l (i64.wrap (b+1))))))else(KK true)) 0))) 0)))
def Pe(a:List UInt8)(b:List UInt8)(KK:Bool->Prop):Prop:=
 aa (α:=Bool) (fun c=>if(oR a)=true then(if(oR b)=true then(if(decide (a=b))=true then(c true)else(if(decide (a=[110,117,108,108]))=true then(c true)else(c (decide (b=[110,117,108,108])))))else(c false))else(c false)) (fun d=>KK d)
def Pf(a:Lt.asked)(b:List UInt8)(c:List UInt8)(KK:Bool->Prop):Prop:=
 (a.args.length<=4611686018427387904->ab (α:=Int) (fun e d=>if(decide (d < (a.args.length:Int)))=true then(((0:Int)<=d/\d.toNat<a.args.length)/\if(!decide ((a.args.getD d.toNat default)=b))=true then(KK false)else(e (i64.wrap (d+1))))else(KK (decide (a.dst=c)))) 0)
def G3(a:Lt.asked)(KK:Bool->Prop):Prop:=
 aa (α:=Bool) (fun b=>if((bm a.p a.i.Name).2)=true then(if(decide (a.dst=((bm a.p a.i.Name).1).Name))=true then(if(decide ((a.args.length:Int)=0))=true then(b true)else(b (l6 a.args (((bm a.p a.i.Name).1).Fields))))else(b false))else(b false)) (fun c=>KK c)
def CO(a:Lt.asked)(KK:(Lt.Var×Bool)->Prop):Prop:=
 ((0:Int)<=0/\0<a.i.Args.length)/\if(!decide ((a.i.Args.getD 0 default).Kind=1))=true then(KK ((Lt.Var.mk ([]:List UInt8) ([]:List UInt8)),false))else(((0:Int)<=0/\0<a.args.length)/\KK (((uR a.p (a.args.getD 0 default) a.i.Name).1),(uR a.p (a.args.getD 0 default) a.i.Name).2))
def yX(a:Lt.asked)(KK:Bool->Prop):Prop:=
 if(decide (a.i.Op=29))=true then(if((ix a.p a.i.Name).2)=true then(KK (decide (((ix a.p a.i.Name).1).Type_=a.dst)))else(KK false))else(if((ix a.p a.i.Name).2)=true then(((0:Int)<=0/\0<a.args.length)/\KK (eE (a.args.getD 0 default) (((ix a.p a.i.Name).1).Type_)))else(KK false))
def CP(a:Lt.asked)(KK:Bool->Prop):Prop:=
 have d:=((0:Int)<=0/\0<a.args.length);if(decide (a.i.Op<=14))=true then(KK (ng a [105,110,116] [105,110,116]))else(if(decide (a.i.Op<=18))=true then(KK (ng a [102,108,111,97,116] [102,108,111,97,116]))else(if(decide (a.i.Op<=21))=true then(KK (ng a [102,108,111,97,116] [105,110,116]))else(if(decide (a.i.Op=22))=true then(KK (ng a [105,110,116] [102,108,111,97,116]))else(if(decide (a.i.Op=23))=true then(KK (ng a [102,108,111,97,116] [105,110,116]))else(if(decide (a.i.Op=24))=true then(d/\KK (eE (a.args.getD 0 default) a.dst))else(if(decide (a.i.Op=25))=true then(KK (Gk a))else(if(decide (a.i.Op=26))=true then((N8 a)/\if((jk a).2)=true then(KK (decide (((jk a).1).Type_=a.dst)))else(KK false))else(if(decide (a.i.Op=27))=true then((N8 a)/\if((jk a).2)=true then(((0:Int)<=1/\1<a.args.length)/\KK (eE (a.args.getD 1 default) (((jk a).1).Type_)))else(KK false))else(if(decide (a.i.Op=28))=true then(if(decide (a.dst=[105,110,116]))=true then(d/\((0:Int)<=1/\1<a.args.length)/\KK (QM (a.args.getD 0 default) (a.args.getD 1 default)))else(KK false))else(aa (α:=Bool) (fun e=>if(decide (a.i.Op=29))=true then(e (decide (a.i.Op=29)))else(e (decide (a.i.Op=30)))) (fun g=>if g=true then((N9 a)/\KK (vj a))else(if(decide (a.i.Op=31))=true then(aa (α:=Bool) (fun b=>if((s4 a.p a.i.Name).2)=true then(if(l6 a.args (((s4 a.p a.i.Name).1).Params))=true then(b (decide (a.dst=((s4 a.p a.i.Name).1).Result)))else(b false))else(b false)) (fun v4=>KK v4))else(if(decide (a.i.Op=32))=true then(aa (α:=Bool) (fun c=>if((pW a.p a.i.Name).2)=true then(if(decide ((a.args.length:Int)=((pW a.p a.i.Name).1).N))=true then(c (ng a [105,110,116] [105,110,116]))else(c false))else(c false)) (fun f=>KK f))else(if(decide (a.i.Op=33))=true then(d/\KK (!(oR (a.args.getD 0 default))))else(KK true)))))))))))))))
def U7(d:Lt.Program)(b:Lt.Func)(a:Lt.Instr)(KK:(Lt.asked×Bool)->Prop):Prop:=
 have g:=(Lt.asked.mk (Lt.Program.mk false [] [] [] []) (Lt.Instr.mk 0 ([]:List UInt8) ([]:List UInt8) [] [] []) ([]:List UInt8) []);aa (α:=Bool) (fun f=>if(!((Lt.Of a.Op).2))=true then(f true)else(if(decide ((a.Args.length:Int) < ((Lt.Of a.Op).1).Least))=true then(f true)else(f (decide (((Lt.Of a.Op).1).Most < (a.Args.length:Int)))))) (fun j=>if j=true then(KK (g,false))else(aa (α:=Lt.asked) (fun h=>if(((Lt.Of a.Op).1).Dst)=true then(if(!((lK b a.Dst).2))=true then(KK (g,false))else(h (Lt.asked.mk d a (((lK b a.Dst).1).Type_) [])))else(h (Lt.asked.mk d a ([]:List UInt8) []))) (fun v4=>(a.Args.length<=4611686018427387904->ab (α:=Int×Lt.asked) (fun k c=>have e:=([(fl b (a.Args.getD c.1.toNat default)).1]:List (List UInt8));if(decide (c.1 < (a.Args.length:Int)))=true then(((0:Int)<=c.1/\c.1.toNat<a.Args.length)/\if(!((fl b (a.Args.getD c.1.toNat default)).2))=true then(KK (g,false))else((c.2.args.length+e.length<=4611686018427387904/\(c.2.args.length+e.length)*16<=140737488355328)/\k ((i64.wrap (c.1+1)),(Lt.asked.mk c.2.p c.2.i c.2.dst (c.2.args++e)))))else(KK (c.2,true))) (0,(Lt.asked.mk v4.p v4.i v4.dst []))))))
def G1(a:Lt.Program)(b:Lt.Func)(c:Lt.Instr)(KK:Bool->Prop):Prop:=
 (A5 a b c)/\if((oV a b c).2)=true then((A8 (Lt.asked.mk (((oV a b c).1).p) (((oV a b c).1).i) (((oV a b c).1).dst) (((oV a b c).1).args)))/\KK (yD (Lt.asked.mk (((oV a b c).1).p) (((oV a b c).1).i) (((oV a b c).1).dst) (((oV a b c).1).args))))else(KK false)
def U8(b:Lt.Func)(a:Lt.Term)(KK:Bool->Prop):Prop:=
 if(decide (a.Kind=1))=true then(KK true)else(if(decide (a.Kind=2))=true then(if((fl b a.A).2)=true then(KK (decide ((fl b a.A).1=[105,110,116])))else(KK false))else(if(decide (a.Kind=3))=true then(if((fl b a.A).2)=true then(KK (eE ((fl b a.A).1) b.Result))else(KK false))else(if(decide (a.Kind=4))=true then(KK (decide (10<=a.N)))else(KK false))))
def LEN:Nat:=4611686018427387904
variable{i n:Nat}
theorem ob(h:i<n):(0:Int)<=(i:Int)/\(i:Int).toNat<n:=by
 rw[Int.toNat_natCast];exact⟨ajC i,h⟩
theorem aX(h:i<n):decide ((i:Int) < (n:Int))=true:=by simpa using h
theorem l4:decide ((n:Int) < (n:Int))=false:=by simp
section
variable {α:Type}
theorem ax(x:α)(B:α->Prop):aa (fun J=>J x) B=B x:=
 propext ⟨fun h=>h B (fun _ h=>h),fun h J a=>a x h⟩
theorem cq(c:Prop)[Decidable c](A a:(α->Prop)->Prop)(B:α->Prop):aa (fun J=>if c then A J else a J) B=if c then aa A B else aa a B:=by
 unfold aa;by_cases hc:c<;>simp only[hc,if_true,if_false]
theorem aK(P:Prop)(A:(α->Prop)->Prop)(B:α->Prop):aa (fun J=>P/\A J) B=(P/\aa A B):=
 propext ⟨fun h=>⟨(h (fun _=>True) (fun _ _=>trivial)).1,fun J a=>(h J a).2⟩,fun h J a=>⟨h.1,h.2 J a⟩⟩
theorem aR(P:Prop)(A:(α->Prop)->Prop)(B:α->Prop):aa (fun J=>P->A J) B=(P->aa A B):=
 propext ⟨fun h hp J a=>h J a hp,fun h J a hp=>h hp J a⟩
theorem bb(P:Prop)(B:α->Prop):aa (fun _=>P) B=P:=
 propext ⟨fun h=>h (fun _=>True) (fun _ _=>trivial),fun h _ _=>h⟩
theorem jval(c:Prop)[Decidable c](x y:α)(J:α->Prop):(if c then J x else J y)=J (if c then x else y):=by split<;>rfl
theorem bor(b c:Bool):(if b=true then true else c)=(b||c):=by cases b<;>rfl
theorem band(b c:Bool):(if b=true then c else false)=(b&&c):=by cases b<;>rfl
theorem bnand(b c:Bool):(if b=true then false else c)=(!b&&c):=by cases b<;>rfl
theorem bimp(b c:Bool):(if b=true then c else true)=(!b||c):=by cases b<;>rfl
theorem aiT(c:Prop)[Decidable c](P A B:Prop):(if c then(P/\A)else B)=((c->P)/\if c then A else B):=by
 by_cases hc:c<;>simp[hc]
theorem aiU(c:Prop)[Decidable c](P A B:Prop):(if c then A else(P/\B))=((¬ c->P)/\if c then A else B):=by
 by_cases hc:c<;>simp[hc]
theorem aiD(c:Prop)[Decidable c](P A B:Prop):(if c then(P/\A)else(P/\B))=(P/\if c then A else B):=by
 by_cases hc:c<;>simp[hc]
end
theorem au{α:Type}(body:(α->Prop)->α->Prop)(m:Nat)(P:Nat->α->Prop)
  (hs:∀R i x,i<m->P i x->(∀y,P (i+1) y->R y)->body R x) (he:∀R x,P m x->body R x) (x:α) (h:P 0 x):ab body x:=by
 have key:∀k i x,i+k=m->P i x->mT body (k+1) x:=by
  intro k;induction k with
  |zero=>
   intro i x hi h;have e:i=m:=by omega
   subst e;exact he _ x h
  |succ k ih=>
   intro i x hi h;exact hs _ i x kQ1 h (fun y hy=>ih (i+1) y kQ1 hy)
 exact⟨m+1,key m 0 x kQ1 h⟩
variable{β:Type}
theorem nJ{α ρ σ:Type}[Inhabited α](l:List α)(hl:l.length<=LEN)(st:β->Int->σ)(c:List α->β->ρ)(KK:ρ->Prop)(body:(σ->Prop)->σ->Prop)
  (hs:∀R b i,i<l.length->(∀b',KK (c (l.drop (i+1)) b')->R (st b' (i64.wrap ((i:Int)+1))))->KK (c (l.getD i default::l.drop (i+1)) b)->body R (st b i))
  (he:∀R b,KK (c [] b)->body R (st b l.length)) (b:β) (h:KK (c l b)):ab body (st b 0):=by
 have key:∀k i b,i+k=l.length->KK (c (l.drop i) b)->mT body (k+1) (st b (i:Int)):=by
  intro k;induction k with
  |zero=>
   intro i b hi h;have e:i=l.length:=by omega
   subst e;rw[akA]at h;exact he _ b h
  |succ k ih=>
   intro i b hi h;have a:i<l.length:=by omega
   rw[ajO a]at h;have e:l.getD i default=l[i]:=by rw[List.getD,aiY a];rfl
   rw[<- e]at h;refine hs _ b i a (fun b' h'=>?_) h;rw[ac (by unfold LEN at hl;omega)];exact ih (i+1) b' kQ1 h'
 exact⟨l.length+1,key l.length 0 b kQ1 h⟩
theorem SB{α ρ:Type}[Inhabited α](l:List α)(hl:l.length<=LEN)(a:List α->β->ρ)(KK:ρ->Prop)(body:(β×Int->Prop)->β×Int->Prop)
  (hs:∀R b i,i<l.length->(∀b',KK (a (l.drop (i+1)) b')->R (b',(i64.wrap ((i:Int)+1))))->KK (a (l.getD i default::l.drop (i+1)) b)->body R (b,(i:Int)))
  (he:∀R b,KK (a [] b)->body R (b,(l.length:Int))) (b:β) (h:KK (a l b)):ab body (b,0):=
 nJ l hl (fun b i=>(b,i)) a KK body hs he b h
theorem dR{α:Type}[Inhabited α](l:List α)(hl:l.length<=LEN)(p:α->Bool)(rest:Bool)(KK:Bool->Prop)(body:(Int->Prop)->Int->Prop)
  (hs:∀R i,i<l.length->(p (l.getD i default)=true->R (i64.wrap ((i:Int)+1)))->(p (l.getD i default)=false->KK false)->body R (i:Int))
  (he:∀R,KK rest->body R (l.length:Int)) (h:KK (l.all p&&rest)):ab body 0:=by
 refine nJ l hl (fun(_:Unit) i=>i) (fun t _=>t.all p&&rest) KK body (fun R _ i hi ih h=>?_) (fun R _ h=>he R (by simpa using h)) () h;refine hs R i hi (fun hp=>ih () ?_) (fun hp=>?_)
 ·simp only[ajE,hp,ajT]at h;exact h
 ·simp only[ajE,hp,akR]at h;exact h
theorem Al(N:Nat)(hN:N<=LEN)(g:Nat->β)(body:(β×Int->Prop)->β×Int->Prop)
  (hs:∀R i,i<N->R (g (i+1),i64.wrap ((i:Int)+1))->body R (g i,(i:Int)))
  (he:∀R,body R (g N,(N:Int))) {b:β} (hb:g 0=b):ab body (b,0):=by
 subst hb;refine au body N (fun i x=>x=(g i,(i:Int))) (fun R i x hi hx ih=>?_) (fun R x hx=>?_) _ rfl
 ·subst hx;refine hs R i hi (ih _ ?_);rw[ac (by unfold LEN at hN;omega)]
 ·subst hx;exact he R
theorem fQ(N:Nat)(hN:N<=LEN)(g:Nat->β)(body:(Int×β->Prop)->Int×β->Prop)
  (hs:∀R i,i<N->R (i64.wrap ((i:Int)+1),g (i+1))->body R ((i:Int),g i))
  (he:∀R,body R ((N:Int),g N)) {b:β} (hb:g 0=b):ab body (0,b):=by
 subst hb;refine au body N (fun i x=>x=((i:Int),g i)) (fun R i x hi hx ih=>?_) (fun R x hx=>?_) _ rfl
 ·subst hx;refine hs R i hi (ih _ ?_);rw[ac (by unfold LEN at hN;omega)]
 ·subst hx;exact he R
theorem aB{α:Type}[Inhabited α](l:List α)(h:i<l.length):l.take (i+1)=l.take i++[l.getD i default]:=by
 rw[List.take_add_one,List.getD,aiY h];rfl
theorem aQ{α:Type}[Inhabited α](l:List α)(h:i<l.length):l.getD i default∈l:=by
 rw[List.getD,aiY h];exact ak6 h
theorem ifk{c:Prop}[Decidable c]{A B:Prop}(h1:c->A)(h2:¬ c->B):if c then A else B:=by grind
theorem e9{α σ:Type}[Inhabited α]{body:(σ->Prop)->σ->Prop}(l:List α)(st:β->Int->σ)(P:List α->β->Prop)
  (hs:∀R b i x r,i<l.length->l.getD i default=x->x∈l->(l.length<=4611686018427387904->∀b',P r b'->R (st b' (i64.wrap ((i:Int)+1))))->P (x::r) b->body R (st b (i:Int)))
  (he:∀R b,P [] b->body R (st b (l.length:Int))) (b:β) (h:P l b):ab body (st b 0):=by
 have key:∀k i b,i+k=l.length->P (l.drop i) b->mT body (k+1) (st b (i:Int)):=by
  intro k;induction k with
  |zero=>
   intro i b hi h;have e:i=l.length:=by omega
   subst e;rw[akA]at h;exact he _ b h
  |succ k ih=>
   intro i b hi h;have a:i<l.length:=by omega
   rw[ajO a]at h;have e:l.getD i default=l[i]:=by grind
   refine hs _ b i _ (l.drop (i+1)) a e (ak6 a) (fun hl b' h'=>?_) h
   grind [ac]
 exact⟨l.length+1,key l.length 0 b kQ1 h⟩
variable{body:(Int->Prop)->Int->Prop}
theorem cK{α:Type}[Inhabited α](l:List α)(P:List α->Prop)
  (hs:∀R i x r,i<l.length->l.getD i default=x->x∈l->(l.length<=4611686018427387904->P r->R (i64.wrap ((i:Int)+1)))->P (x::r)->body R (i:Int))
  (he:∀R,P []->body R (l.length:Int)) (h:P l):ab body 0:=
 e9 l (fun(_:Unit) i=>i) (fun r _=>P r) (fun R _ i x r h1 h2 h3 h4 h5=>hs R i x r h1 h2 h3 (fun hl hp=>h4 hl () hp) h5) (fun R _ h=>he R h) () h
theorem dh{α:Type}[Inhabited α](l:List α)(p:α->Bool)(rest:Bool)(KK:Bool->Prop)
  (hs:∀R i x,i<l.length->l.getD i default=x->x∈l->(l.length<=4611686018427387904->p x=true->R (i64.wrap ((i:Int)+1)))->(p x=false->KK false)->body R (i:Int))
  (he:∀R,KK rest->body R (l.length:Int)) (h:KK (l.all p&&rest)):ab body 0:=by
 refine cK l (fun r=>KK (r.all p&&rest)) (fun R i x r h1 h2 h3 h4 h5=>hs R i x h1 h2 h3 (fun hl hp=>h4 hl ?_) (fun hp=>?_)) (fun R h=>he R (by grind)) h
 all_goals grind
theorem Nr(p:Lt.Program)(s:List UInt8)(KK:Lt.Class×Bool->Prop)(h:KK (bm p s)):GY p s KK:=by
 unfold GY;intro hl;refine cK p.Classes (fun l=>KK (Lt.fnd (·.Name) s l)) (fun R i x r hi hx _ ih h=>?_) (fun R h=>?_) h
 ·grind [Lt.fnd]
 rw[if_neg (by simp)];exact h
theorem Ti(p:Lt.Program)(s:List UInt8)(KK:Lt.Func×Bool->Prop)(h:KK (s4 p s)):Pd p s KK:=by
 unfold Pd;intro hl;refine cK p.Funcs (fun l=>KK (Lt.fnd (·.Name) s l)) (fun R i x r hi hx _ ih h=>?_) (fun R h=>?_) h
 ·grind [Lt.fnd]
 rw[if_neg (by simp)];exact h
theorem JY(p:Lt.Program)(s:List UInt8)(KK:Lt.Var×Bool->Prop)(h:KK (ix p s)):CN p s KK:=by
 unfold CN;intro hl;refine cK p.Globals (fun l=>KK (Lt.fnd (·.Name) s l)) (fun R i x r hi hx _ ih h=>?_) (fun R h=>?_) h
 ·grind [Lt.fnd]
 rw[if_neg (by simp)];exact h
theorem JX(p:Lt.Program)(s:List UInt8)(KK:Lt.Extern×Bool->Prop)(h:KK (pW p s)):CM p s KK:=by
 unfold CM;intro hl;refine cK p.Externs (fun l=>KK (Lt.fnd (·.Name) s l)) (fun R i x r hi hx _ ih h=>?_) (fun R h=>?_) h
 ·grind [Lt.fnd]
 rw[if_neg (by simp)];exact h
theorem Ns(p:Lt.Program)(c s:List UInt8)(KK:Lt.Var×Bool->Prop)(h:KK (uR p c s)):GZ p c s KK:=by
 unfold GZ;unfold uR at h;refine ifk (fun hc=>?_) (fun hc hl=>?_)
 ·have e:∀l:List Lt.Class,(Lt.fnd (·.Name) c l).2=false->(Lt.fnd (·.Name) c l).1=default:=by
   intro l;induction l with
   |nil=>exact fun _=>rfl
   |cons x r ih=>grind [Lt.fnd]
  have a:(bm p c).1=default:=e _ (by grind [bm])
  rw[a]at h;exact h
 refine cK (bm p c).1.Fields (fun l=>KK (Lt.fnd (·.Name) s l)) (fun R i x r hi hx _ ih h=>?_) (fun R h=>?_) h
 ·grind [Lt.fnd]
 rw[if_neg (by simp)];exact h
theorem B7(f:Lt.Func)(s:List UInt8)(KK:Lt.Var×Bool->Prop)(h:KK (lK f s)):xf f s KK:=by
 unfold xf;intro J b hl;have a:J ((KZ f.Params s).2,(KZ f.Params s).1):=b _ (by
  dsimp only;refine ifk (fun hc=>?_) (fun hc hl=>?_)
  ·grind [lK]
  unfold lK at h;rw[if_neg hc]at h;refine cK f.Vars (fun l=>KK (Lt.fnd (·.Name) s l)) (fun R i x r hi hx _ ih h=>?_) (fun R h=>?_) h
  ·grind [Lt.fnd]
  rw[if_neg (by simp)];exact h)
 refine cK f.Params (fun l=>J ((Lt.fnd (fun x:Lt.Var=>x.Name) s l).2,(Lt.fnd (fun x:Lt.Var=>x.Name) s l).1)) (fun R i x r hi hx _ ih h=>?_) (fun R h=>?_) a
 ·grind [Lt.fnd]
 rw[if_neg (by simp)];exact h
theorem abB(f:Lt.Func)(a:Lt.Arg)(KK:List UInt8×Bool->Prop)(h:KK (fl f a)):adB f a KK:=by
 grind [adB,fl]
theorem Xx(t:List UInt8)(KK:Bool->Prop)(h:KK (oR t)):Va t KK:=by
 grind [Va,oR]
theorem Tg(a b:List UInt8)(KK:Bool->Prop)(h:KK (eE a b)):Pb a b KK:=by
 unfold Pb;unfold eE at h;intro J c
 grind
theorem Tj(a b:List UInt8)(KK:Bool->Prop)(h:KK (QM a b)):Pe a b KK:=by
 unfold Pe;unfold QM at h;intro J c
 grind
theorem Nv(p:Lt.Program)(t:List UInt8)(KK:Bool->Prop)(h:KK (oC p t)):G2 p t KK:=by
 unfold G2;unfold oC oR at h;intro J a
 grind
theorem fN{α:Type}[Inhabited α](l:List α)(h:i<l.length):l.drop i=l.getD i default::l.drop (i+1):=by
 grind [ajO]
theorem Bg:∀(l:List (List UInt8))(v:List Lt.Var),l.length≠v.length->l6 l v=false
 |[],[],h=>absurd rfl h
 |_::l,_::v,h=>by unfold l6;rw[Bg l v (by grind),Bool.and_false]
 |[],_::_,_=>rfl
 |_::_,[],_=>rfl
theorem Xw(l:List (List UInt8))(v:List Lt.Var)(KK:Bool->Prop)(h:KK (l6 l v)):U9 l v KK:=by
 unfold U9;intro _ _;refine ifk (fun hc=>?_) (fun hc hl=>?_)
 ·grind [Bg]
 have a:l.length=v.length:=by
  grind
 refine au _ l.length (fun i x=>x=(i:Int)/\KK (l6 (l.drop i) (v.drop i))) (fun R i x hi hx ih=>?_) (fun R x hx=>?_) 0 ⟨rfl,h⟩
 ·obtain⟨rfl,h⟩:=hx;rw[if_pos (aX hi)];refine⟨ob hi,ob kQ1,?_⟩;rw[Int.toNat_natCast]
  grind [fN,l6,ac]
 obtain⟨rfl,h⟩:=hx;rw[if_neg (by simp)];rw[akA,a,akA]at h;exact h
theorem mR(v:β):∀(m:List (List UInt8×β))(k0 k:List UInt8),aw .s (bV .s m k0 v) k=if k0=k then some v else aw .s m k
 |[],k0,k=>by
  grind [bV,aw,lX]
 |x::l,k0,k=>by
  have ih:=mR v l k0 k
  grind [bV,aw,lX]
theorem vk{α:Type}[Inhabited α]{body:(Int×List (List UInt8×Bool)->Prop)->Int×List (List UInt8×Bool)->Prop}(l:List α)(nm:α->List UInt8)(N:Prop)
  (hs:∀R(i:Nat)m x,i<l.length->l.getD i default=x->((aw (β:=Bool) .s m (nm x)).getD (dflt .bo)=true->N)->((aw (β:=Bool) .s m (nm x)).getD (dflt .bo)=false->l.length<=4611686018427387904->R (i64.wrap ((i:Int)+1),bV .s m (nm x) true))->body R ((i:Int),m))
  (he:∀R m,(l.map nm).Nodup->body R ((l.length:Int),m)) (hN:¬ (l.map nm).Nodup->N):ab body (0,[]):=by
 refine au _ l.length (fun i x=>x.1=(i:Int)/\(∀s,(aw (β:=Bool) .s x.2 s).getD (dflt .bo)=decide (s∈(l.take i).map nm))/\((l.take i).map nm).Nodup) (fun R i x hi hx ih=>?_) (fun R x hx=>?_) _ ⟨rfl,fun s=>by rfl,by simp⟩
 ·obtain⟨a,m⟩:=x;obtain⟨h1,h2,h3⟩:=hx;dsimp only at h1 h2;subst h1;refine hs R i m _ hi rfl (fun hc=>hN fun hd=>?_) (fun hc hl=>ih _ ⟨ac kQ1,fun s=>?_,?_⟩)
  ·grind [aj8]
  ·grind [mR,aB]
  grind [aB]
 grind
theorem B6(p:Lt.Program)(l:List Lt.Var)(KK:Bool->Prop)(h:KK (iy p l)):xe p l KK:=by
 unfold xe;intro hl;unfold iy at h;refine dh l (fun x=>oC p x.Type_) (sS (l.map (·.Name))) KK (fun R i x hi hx _ ih hf=>?_) (fun R h=>?_) h
 ·grind
 rw[if_neg (by simp)];intro _;refine vk l (·.Name) (KK false) (fun R i m x hi hx h1 h2=>?_) (fun R m hd=>?_) (fun hd=>?_)
 all_goals grind [Int.toNat_natCast,sS]
theorem Nt(p:Lt.Program)(hp:kN p)(KK:Bool->Prop)(h:KK (ou p)):G0 p KK:=by
 unfold G0;intro J e k;have a:∀b1 b2 g b4 b5 b6:Bool,ou p=(b1&&b2&&g&&b4&&b5&&b6)->(b1=false\/b2=false\/g=false\/b4=false\/b5=false\/b6=false)->KK false:=by
  grind
 have a:=a _ _ _ _ _ _ rfl
 have d:KK false->J true:=fun h=>e true (by grind)
 refine vk p.Classes (·.Name) (J true) (fun R i m x hi hx h1 h2=>?_) (fun R m o=>?_) (fun hd=>d (a (.inl (decide_eq_false hd))))
 ·grind
 rw[if_neg (by simp)];intro s;refine vk p.Externs (·.Name) (J true) (fun R i m x hi hx h1 h2=>?_) (fun R m n=>?_) (fun hd=>d (a (.inr (.inl (decide_eq_false hd)))))
 ·grind
 rw[if_neg (by simp)];intro u;refine vk p.Funcs (·.Name) (J true) (fun R i m x hi hx h1 h2=>?_) (fun R m v=>?_) (fun hd=>d (a (.inr (.inr (.inl (decide_eq_false hd))))))
 ·grind
 rw[if_neg (by simp)];refine e _ ?_;dsimp only;refine ifk (fun hc=>a (.inr (.inr (.inr (.inl (by grind)))))) (fun hc t=>?_);refine dh p.Classes (fun c=>iy p c.Fields) (p.Funcs.all fun f=>oC p f.Result&&iy p (f.Params++f.Vars)) KK (fun R i x hi hx _ ih hf=>?_) (fun R h=>?_) ?_
 ·grind
 ·rw[if_neg (by simp)];intro r;refine dh p.Funcs (fun f=>oC p f.Result&&iy p (f.Params++f.Vars)) true KK (fun R i x hi hx l ih hf=>?_) (fun R h=>?_) (by grind)
  ·simp only[aX hi,Int.toNat_natCast,hx,hi,ajC,and_self,true_and,if_true];have hb:=hp x l
   intro j b;have w:j (x.Params++x.Vars):=b _ (by
    dsimp only;intro y q
    grind)
   grind
  grind
 grind [ou,sS]
theorem Xv(f:Lt.Func)(t:Lt.Term)(KK:Bool->Prop)(h:KK (KY f t)):U8 f t KK:=by
 unfold U8;unfold KY at h;simp only[decide_eq_true_eq];by_cases h1:t.Kind=1
 ·grind
 by_cases h2:t.Kind=2
 ·cases ho:(fl f t.A).2<;>simpa[h2,ho]using h
 by_cases h3:t.Kind=3
 ·cases ho:(fl f t.A).2<;>simpa[h3,ho]using h
 grind
theorem Tk(q:Lt.asked)(a d:List UInt8)(KK:Bool->Prop)(h:KK (ng q a d)):Pf q a d KK:=by
 unfold Pf;intro hl;refine dh q.args (fun x=>decide (x=a)) (decide (q.dst=d)) KK (fun R i x hi hx _ ih hf=>?_) (fun R h=>?_) h
 all_goals grind
theorem Nw(q:Lt.asked)(KK:Bool->Prop)(h:KK (Gk q)):G3 q KK:=by
 unfold G3;intro J a;unfold Gk at h;have:=a _ h
 have e:∀l:List Lt.Class,(Lt.fnd (·.Name) q.i.Name l).2=true->(Lt.fnd (·.Name) q.i.Name l).1.Name=q.i.Name:=by
  intro l;induction l with
  |nil=>intro h;cases h
  |cons x r ih=>grind [Lt.fnd]
 grind [decide,bm]
theorem JZ(q:Lt.asked)(hp:N8 q)(KK:Lt.Var×Bool->Prop)(h:KK (jk q)):CO q KK:=by
 unfold CO;unfold jk at h;obtain⟨h1,h2⟩:=hp;refine⟨⟨by omega,by omega⟩,ifk (fun hc=>?_) (fun hc=>⟨⟨by omega,h1⟩,?_⟩)⟩
 ·rw[if_neg (by grind)]at h;exact h
 grind
theorem Fq(q:Lt.asked)(hp:N9 q)(KK:Bool->Prop)(h:KK (vj q)):yX q KK:=by
 grind [yX,vj,N9]
end Go.Am
end

section
namespace Go.Am
open Go
open Lt (nmB toB Gd Rc)
def sA(l:List Bool):Nat:=(l.filter fun b=>!b).length
theorem ug:∀(l:List Bool)(k:Nat),l.getD k true=false->sA (l.set k true)+1=sA l
 |[],k,h=>by grind
 |b::r,0,h=>by
  grind [sA]
 |b::r,k+1,h=>by
  have:=ug r k (by grind)
  grind [sA]
theorem uG{α:Type}{body:(α->Prop)->α->Prop}(P:α->Prop)(a:α->Nat)(hs:∀R x,P x->(∀y,P y->a y<a x->R y)->body R x)(x:α)(h:P x):ab body x:=by
 have key:∀n x,P x->a x<n->mT body n x:=by
  intro n;induction n with
  |zero=>omega
  |succ n ih=>intro x hx c;exact hs _ x hx (fun y hy b=>ih y hy kQ1)
 exact⟨_,key (a x+1) x h kQ1⟩
theorem dt{n:Int}(h1:-9223372036854775808<=n)(h2:n < 9223372036854775808):i64.wrap n=n:=by
 grind [IntKind.wrap,IntKind.signed,IntKind.bits]
variable{l:List Bool}
theorem Ud{k:Nat}(h:k<l.length)(b d:Bool):(l.set k b).getD k d=b:=by
 grind
theorem fO{i:Nat}(h:i<l.length)(k:Nat):(l.set i true).getD k false=(decide (k=i)||l.getD k false):=by
 grind
structure CI (B:List Lt.Block) (out:List Bool) (todo:List Int) (j:Nat):Prop where
 ol:out.length=B.length
 td:∀k∈todo,0<=k/\k < (B.length:Int)/\out.getD k.toNat false=true
 o0:out.getD 0 false=true
 sd:∀k,out.getD k false=true->Rc B k
 cl:∀i,i<B.length->i≠j->out.getD i false=true->(i:Int)∈todo\/∀k,k<B.length->nmB B k∈toB B i->out.getD k false=true
theorem CI.mark{B:List Lt.Block}{out:List Bool}{todo:List Int}{j t:Nat}(h:CI B out todo j)(ht:t<B.length)(hr:Rc B t):CI B (out.set t true) (todo++[(t:Int)]) j:=by
 have hl:t<out.length:=by grind [ol]
 refine⟨by grind [ol],fun k hk=>?_,?_,fun k hk=>?_,fun i hi hij hm=>?_⟩
 ·rw[fO hl];rcases ai9.1 hk with hk|hk
  ·obtain⟨a,b,c⟩:=h.td k hk
   grind
  grind
 all_goals grind [fO,o0,sd,cl]
theorem acL{m:List (List UInt8×Bool)}{K:List (List UInt8)}(h:∀s,(aw (β:=Bool) .s m s).getD (dflt .bo)=decide (s∈K))(x:List UInt8):∀s,(aw (β:=Bool) .s (bV .s m x true) s).getD (dflt .bo)=decide (s∈K++[x]):=fun s=>by
 grind [mR]
theorem JU(f:Lt.Func)(hp:Yg f)(KK:Bool->Prop)(h:KK (ji f)):CG f KK:=by
 unfold CG;obtain⟨hn,H⟩:=hp;have X:¬ Gd f.Blocks->KK false:=fun hg=>by grind [ji,M3]
 have kT:Gd f.Blocks->KK true:=fun hg=>by grind [ji,wh]
 dsimp only;intro _;refine ifk (fun e=>X fun g=>by grind [Gd.ps]) (fun an=>?_);have P:0<f.Blocks.length:=by
  grind
 intro _ _;refine au _ f.Blocks.length (fun i v=>v.1=(i:Int)/\(∀k,k<i->aw (β:=Int) .s v.2 (nmB f.Blocks k)=some (k:Int))/\(∀s,(∀k,k<i->nmB f.Blocks k≠s)->aw (β:=Int) .s v.2 s=none)/\∀a b,a<i->b<i->nmB f.Blocks a=nmB f.Blocks b->a=b) (fun R i v hi⟨e,h1,h2,h3⟩ih=>?_) (fun R v⟨e,h1,h2,ai⟩=>?_) _ ⟨rfl,fun k hk=>by omega,fun _ _=>rfl,fun a b D=>by omega⟩
 ·obtain⟨v1,L⟩:=v;dsimp only at e h1 h2⊢;subst e;rw[if_pos (aX hi)];refine⟨ob hi,?_⟩;rw[Int.toNat_natCast];by_cases hx:∃k,k<i/\nmB f.Blocks k=nmB f.Blocks i
  ·obtain⟨k,hk,e⟩:=hx;rw[if_pos]
   ·exact X fun g=>by grind [Gd.nd]
   grind
  have hx:∀k,k<i->nmB f.Blocks k≠nmB f.Blocks i:=fun k hk e=>hx ⟨k,hk,e⟩
  have hno:aw (β:=Int) .s L (nmB f.Blocks i)=none:=h2 _ hx
  rw[if_neg (by grind)];refine ih _ ⟨ac kQ1,fun k hk=>?_,fun s hs=>?_,fun a b D hb e=>?_⟩
  ·grind [mR]
  ·dsimp only;rw[mR,if_neg (hs i kQ1)]
   grind
  grind
 obtain⟨v1,L⟩:=v;dsimp only at e h1 h2⊢;subst e;rw[if_neg (by simp)];intro _;have hL:∀s t,aw (β:=Int) .s L s=some t->∃k,k<f.Blocks.length/\nmB f.Blocks k=s/\t=(k:Int):=fun s t e=>by
  grind
 refine au _ f.Blocks.length (fun i v=>v=(i:Int)/\∀a,a<i->(toB f.Blocks a).Nodup/\∀s∈toB f.Blocks a,∃k,k<f.Blocks.length/\k≠0/\nmB f.Blocks k=s) (fun R i v hi⟨e,r⟩ih=>?_) (fun R v⟨e,r⟩=>?_) _ ⟨rfl,fun a D=>by omega⟩
 ·subst e;rw[if_pos (aX hi)];refine⟨ob hi,fun _=>?_⟩;dsimp +instances only [Int.toNat_natCast]
  have C:=H _ (aQ _ hi)
  have ae:Gd f.Blocks->(f.Blocks.getD i default).End.To.Nodup:=fun g=>g.tn i hi
  have gtr:Gd f.Blocks->∀s∈(f.Blocks.getD i default).End.To,∃k,k<f.Blocks.length/\k≠0/\nmB f.Blocks k=s:=fun g=>g.tr i hi
  have M:∀T:List (List UInt8),T=(f.Blocks.getD i default).End.To->(T.Nodup/\∀s∈T,∃k,k<f.Blocks.length/\k≠0/\nmB f.Blocks k=s)->R (i64.wrap ((i:Int)+1)):=fun T e hT=>ih _ ⟨ac kQ1,fun a D=>by
   rcases akN a i with h'|h'
   all_goals grind⟩
  generalize(f.Blocks.getD i default).End.To=T at ae gtr C M;refine au _ T.length (fun k v=>v.1=(k:Int)/\(∀s,(aw (β:=Bool) .s v.2 s).getD (dflt .bo)=decide (s∈T.take k))/\(T.take k).Nodup/\∀s∈T.take k,∃k,k<f.Blocks.length/\k≠0/\nmB f.Blocks k=s) (fun R5 k v hk⟨e,d,hd,hq⟩ad=>?_) (fun R5 v⟨e,d,hd,hq⟩=>?_) _ ⟨rfl,fun s=>by rfl,by simp,fun s hs=>by grind⟩
  ·obtain⟨v1,m⟩:=v;dsimp only at e d⊢;subst e;rw[if_pos (aX hk)];dsimp +instances only [Int.toNat_natCast]
   refine⟨ob hk,fun J Y=>?_⟩;have eg:T.getD k default=T[k]:=by grind
   have n:T.getD k default∈T:=by grind
   have jF:¬ Gd f.Blocks->J true:=fun hg=>Y true (by grind)
   refine ifk (fun hc=>jF fun g=>?_) (fun hc=>ifk (fun hz=>jF fun g=>?_) (fun hz=>?_))
   ·obtain⟨t,W,t2,t3⟩:=gtr g _ n
    grind
   ·obtain⟨t,W,t2,t3⟩:=gtr g _ n
    grind
   have B:∃t,aw (β:=Int) .s L (T.getD k default)=some t:=by
    cases hl:aw (β:=Int) .s L (T.getD k default)with
    |_=>grind
   obtain⟨t,ht⟩:=B;obtain⟨q,q1,q2,rfl⟩:=hL _ _ ht;refine Y _ ?_;dsimp only;rw[d];refine ifk (fun A=>X fun g=>?_) (fun A=>ad _ ⟨ac kQ1,?_,?_,?_⟩)
   ·grind [aj8,fN]
   ·rw[aB T hk];exact acL d _
   ·have A:T.getD k default ∉ T.take k:=fun h'=>A (decide_eq_true h')
    rw[aB T hk,List.nodup_append]
    grind
   intro s hs;rw[aB T hk]at hs;rcases ai9.1 hs with hs|hs
   ·exact hq s hs
   grind
  grind
 subst e;rw[if_neg (by simp),if_neg (by simp)];have gd:(∀k,k<f.Blocks.length->Rc f.Blocks k)->Gd f.Blocks:=fun ak=>⟨P,ai,fun i hi=>(r i hi).1,fun i hi=>(r i hi).2,ak⟩
 have w:∀i,i<f.Blocks.length->∀s∈toB f.Blocks i,∃k,k<f.Blocks.length/\k≠0/\nmB f.Blocks k=s:=fun i hi=>(r i hi).2
 have hz:(f.Blocks.length:Int).toNat=f.Blocks.length:=Int.toNat_natCast _
 intro _;rw[hz];have hr:(List.replicate f.Blocks.length (dflt .bo):List Bool).length=f.Blocks.length:=alA
 refine⟨⟨by omega,by omega,by omega⟩,⟨by omega,by omega⟩,by omega,?_⟩;have aq:sA ((List.replicate f.Blocks.length (dflt .bo):List Bool).set 0 true)<=f.Blocks.length:=by
  grind [sA]
 have N:∀out,CI f.Blocks out [] f.Blocks.length->∀k,Rc f.Blocks k->out.getD k false=true:=fun out c k Z=>by
  induction Z with
  |first _=>exact c.o0
  |next i k _ hi hk d ih=>
   rcases c.cl i hi kQ1 ih with h'|h'
   all_goals grind
 have p:CI f.Blocks ((List.replicate f.Blocks.length (dflt .bo):List Bool).set 0 true) [0] f.Blocks.length:=by
  have aA:∀i,i≠0->((List.replicate f.Blocks.length (dflt .bo):List Bool).set 0 true).getD i false=true->False:=fun i e d=>by
   rw[List.getD,List.getElem?_set_ne (fun e'=>e e'.symm),List.getElem?_replicate]at d;split at d
   ·exact absurd d (by show ¬ (default:Bool)=true;decide)
   grind
  refine⟨by grind,fun k hk=>?_,Ud kQ1 _ _,fun k hk=>?_,fun i hi an d=>?_⟩
  ·obtain rfl:=ajD.1 hk
   grind
  ·by_cases e:k=0
   ·subst e;exact .first P
   grind
  grind
 refine uG (fun v=>CI f.Blocks v.1 v.2 f.Blocks.length/\2*sA v.1+v.2.length<=3000000) (fun v=>2*sA v.1+v.2.length) (fun R9 v⟨c,ab⟩Q=>?_) _ ⟨p,by grind⟩;obtain⟨out,todo⟩:=v;dsimp only at c ab Q⊢;intro av;refine ifk (fun I=>?_) (fun ap=>?_)
 rotate_left
 ·have aj:todo=[]:=aj5 (by grind)
  subst aj;have all:=N out c
  intro _;refine au _ out.length (fun i v=>v=(i:Int)/\∀a,a<i->out.getD a false=true) (fun R i v hi⟨e,D⟩ih=>?_) (fun R v⟨e,D⟩=>?_) _ ⟨rfl,fun a D=>by omega⟩
  ·subst e;rw[if_pos (aX hi)];refine⟨⟨by omega,by omega⟩,?_⟩;rw[Int.toNat_natCast];have aa:i<f.Blocks.length:=by grind [CI.ol]
   refine ifk (fun hc=>X fun g=>?_) (fun hc=>ih _ ⟨ac kQ1,fun a ax=>?_⟩)
   ·have h5:=all i (g.re i aa)
    grind
   grind
  subst e;rw[if_neg (by simp)];exact kT (gd fun k hk=>c.sd k (D k (by grind [CI.ol])))
 have I:0<todo.length:=by grind
 have hw:i64.wrap ((todo.length:Int) - 1)=((todo.length - 1:Nat):Int):=by
  grind [dt]
 rw[hw];dsimp +instances only [Int.toNat_natCast]
 generalize hmm:todo.length - 1=m;have l:todo=todo.take m++[todo.getD m default]:=by
  have:=aB todo (i:=m) kQ1
  grind
 have O:todo.getD m default∈todo:=aQ _ kQ1
 generalize todo.getD m default=j at l O;obtain⟨j1,j2,j3⟩:=c.td j O;intro J Y _;have ag:J (f.Blocks.getD j.toNat default):=Y _ ?_
 ·have V:((0:Int)<=j/\j.toNat<f.Blocks.length)/\J (f.Blocks.getD j.toNat default):=⟨⟨j1,by omega⟩,ag⟩
  exact⟨⟨by omega,by omega⟩,⟨V,V⟩,⟨V,V⟩,V⟩
 dsimp only;intro _;refine⟨⟨by omega,by omega⟩,fun _=>?_⟩;have E:j.toNat<f.Blocks.length:=by omega
 have w:∀s∈(f.Blocks.getD j.toNat default).End.To,∃k,k<f.Blocks.length/\k≠0/\nmB f.Blocks k=s:=w _ E
 have x:∀k,nmB f.Blocks k∈toB f.Blocks j.toNat->nmB f.Blocks k∈(f.Blocks.getD j.toNat default).End.To:=fun k h=>h
 have y:∀k,k<f.Blocks.length->nmB f.Blocks k∈(f.Blocks.getD j.toNat default).End.To->Rc f.Blocks k:=fun k hk d=>.next j.toNat k (c.sd _ j3) E hk d
 have C:=H _ (aQ _ E)
 have ao:(todo.take m).length+1=todo.length:=by rw[ajR];omega
 have K:CI f.Blocks out (todo.take m) j.toNat:=by
  refine⟨c.ol,fun k hk=>c.td k (akZ hk),c.o0,c.sd,fun i hi ay d=>?_⟩;rcases c.cl i hi kQ1 d with h'|h'
  ·rw[l]at h';rcases ai9.1 h' with h'|h'
   ·grind
   have:=ajD.1 h'
   omega
  grind
 generalize(f.Blocks.getD j.toNat default).End.To=T at w x C y;refine au _ T.length (fun k v=>v.2.2=(k:Int)/\CI f.Blocks v.1 v.2.1 j.toNat/\(∀q,q<k->∀u,u<f.Blocks.length->nmB f.Blocks u=T.getD q default->v.1.getD u false=true)/\2*sA v.1+v.2.1.length+1<=2*sA out+todo.length) (fun am k v hk⟨e,hc,hq,F⟩G=>?_) (fun am v⟨e,hc,hq,F⟩=>?_) _ ⟨rfl,K,fun q hq=>by omega,by grind⟩
 ·obtain⟨o3,t3,v3⟩:=v;dsimp only at e hc hq F⊢;subst e;rw[if_pos (aX hk)];dsimp +instances only [Int.toNat_natCast]
  obtain⟨t,W,t2,t4⟩:=w (T.getD k default) (aQ _ hk);have el:=h1 t W
  rw[t4]at el;rw[el];intro af S;have ol:=hc.ol
  refine⟨ob hk,⟨by simp,by grind⟩,?_⟩;simp only[akG,Int.toNat_natCast];have z:t<o3.length:=by omega
  have on:∀o' t',CI f.Blocks o' t' j.toNat->o'.getD t false=true->(∀u,o3.getD u false=true->o'.getD u false=true)->2*sA o'+t'.length<=2*sA o3+t3.length->af (o',t'):=fun o' t' a1 a2 a3 a4=>by
   refine S _ (G _ ⟨ac kQ1,a1,fun q ar u hu e=>?_,by grind⟩);rcases akN q k with h'|h'
   all_goals grind
  refine ifk (fun hf=>?_) (fun hf=>?_)
  ·have hf0:o3.getD t true=false:=by
    rw[List.getD,aiY z]at hf⊢
    grind
   have az:=ug o3 t hf0
   refine⟨⟨by omega,by omega⟩,z,⟨by grind [ai6],by grind [ai6]⟩,on _ _ (hc.mark W (y t W (by grind [aQ]))) ?_ (fun u hu=>?_) ?_⟩
   ·grind [fO]
   ·grind [fO]
   grind [ai1]
  have al:o3.getD t default=true:=by grind
  exact on _ _ hc al (fun _ h=>h) (ai0 _)
 obtain⟨o3,t3,v3⟩:=v;dsimp only at e hc hq F⊢;subst e;rw[if_neg (by simp)];refine Q _ ⟨⟨hc.ol,hc.td,hc.o0,hc.sd,fun i hi _ d=>?_⟩,by grind⟩ (by grind);by_cases e:i=j.toNat
 ·subst e;refine .inr fun k hk n=>?_
  obtain⟨q,U,ah⟩:=akY.1 (x k n);exact hq q U k hk (by rw[<- ah,List.getD,aiY U];rfl)
 exact hc.cl i hi e d
end Go.Am
end

section
namespace Go.Am
open Go
theorem JW(f:Lt.Func)(s:List UInt8)(KK:Int×Bool->Prop)(h:KK (oB f s)):CJ f s KK:=by
 unfold CJ;intro hl;unfold oB at h;refine au _ f.Blocks.length (fun i x=>x=(i:Int)/\KK (lI s (f.Blocks.drop i) (i:Int))) (fun R i x hi hx ih=>?_) (fun R x hx=>?_) 0 ⟨rfl,h⟩
 ·obtain⟨rfl,h⟩:=hx;rw[fN _ hi]at h
  grind [lI,ac]
 obtain⟨rfl,h⟩:=hx;rw[if_neg (by simp)];rw[akA]at h;exact h
theorem Tc(l:List Int)(v:Int)(KK:Int->Prop)(h:KK (JH l v)):O7 l v KK:=by
 unfold O7;intro hl;unfold JH at h;refine au _ l.length (fun i x=>x=(i:Int)/\KK (BX v (l.drop i) (i:Int))) (fun R i x hi hx ih=>?_) (fun R x hx=>?_) 0 ⟨rfl,h⟩
 ·obtain⟨rfl,h⟩:=hx;rw[fN _ hi]at h
  grind [BX,ac]
 obtain⟨rfl,h⟩:=hx;rw[if_neg (by simp)];rw[akA]at h;exact h
theorem Td(l:List (List UInt8))(v:List UInt8)(KK:Int->Prop)(h:KK (JI l v)):O8 l v KK:=by
 unfold O8;intro hl;unfold JI at h;refine au _ l.length (fun i x=>x=(i:Int)/\KK (BX v (l.drop i) (i:Int))) (fun R i x hi hx ih=>?_) (fun R x hx=>?_) 0 ⟨rfl,h⟩
 ·obtain⟨rfl,h⟩:=hx;rw[fN _ hi]at h
  grind [BX,ac]
 obtain⟨rfl,h⟩:=hx;rw[if_neg (by simp)];rw[akA]at h;exact h
theorem Nf(l:List Int)(v:Int)(KK:Bool->Prop)(h:KK (Ag l v)):U1 l v KK:=h
theorem Ng(l:List (List UInt8))(v:List UInt8)(KK:Bool->Prop)(h:KK (wd l v)):U2 l v KK:=h
variable{α:Type}
theorem As[DecidableEq α](v:α):∀(l:List α)(i:Int),0<=i->(0<=BX v l i ↔ v∈l)
 |[],i,h=>by simp[BX]
 |x::r,i,h=>by
  unfold BX;by_cases e:v=x
  ·grind
  rw[if_neg e,As v r (i+1) kQ1];simp[e]
theorem SO(l:List Int)(v:Int):Ag l v=decide (v∈l):=by
 grind [Ag,JH,As]
theorem SP(l:List (List UInt8))(v:List UInt8):wd l v=decide (v∈l):=by
 grind [wd,JI,As]
theorem gq(l:List α){i:Nat}(h:i<l.length)(k:Nat)(x d:α):(l.set i x).getD k d=if k=i then x else l.getD k d:=by
 grind
theorem zT(d:α){l m:List α}(h:l.length=m.length)(h2:∀k,k<l.length->l.getD k d=m.getD k d):l=m:=by
 grind [List.ext_getElem]
theorem XM{β:Type}[Inhabited α](g:α->β)(l:List α){k:Nat}(h:k<l.length)(d:β):(l.map g).getD k d=g (l.getD k default):=by
 grind
theorem uV(n k:Nat)(d:α):(List.replicate n d).getD k d=d:=by
 grind
theorem Ce{β:Type}(g:α->Option β)(l:List α):(l.filterMap g).length<=l.length:=List.length_filterMap_le _ _
theorem Xq(f:Lt.Func)(hp:uN f)(KK:List (List Int)->Prop)(h:KK (ju f)):U0 f KK:=by
 unfold U0;obtain⟨hn,c⟩:=hp;dsimp only;have hz:(f.Blocks.length:Int).toNat=f.Blocks.length:=Int.toNat_natCast _
 intro _;rw[hz];refine⟨⟨by omega,by omega,by omega⟩,fun _=>?_⟩;refine au _ f.Blocks.length (fun i v=>v.2=(i:Int)/\v.1.length=f.Blocks.length/\(∀k,i<=k->v.1.getD k []=[])/\∀k,k<i->v.1.getD k []=(Lt.toB f.Blocks k).filterMap (oq f)) (fun R i v hi⟨e,h1,h2,h3⟩ih=>?_) (fun R v⟨e,h1,h2,h3⟩=>?_) _ ⟨rfl,by simp,fun k _=>uV _ _ _,fun k hk=>by omega⟩
 ·obtain⟨out,l⟩:=v;dsimp only at e h1 h2 h3⊢;subst e;rw[if_pos (aX hi)];refine⟨ob hi,fun _=>?_⟩;dsimp +instances only [Int.toNat_natCast]
  have b:=c _ (aQ _ hi)
  have a:∀T:List (List UInt8),T=Lt.toB f.Blocks i->∀o:List (List Int),o.length=f.Blocks.length->(∀k,k≠i->o.getD k []=out.getD k [])->o.getD i []=T.filterMap (oq f)->R (o,i64.wrap ((i:Int)+1)):=fun T e o o1 o2 o3=>ih _ ⟨ac kQ1,o1,fun k hk=>by grind,fun k hk=>by
   grind⟩
  have b:(f.Blocks.getD i default).End.To.length<=1000000:=b
  have a:=a (f.Blocks.getD i default).End.To rfl
  generalize(f.Blocks.getD i default).End.To=T at b a;refine au _ T.length (fun j v=>v.2=(j:Int)/\v.1.length=f.Blocks.length/\(∀k,k≠i->v.1.getD k []=out.getD k [])/\v.1.getD i []=(T.take j).filterMap (oq f)) (fun m j v hj⟨e,g1,g2,g3⟩d=>?_) (fun m v⟨e,g1,g2,g3⟩=>?_) _ ⟨rfl,h1,fun _ _=>rfl,by grind⟩
  ·obtain⟨o,v4⟩:=v;dsimp only at e g1 g2 g3⊢;subst e;rw[if_pos (aX hj)];intro J n;refine⟨ob hj,?_⟩;dsimp +instances only [Int.toNat_natCast]
   have g:(o.getD i []).length<=1000000:=by
    grind
   grind [ac,oq,aB]
  grind
 obtain⟨out,l⟩:=v;dsimp only at e h1 h2 h3⊢;subst e;rw[if_neg (by simp)];have:out=ju f:=zT [] (by grind [ju]) fun k hk=>by
  grind [ju]
 grind
theorem YA(p:Nat->Bool)(i:Nat):(List.range (i+1)).filter p=(List.range i).filter p++(if p i=true then [i]else []):=by
 grind [List.range_succ]
theorem JQ(g:List (List Int))(hp:uO g)(KK:List (List Int)->Prop)(h:KK (iq g)):CC g KK:=by
 unfold CC;obtain⟨hn,m⟩:=hp;dsimp only;have hz:(g.length:Int).toNat=g.length:=Int.toNat_natCast _
 intro _;rw[hz];refine⟨⟨by omega,by omega,by omega⟩,fun _=>?_⟩
 let pr:Nat->Nat->List Int:=fun i k=>((List.range i).filter fun i=>decide ((k:Int)∈g.getD i [])).map fun(i:Nat)=>(i:Int)
 have pl:∀i k,(pr i k).length<=i:=fun i k=>by
  grind
 have s:∀i k,(i:Int) ∉ pr i k:=fun i k y=>by
  grind
 have ps:∀i k,pr (i+1) k=pr i k++(if(k:Int)∈g.getD i []then [(i:Int)]else []):=fun i k=>by
  grind [YA]
 refine au _ g.length (fun i v=>v.2=(i:Int)/\v.1.length=g.length/\∀k,k<g.length->v.1.getD k []=pr i k) (fun R i v hi⟨e,h1,h2⟩ih=>?_) (fun R v⟨e,h1,h2⟩=>?_) _ ⟨rfl,by simp,fun k _=>uV _ _ _⟩
 ·obtain⟨out,t⟩:=v;dsimp only at e h1 h2⊢;subst e;rw[if_pos (aX hi)];refine⟨ob hi,fun _=>?_⟩;dsimp +instances only [Int.toNat_natCast]
  have n:=m _ (by grind:g.getD i []∈g)
  have a:∀T:List Int,T=g.getD i []->∀o:List (List Int),o.length=g.length->(∀k,k<g.length->o.getD k []=pr i k++(if(k:Int)∈T then [(i:Int)]else []))->R (o,i64.wrap ((i:Int)+1)):=fun T e o o1 o2=>ih _ ⟨ac kQ1,o1,fun k hk=>by grind⟩
  have a:=a (g.getD i []) rfl
  generalize g.getD i []=T at n a;refine au _ T.length (fun j v=>v.2=(j:Int)/\v.1.length=g.length/\∀k,k<g.length->v.1.getD k []=pr i k++(if(k:Int)∈T.take j then [(i:Int)]else [])) (fun u j v hj⟨e,g1,g2⟩d=>?_) (fun u v⟨e,g1,g2⟩=>?_) _ ⟨rfl,h1,fun k hk=>by grind⟩
  ·obtain⟨o,v4⟩:=v;dsimp only at e g1 g2⊢;subst e;rw[if_pos (aX hj)];intro J q;refine⟨ob hj,fun x b=>?_⟩;dsimp +instances only [Int.toNat_natCast]at b⊢
   have f:=aB T hj
   generalize T.getD j default=z at b f⊢;have stay:¬ (0<=z/\z < (g.length:Int))\/z∈T.take j->J o:=fun w=>q _ (d _ ⟨ac kQ1,g1,fun k hk=>by
    dsimp only;rw[g2 k hk,f];have:(k:Int)∈T.take j++[z] ↔ (k:Int)∈T.take j:=by
     rw[ai9,ajD]
     grind
    simp only[this]⟩)
   refine ifk (fun h0=>ifk (fun h1'=>?_) (fun h1'=>?_)) (fun h0=>?_)
   ·have h0:=of_decide_eq_true h0
    have h1':=of_decide_eq_true h1'
    have c:z.toNat<o.length:=by omega
    have r:((z.toNat:Nat):Int)=z:=by omega
    have p:=g2 z.toNat kQ1
    rw[r]at p;have hb:(o.getD z.toNat []).length<=1000001:=by
     rw[p,ai3];have:=pl i z.toNat
     split<;>simp only[ai1,ai6]<;>omega
    have l:Ag (o.getD z.toNat []) (i:Int)=decide (z∈T.take j):=by
     rw[SO,decide_eq_decide,p,ai9];have:=s i z.toNat
     by_cases e:z∈T.take j
     all_goals grind
    refine⟨⟨by omega,by omega⟩,trivial,b _ ?_⟩;rw[l];refine ifk (fun hc=>?_) (fun hc=>stay (.inr (by grind)));have hc:z ∉ T.take j:=by grind
    refine⟨⟨by omega,by omega⟩,⟨by grind,by grind⟩,⟨by omega,by omega⟩,c,rfl,q _ (d _ ⟨ac kQ1,by grind,fun k hk=>?_⟩)⟩;dsimp only;rw[gq _ c,f];by_cases e:k=z.toNat
    ·grind
    rw[if_neg e,g2 k hk];have:(k:Int)∈T.take j++[z] ↔ (k:Int)∈T.take j:=by
     rw[ai9,ajD];exact⟨fun h=>h.elim id fun e'=>by omega,.inl⟩
    simp only[this]
   all_goals grind
  grind
 obtain⟨out,t⟩:=v;dsimp only at e h1 h2⊢;subst e;rw[if_neg (by simp)];have:out=iq g:=zT [] (by grind [iq]) fun k hk=>by
  rw[h2 k kQ1];unfold iq;rw[XM _ _ (by grind),List.getD,List.getElem?_range kQ1];rfl
 grind
abbrev VM:=List (List UInt8×Bool)
def VMo(m:VM):Prop:=(m.map (·.1)).Nodup/\∀x∈m,x.2=true
theorem mG(k:List UInt8)(v:Bool):∀m:VM,(bV .s m k v).map (·.1)=if k∈m.map (·.1)then m.map (·.1)else m.map (·.1)++[k]
 |[]=>by rfl
 |x::l=>by
  have ih:=mG k v l
  grind [bV,lX]
theorem JC(k:List UInt8):∀m:VM,(∀x∈m,x.2=true)->∀x∈bV .s m k true,x.2=true
 |[],h,x,hx=>by
  grind [bV]
 |y::l,h,x,hx=>by
  simp only[bV,lX]at hx;by_cases e:y.1=k
  ·grind
  rw[decide_eq_false e]at hx;rcases ai7.1 hx with hx|hx
  ·grind
  exact JC k l (fun z hz=>h z (ajM _ hz)) x hx
theorem VMo.ins{m:VM}(h:VMo m)(k:List UInt8):VMo (bV .s m k true):=by
 refine⟨?_,JC k m h.2⟩;rw[mG];split
 ·exact h.1
 rename_i hk;rw[List.nodup_append];exact⟨h.1,by simp,fun a ha b hb e=>by grind⟩
theorem VMo.nil:VMo []:=⟨List.nodup_nil,fun x h=>by cases h⟩
theorem Kr:∀{m:VM},(∀x∈m,x.2=true)->∀v,(aw (β:=Bool) .s m v).getD false=decide (v∈m.map (·.1))
 |[],_,v=>by rfl
 |x::l,h,v=>by
  simp only[aw,lX];by_cases e:x.1=v
  ·grind
  rw[decide_eq_false e];show(aw (β:=Bool) .s l v).getD false=_
  rw[Kr (fun z hz=>h z (ajM _ hz)) v,decide_eq_decide]
  grind
def okU(U:List (List UInt8))(s:Lt.Vs):Prop:=∃m,s=some m/\VMo m/\∀v∈m.map (·.1),v∈U
theorem je{m:VM}(h:VMo m)(v:List UInt8):bf (some m) v=decide (v∈m.map (·.1)):=Kr h.2 v
variable{s:Lt.Vs}
theorem okU.len{U:List (List UInt8)}(h:okU U s):(s.getD []).length<=U.length:=by
 obtain⟨m,rfl,h1,h2⟩:=h;have:=List.Nodup.length_le_of_subset h1.1 (l₂:=U) h2
 grind
theorem okU.isS{U:List (List UInt8)}(h:okU U s):s.isSome=true:=by obtain⟨m,rfl,_⟩:=h;rfl
theorem okU.nil(U:List (List UInt8)):okU U (some []):=⟨[],rfl,.nil,fun v h=>by cases h⟩
theorem okU.le{U:List (List UInt8)}{t:Lt.Vs}(hs:okU U s)(ht:okU U t)(h:∀v,bf s v=true->bf t v=true):(s.getD []).length<=(t.getD []).length:=by
 obtain⟨m,rfl,h1,_⟩:=hs;obtain⟨n,rfl,g1,_⟩:=ht;have:=List.Nodup.length_le_of_subset h1.1 (l₂:=n.map (·.1)) fun v hv=>by
  have:=h v (by grind [je])
  grind [je]
 grind
theorem okU.same{U:List (List UInt8)}{t:Lt.Vs}(hs:okU U s)(ht:okU U t)(h:∀v,bf s v=true->bf t v=true)(e:(s.getD []).length=(t.getD []).length):∀v,bf t v=true->bf s v=true:=by
 obtain⟨m,rfl,h1,_⟩:=hs;obtain⟨n,rfl,g1,_⟩:=ht;intro v hv;rw[je g1]at hv;have hv:=of_decide_eq_true hv
 rw[je h1];refine decide_eq_true (Classical.byContradiction fun hn=>?_);have:=List.Nodup.length_le_of_subset (l₁:=v::m.map (·.1)) (aj3.2 ⟨hn,h1.1⟩) (l₂:=n.map (·.1)) fun u hu=>by
  rcases ai7.1 hu with rfl|hu
  ·exact hv
  have:=h u (by grind [je])
  grind [je]
 grind
theorem Jw(m:VM)(k v:List UInt8):bf (some (bV .s m k true)) v=(decide (k=v)||bf (some m) v):=by
 grind [bf,mR]
theorem Jm:∀(l:List (List UInt8))(m:VM)v,bf (some (l.foldl (fun m v=>bV .s m v true) m)) v=(bf (some m) v||decide (v∈l))
 |[],m,v=>by simp
 |k::r,m,v=>by
  rw[akO,Jm r,Jw]
  grind
theorem yC(s:Lt.Vs)(l:List (List UInt8))(v:List UInt8):bf (Cj s l) v=(bf s v||decide (v∈l)):=by
 unfold Cj;rw[Jm];rfl
theorem P8{U:List (List UInt8)}:∀(l:List (List UInt8))(m:VM),okU U (some m)->(∀v∈l,v∈U)->okU U (some (l.foldl (fun m v=>bV .s m v true) m))
 |[],m,h,_=>h
 |k::r,m,h,hl=>by
  rw[akO];refine P8 r _ ?_ fun v hv=>hl v (ajM _ hv)
  obtain⟨m',e,h1,h2⟩:=h;obtain rfl:=Option.some.inj e;refine⟨_,rfl,h1.ins k,fun v hv=>?_⟩
  grind [mG]
theorem okU.put{U:List (List UInt8)}(h:okU U s){l:List (List UInt8)}(hl:∀v∈l,v∈U):okU U (Cj s l):=by
 obtain⟨m,rfl,h1,h2⟩:=h;exact P8 l m ⟨m,rfl,h1,h2⟩ hl
theorem Bc[Inhabited α]{body:(Int×VM->Prop)->Int×VM->Prop}(l:List α)(nm:α->List (List UInt8))(m:VM)(KK:Lt.Vs->Prop)
  (hs:∀R(i:Nat)m,i<l.length->(l.length<=4611686018427387904->R (i64.wrap ((i:Int)+1),(nm (l.getD i default)).foldl (fun m v=>bV .s m v true) m))->body R ((i:Int),m))
  (he:∀R m,KK (some m)->body R ((l.length:Int),m)) (h:KK (Cj (some m) (l.flatMap nm))):ab body (0,m):=by
 refine e9 l (fun m i=>(i,m)) (fun r m=>KK (Cj (some m) (r.flatMap nm))) (fun R m i x r hi hx _ ih h=>hs R i m hi fun hl=>ih hl _ ?_) (fun R m h=>he R m h) m h
 grind [Cj]
theorem Jl(g:α->List UInt8)(l:List α):l.flatMap (fun x=>[g x])=l.map g:=by
 induction l<;>grind
theorem Fh(f:Lt.Func)(KK:Lt.Vs->Prop)(h:KK (IC f)):yT f KK:=by
 unfold yT;intro hl;refine Bc f.Params (fun x=>[x.Name]) [] KK (fun R i m hi ih=>?_) (fun R m h=>?_) (by rw[Jl];exact h)
 all_goals grind
theorem M8(s:Lt.Vs)(b:Lt.Block)(hp:xE s b)(KK:Lt.Vs->Prop)(h:KK (lP s b)):GK s b KK:=by
 unfold GK;refine⟨hp,fun hl=>?_⟩;have es:some (s.getD [])=s:=by unfold xE at hp;cases s<;>grind
 refine Bc b.Phis (fun x=>[x.Dst]) (s.getD []) KK (fun R i m hi ih=>?_) (fun R m h=>?_) (by rw[Jl,es];exact h)
 all_goals grind
theorem aaN(g:α->List UInt8)(l:List α):l.flatMap (fun x=>if g x=[]then []else [g x])=(l.map g).filter fun d=>!decide (d=[]):=by
 induction l<;>grind
theorem M7(s:Lt.Vs)(b:Lt.Block)(hp:xE s b)(KK:Lt.Vs->Prop)(h:KK (iP s b)):GJ s b KK:=by
 unfold GJ;refine⟨hp,fun hl=>?_⟩;have es:some (s.getD [])=s:=by unfold xE at hp;cases s<;>grind
 refine Bc b.Code (fun x=>if x.Dst=[]then []else [x.Dst]) (s.getD []) KK (fun R i m hi ih=>?_) (fun R m h=>?_) (by rw[aaN,es];exact h)
 ·rw[if_pos (aX hi)];intro J a
  grind
 grind
theorem uE:∀(l:List α)(i:Nat)(hi:i<l.length)(d:α)x,x∈l ↔ x=l.getD i d\/x∈l.eraseIdx i
 |[],i,hi,d,x=>by grind
 |y::l,0,hi,d,x=>by simp
 |y::l,i+1,hi,d,x=>by
  have:=uE l i (by grind) d x
  grind
theorem M9(a b:Lt.Vs)(hp:Qx a b)(KK:Lt.Vs->Prop)(h:∀y,KO a b y->KK y):GL a b KK:=by
 unfold GL;refine ifk (fun g=>h b ⟨fun _=>rfl,fun hn=>absurd (by simp_all) hn⟩) (fun g=>?_);obtain⟨A,rfl⟩:∃A,a=some A:=by cases a<;>grind
 have k:VMo A:=by
  rcases hp with hp|⟨n,l,e,h1,h2,_⟩
  ·cases hp
  obtain rfl:=Option.some.inj e;exact⟨h1,h2⟩
 refine uG (fun v=>VMo v.1/\(∀x∈v.2,x∈A)/\(∀u,u∈v.1.map (·.1)->u∈A.map (·.1)/\bf b u=true)/\∀u,u∈A.map (·.1)->bf b u=true->u∈v.1.map (·.1)\/u∈v.2.map (·.1)) (fun v=>v.2.length) (fun R v⟨h1,h2,h3,h4⟩ih=>⟨fun e=>h _ ⟨fun e=>(by cases e),fun _=>⟨fun n hn=>?_,fun u=>?_⟩⟩,fun i hi=>?_⟩) _ ⟨.nil,fun x hx=>hx,fun u c=>(by cases c),fun u c _=>.inr c⟩
 ·obtain⟨l,e',g1,g2,g3⟩:=hn;obtain rfl:=Option.some.inj e';refine⟨v.1,rfl,h1.1,h1.2,?_⟩;have:=List.Nodup.length_le_of_subset h1.1 (l₂:=A.map (·.1)) fun u c=>(h3 u c).1
  grind
 ·grind [je]
 obtain⟨j,rest⟩:=v;dsimp only at h1 h2 h3 h4 ih hi⊢;have d:=uE rest i hi default
 have f:(rest.eraseIdx i).length<rest.length:=by grind
 have hx:rest.getD i default∈A:=h2 _ ((d _).2 (.inl rfl))
 generalize rest.getD i default=x at d hx;have hb:∀w,(aw (β:=Bool) .s (b.getD []) w).getD (dflt .bo)=bf b w:=fun w=>rfl
 grind [VMo.ins,mG]
def CB(a:List (List Int))(KK:(List Int)->Prop):Prop:=
 aa (α:=List Int) (fun j=>(a.length<=4611686018427387904->((0:Int)<=(a.length:Int)/\(a.length:Int)<=4611686018427387904/\1*(a.length:Int).toNat<=281474976710656)/\(a.length<=4611686018427387904->if(decide ((a.length:Int)=0))=true then(j [])else(((0:Int)<=0/\0 < (((List.replicate (a.length:Int).toNat (dflt .bo)).length:Nat):Int))/\0 < (List.replicate (a.length:Int).toNat (dflt .bo)).length/\ab (α:=List Bool×List Int×List Lt.step) (fun i v4=>have z3:=(i64.wrap ((v4.2.2.length:Int) - 1));have c:=(v4.2.2.getD z3.toNat default);have e:=a.getD (c.at_).toNat [];have z4:=v4.2.2.set z3.toNat (Lt.step.mk (c.at_) (i64.wrap ((c.next)+1)));have d:=e.getD (c.next).toNat default;have f:=([(Lt.step.mk d 0)]:List Lt.step);(v4.2.2.length<=4611686018427387904->if(decide (0 < (v4.2.2.length:Int)))=true then((v4.2.2.length<=4611686018427387904->((0:Int)<=z3/\z3 < ((v4.2.2.length:Nat):Int))/\((0:Int)<=c.at_/\(c.at_).toNat<a.length)/\(e.length<=4611686018427387904->if(decide (c.next=(e.length:Int)))=true then((v4.2.1.length+([c.at_]:List Int).length<=4611686018427387904/\(v4.2.1.length+([c.at_]:List Int).length)*8<=140737488355328)/\(v4.2.2.length<=4611686018427387904->((0:Int)<=z3/\z3.toNat<=v4.2.2.length)/\i (v4.1,(v4.2.1++([c.at_]:List Int)),(v4.2.2.take z3.toNat))))else(((0:Int)<=c.at_/\(c.at_).toNat<a.length)/\((0:Int)<=c.next/\(c.next).toNat<e.length)/\z3.toNat<v4.2.2.length/\aa (α:=Bool) (fun g=>if(decide (0<=d))=true then(if(decide (d < (a.length:Int)))=true then(((0:Int)<=d/\d < ((v4.1.length:Nat):Int))/\g (!(v4.1.getD d.toNat default)))else(g false))else(g false)) (fun k=>if k=true then(((0:Int)<=d/\d < ((v4.1.length:Nat):Int))/\d.toNat<v4.1.length/\(z4.length+f.length<=4611686018427387904/\(z4.length+f.length)*16<=140737488355328)/\i ((v4.1.set d.toNat true),v4.2.1,(z4++f)))else(i (v4.1,v4.2.1,z4)))))))else(j v4.2.1))) (((List.replicate (a.length:Int).toNat (dflt .bo)).set 0 true),[],[(Lt.step.mk 0 0)]))))) (fun h=>(h.length<=4611686018427387904->ab (α:=Int×Int×List Int) (fun l b=>have z5:=b.2.2.set b.1.toNat (b.2.2.getD b.2.1.toNat default);if(decide (b.1<b.2.1))=true then(((0:Int)<=b.2.1/\b.2.1 < ((b.2.2.length:Nat):Int))/\((0:Int)<=b.1/\b.1 < ((b.2.2.length:Nat):Int))/\((0:Int)<=b.1/\b.1 < ((b.2.2.length:Nat):Int))/\b.1.toNat<b.2.2.length/\((0:Int)<=b.2.1/\b.2.1 < ((z5.length:Nat):Int))/\b.2.1.toNat<z5.length/\l ((i64.wrap (b.1+1)),(i64.wrap (b.2.1 - 1)),(z5.set b.2.1.toNat (b.2.2.getD b.1.toNat default))))else(KK b.2.2)) (0,(i64.wrap ((h.length:Int) - 1)),h)))
def PrF(g:List (List Int)):List Int->List Int->Prop
 |_,[]=>True
 |a,x::r=>(x≠0->∃y∈a,x∈g.getD y.toNat [])/\PrF g (x::a) r
variable{g:List (List Int)}
theorem PrF.mono:∀{r s t:List Int},PrF g s r->(∀x∈s,x∈t)->PrF g t r
 |[],s,t,_,_=>trivial
 |x::r,s,t,h,hs=>⟨fun e=>by obtain⟨y,hy,h'⟩:=h.1 e;grind,h.2.mono fun y hy=>by
   grind⟩
theorem EA:∀{a b s:List Int},PrF g s (a++b) ↔ PrF g s a/\PrF g (a.reverse++s) b
 |[],b,s=>by simp[PrF]
 |x::a,b,s=>by
  rw[akV,List.reverse_cons,ajI];show((x≠0->∃y∈s,x∈g.getD y.toNat [])/\PrF g (x::s) (a++b)) ↔ ((x≠0->∃y∈s,x∈g.getD y.toNat [])/\PrF g (x::s) a)/\PrF g (a.reverse++(x::s)) b
  rw[EA (a:=a),and_assoc]
theorem PrF.at:∀{r s:List Int},PrF g s r->∀i,i<r.length->r.getD i 0≠0->(∃y∈s,r.getD i 0∈g.getD y.toNat [])\/∃j,j<i/\r.getD i 0∈g.getD (r.getD j 0).toNat []
 |[],s,h,i,hi,_=>by grind
 |x::r,s,h,0,hi,e=>.inl (h.1 e)
 |x::r,s,h,i+1,hi,e=>by
  rcases h.2.at i (by grind) e with⟨y,hy,h'⟩|⟨j,hj,h'⟩
  ·rcases ai7.1 hy with rfl|hy
   ·exact .inr ⟨0,by omega,h'⟩
   grind
  exact .inr ⟨j+1,by omega,h'⟩
def atS(S:List Lt.step):List Int:=S.map (·.at_)
def wkS(g:List (List Int))(S:List Lt.step):Nat:=(S.map fun s=>(g.getD s.at_.toNat []).length-s.next.toNat+1).sum
structure DF (g:List (List Int)) (mk:List Bool) (out:List Int) (S:List Lt.step):Prop where
 ol:mk.length=g.length
 lt:∀k∈atS S++out.reverse,0<=k/\k < (g.length:Int)
 mv:∀k:Nat,k<g.length->(mk.getD k false=true ↔ (k:Int)∈atS S++out.reverse)
 z:(0:Int)∈atS S++out.reverse
 nd:(atS S++out.reverse).Nodup
 pr:PrF g [] (atS S++out.reverse)
 nx:∀s∈S,0<=s.next/\s.next.toNat<=(g.getD s.at_.toNat []).length
 co:∀k∈out,∀s∈g.getD k.toNat [],s∈atS S++out.reverse
 cs:∀s∈S,∀j,j<s.next.toNat->(g.getD s.at_.toNat []).getD j default∈atS S++out.reverse
variable{mk:List Bool}
theorem DF.len{out:List Int}{S:List Lt.step}(h:DF g mk out S):S.length+out.length<=g.length:=by
 have:=List.Nodup.length_le_of_subset h.nd (l₂:=(List.range g.length).map fun(i:Nat)=>(i:Int)) fun k hk=>by
  obtain⟨a,b⟩:=h.lt k hk;exact ajK.2 ⟨k.toNat,List.mem_range.2 kQ1,by omega⟩
 grind [atS]
theorem DF.od{out:List Int}(h:DF g mk out [])(hg:∀l∈g,∀k∈l,0<=k/\k < (g.length:Int)):Lt.Od g out.reverse:=by
 have e:atS []++out.reverse=out.reverse:=rfl
 refine⟨h.lt,fun k hk=>?_,h.nd,fun i hi hne=>?_⟩
 ·induction hk<;>grind [z,co,Int.toNat_natCast]
 rcases h.pr.at i hi hne with⟨y,hy,_⟩|h'
 all_goals grind
variable{t:Lt.step}
theorem DF.pop{out:List Int}{S:List Lt.step}(h:DF g mk out (S++[t]))(ht:t.next.toNat=(g.getD t.at_.toNat []).length):DF g mk (out++[t.at_]) S:=by
 have e:atS S++(out++[t.at_]).reverse=atS (S++[t])++out.reverse:=by simp[atS]
 refine⟨h.ol,by rw[e];exact h.lt,by grind [mv],by grind [z],by grind [nd],by grind [pr],fun s hs=>h.nx s (ak0 _ hs),fun k hk s hs=>?_,fun s hs j hj=>by grind [cs]⟩;rw[e];rcases ai9.1 hk with hk|hk
 ·grind [co]
 obtain rfl:=ajD.1 hk;obtain⟨j,hj,e2⟩:=akY.1 hs;have:=h.cs t (akL _ (ajD.2 rfl)) j kQ1
 grind
theorem DF.on{out:List Int}{S R:List Lt.step}(h:DF g mk out (S++t::R))(ht:t.next.toNat < (g.getD t.at_.toNat []).length)(hm:(g.getD t.at_.toNat []).getD t.next.toNat default∈atS (S++t::R)++out.reverse):DF g mk out (S++Lt.step.mk t.at_ (t.next+1)::R):=by
 have e:atS (S++Lt.step.mk t.at_ (t.next+1)::R)=atS (S++t::R):=by simp[atS]
 have tm:t∈S++t::R:=akL _ (List.mem_cons_self)
 have tn:=(h.nx t tm).1
 have sp:∀s∈S++Lt.step.mk t.at_ (t.next+1)::R,s=Lt.step.mk t.at_ (t.next+1)\/s∈S++t::R:=fun s hs=>by
  grind
 refine⟨h.ol,by rw[e];exact h.lt,by grind [mv],by grind [z],by grind [nd],by grind [pr],fun s hs=>?_,by grind [co],fun s hs j hj=>?_⟩
 ·rcases sp s hs with rfl|hs
  ·grind
  exact h.nx s hs
 grind [cs]
theorem DF.push{out:List Int}{S:List Lt.step}{z:Int}(h:DF g mk out (S++[t]))(hz:0<=z/\z < (g.length:Int))(hn:¬ mk.getD z.toNat false=true)(hm:z∈g.getD t.at_.toNat []):DF g (mk.set z.toNat true) out (S++[t]++[Lt.step.mk z 0]):=by
 have e:atS (S++[t]++[Lt.step.mk z 0])=atS (S++[t])++[z]:=by simp[atS]
 have hl:z.toNat<mk.length:=by grind [ol]
 have hni:z ∉ atS (S++[t])++out.reverse:=fun hi=>hn ((h.mv z.toNat kQ1).2 (by grind))
 have up:∀k,k∈atS (S++[t])++out.reverse->k∈atS (S++[t]++[Lt.step.mk z 0])++out.reverse:=fun k hk=>by
  grind
 have dn:∀k,k∈atS (S++[t]++[Lt.step.mk z 0])++out.reverse->k=z\/k∈atS (S++[t])++out.reverse:=fun k hk=>by
  grind
 refine⟨by grind [ol],fun k hk=>?_,fun k hk=>?_,up _ h.z,?_,?_,fun s hs=>?_,fun k hk s hs=>up _ (h.co k hk s hs),fun s hs j hj=>?_⟩
 ·rcases dn k hk with rfl|hk
  ·exact hz
  exact h.lt k hk
 ·grind [fO,mv]
 ·grind [nd]
 ·rw[e,ajI];have hp:=EA.1 h.pr
  refine EA.2 ⟨hp.1,fun _=>⟨t.at_,?_,hm⟩,hp.2.mono fun x hx=>ajM _ hx⟩;simp[atS]
 ·rcases ai9.1 hs with hs|hs
  ·exact h.nx s hs
  grind
 grind [cs]
theorem YH(S:List α)(t x:α){m:Nat}(h:m=S.length):(S++[t]).set m x=S++[x]:=by
 simp_all
theorem JP(g:List (List Int))(hp:A6 g)(KK:List Int->Prop)(h:∀y,DU g y->KK y):CB g KK:=by
 unfold CB;obtain⟨⟨hn,p⟩,Z,U⟩:=hp;dsimp only;intro J hJ hl;have hz:(g.length:Int).toNat=g.length:=Int.toNat_natCast _
 rw[hz];have hr:(List.replicate g.length (dflt .bo):List Bool).length=g.length:=alA
 refine⟨⟨by omega,by omega,by omega⟩,fun _=>?_⟩;rw[if_neg (by grind)];refine⟨⟨by omega,by omega⟩,by omega,?_⟩;have P:∀mk out,DF g mk out []->J out:=fun mk out hd=>by
  refine hJ out fun I=>?_
  have b:=hd.len
  simp only[ai6,ak2]at b;generalize hn':out.length=n at b I⊢;rw[dt kQ1 kQ1];refine uG (fun v=>∃i:Nat,v.1=(i:Int)/\v.2.1=(n:Int) - 1 - (i:Int)/\2*i<=n+1/\v.2.2.length=n/\∀k,k<n->v.2.2.getD k default=if k<i\/n<=k+i then out.getD (n - 1-k) default else out.getD k default) (fun v=>(v.2.1-v.1).toNat) (fun R v hv ih=>?_) _ ⟨0,rfl,by grind,by omega,hn',fun k hk=>by grind⟩;obtain⟨v1,v2,l⟩:=v;obtain⟨i,O,N,h3,h4,h5⟩:=hv;dsimp only at O N h4 h5 ih⊢;subst O N;refine ifk (fun hc=>?_) (fun hc=>?_)
  ·have hc:=of_decide_eq_true hc
   generalize hj:((n:Int) - 1 - (i:Int)).toNat=j;have ab:j=n - 1-i:=by omega
   have A:i<l.length:=by omega
   have ad:j<l.length:=by omega
   rw[Int.toNat_natCast];refine⟨⟨by omega,by omega⟩,⟨by omega,by omega⟩,⟨by omega,by omega⟩,A,⟨by omega,by grind⟩,by grind,?_⟩;rw[ac kQ1,dt kQ1 kQ1];refine ih _ ⟨i+1,rfl,by grind,by omega,by grind,fun k hk=>?_⟩ (by grind);dsimp only;rw[gq _ (by grind),gq _ A];by_cases ej:k=j
   ·grind
   grind
  have hc:¬ (i:Int) < (n:Int) - 1 - (i:Int):=by grind
  have:l=out.reverse:=zT default (by grind) fun k hk=>by
   grind
  rw[this];exact h _ (hd.od U)
 have F:DF g ((List.replicate g.length (dflt .bo):List Bool).set 0 true) [] [Lt.step.mk 0 0]:=by
  refine⟨by grind,fun k hk=>?_,fun k hk=>?_,by simp[atS],by simp[atS],⟨fun e=>absurd rfl e,trivial⟩,fun s hs=>?_,fun k hk=>(by cases hk),fun s hs j hj=>?_⟩
  ·grind [atS]
  ·rw[fO kQ1,show(List.replicate g.length (dflt .bo):List Bool).getD k false=false from uV _ _ _];simp[atS]
  all_goals grind
 refine uG (fun v=>DF g v.1 v.2.1 v.2.2) (fun v=>1000002*sA v.1+wkS g v.2.2) (fun R v hd ih=>?_) _ F;obtain⟨mk,out,S⟩:=v;dsimp only at hd ih⊢;have b:=hd.len
 intro _;refine ifk (fun r=>?_) (fun Q=>?_)
 rotate_left
 ·have e0:S=[]:=aj5 (by grind)
  grind
 have r:0<S.length:=by grind
 have hw:i64.wrap ((S.length:Int) - 1)=((S.length - 1:Nat):Int):=by
  grind [dt]
 rw[hw];dsimp +instances only [Int.toNat_natCast]
 generalize hmm:S.length - 1=m;have a:S=S.take m++[S.getD m default]:=by
  have:=aB S (i:=m) kQ1
  grind
 have H:(S.take m).length=m:=by grind
 generalize S.getD m default=t at a;generalize hT:S.take m=T at a H;have B:t∈S:=by grind
 have u:=hd.lt t.at_ (ak0 _ (ajK.2 ⟨t,B,rfl⟩))
 obtain⟨hx0,hx1⟩:=hd.nx t B;have d:t.at_.toNat<g.length:=by omega
 have D:g.getD t.at_.toNat []∈g:=by grind
 have ae:=p _ D
 have G:=U _ D
 have V:wkS g S=wkS g T+((g.getD t.at_.toNat []).length-t.next.toNat+1):=by grind [wkS]
 rw[a]at hd;have w:∀x,S.set m x=T++[x]:=fun x=>by grind [YH]
 intro _;refine⟨⟨by omega,by omega⟩,⟨u.1,d⟩,fun _=>?_⟩;refine ifk (fun he=>?_) (fun M=>?_)
 ·grind [DF.pop]
 have M:¬ t.next=((g.getD t.at_.toNat []).length:Int):=by grind
 have c:t.next.toNat < (g.getD t.at_.toNat []).length:=by omega
 have f:(g.getD t.at_.toNat []).getD t.next.toNat default∈g.getD t.at_.toNat []:=aQ _ c
 have o:=G _ f
 have K:i64.wrap (t.next+1)=t.next+1:=dt kQ1 kQ1
 rw[w,K];have E:=hd.on c
 have Y:wkS g (T++[Lt.step.mk t.at_ (t.next+1)])+1=wkS g S:=by
  grind [wkS]
 refine⟨⟨u.1,d⟩,⟨hx0,c⟩,by omega,fun J5 q=>?_⟩;generalize hze:(g.getD t.at_.toNat []).getD t.next.toNat default=z at f o E q⊢;have L:=hd.mv z.toNat kQ1
 rw[Int.toNat_of_nonneg o.1]at L;rw[if_pos (by grind),if_pos (by grind)];have W:=hd.ol
 refine⟨⟨by omega,by omega⟩,q _ ?_⟩;refine ifk (fun hc=>?_) (fun hc=>?_)
 ·have hf:mk.getD z.toNat false=false:=by grind
  have hf0:mk.getD z.toNat true=false:=by
   grind
  have aa:=ug mk z.toNat hf0
  have af:z.toNat<g.length:=by omega
  have X:(g.getD z.toNat []).length<=1000000:=p _ (by grind)
  refine⟨⟨by omega,by omega⟩,by omega,⟨?_,?_⟩,?_⟩
  ·grind
  ·grind
  have C:=hd.push o (by grind) f
  rw[ajI]at C;have hq:=DF.on (S:=T) (R:=[Lt.step.mk z 0]) (t:=t) C c (by grind [atS])
  grind [wkS]
 grind
end Go.Am
end

section
namespace Go.Am
open Go
open Lt (nmB toB Gd Rc bkB phB bj Bare bf)
theorem sY(s:List UInt8):∀(l:List Lt.Block)(i:Int),((lI s l i).2=true->∃k,k<l.length/\(lI s l i).1=i+(k:Int)/\(l.getD k default).Name=s)/\((∃k,k<l.length/\(l.getD k default).Name=s)->(lI s l i).2=true)
 |[],i=>⟨fun h=>(by cases h),fun⟨k,hk,_⟩=>absurd hk (alM k)⟩
 |b::r,i=>by
  unfold lI;by_cases e:b.Name=s
  ·grind
  rw[if_neg e];obtain⟨h1,h2⟩:=sY s r (i+1);refine⟨fun h=>?_,fun⟨k,hk,h⟩=>h2 ?_⟩
  ·obtain⟨k,hk,c,a⟩:=h1 h;exact⟨k+1,Nat.succ_lt_succ hk,by omega,a⟩
  grind
theorem pz(f:Lt.Func):(ju f).length=f.Blocks.length:=by grind [ju]
theorem WS(f:Lt.Func){i:Nat}(hi:i<f.Blocks.length):(ju f).getD i []=(toB f.Blocks i).filterMap (oq f):=by
 grind [ju]
theorem KN(f:Lt.Func)(s:List UInt8)(z:Int)(h:oq f s=some z):∃k:Nat,k<f.Blocks.length/\z=(k:Int)/\nmB f.Blocks k=s:=by
 grind [oq,sY,oB]
variable{f:Lt.Func}{k:Nat}
theorem zQ(a:Gd f.Blocks){i:Nat}:(k:Int)∈(ju f).getD i [] ↔ i<f.Blocks.length/\k<f.Blocks.length/\nmB f.Blocks k∈toB f.Blocks i:=by
 grind [pz,WS,oB,sY,oq,Gd.nd]
theorem Jk(hp:uN f):uO (ju f):=by
 refine⟨by rw[pz];exact hp.1,fun l hl=>?_⟩;unfold ju at hl;obtain⟨b,hb,rfl⟩:=ajK.1 hl;exact ajJ (Ce _ _) (hp.2 b hb)
theorem WT(hp:uN f)(a:Gd f.Blocks):A6 (ju f):=by
 refine⟨Jk hp,by rw[pz];exact a.ps,fun l hl k hk=>?_⟩
 grind [ju,KN]
theorem TW(a:Gd f.Blocks)(hk:k<f.Blocks.length)(z:Int):z∈(iq (ju f)).getD k [] ↔ ∃i:Nat,z=(i:Int)/\i<f.Blocks.length/\nmB f.Blocks k∈toB f.Blocks i:=by
 grind [iq,Qy,ju,zQ]
theorem T3(a:Gd f.Blocks)(hk:k<f.Blocks.length):Lt.Gr (ju f) k:=by
 have:=a.re k hk
 induction this with
 |first _=>exact .first
 |next i k _ hi hk b ih=>exact .next i k (ih hi) ((zQ a).2 ⟨hi,hk,b⟩)
def univ(f:Lt.Func):List (List UInt8):=f.Params.map (·.Name)++f.Blocks.flatMap fun b=>b.Phis.map (·.Dst)++b.Code.map (·.Dst)
theorem pA{α β:Type}(g:α->List β)(c:Nat):∀l:List α,(∀x∈l,(g x).length<=c)->(l.flatMap g).length<=l.length*c
 |[],_=>by simp
 |x::r,h=>by
  have:=pA g c r fun y hy=>h y (ajM _ hy)
  grind [Nat.succ_mul]
theorem YX(hp:mY f):(univ f).length<=4000000000000:=by
 obtain⟨⟨h1,_⟩,_,h2,h3⟩:=hp;have:=pA (fun b:Lt.Block=>b.Phis.map (·.Dst)++b.Code.map (·.Dst)) 2000000 f.Blocks fun b hb=>by
  grind
 grind [univ]
theorem agW:∀v∈f.Params.map (·.Name),v∈univ f:=fun v hv=>ak0 _ hv
theorem agV(hk:k<f.Blocks.length):∀v∈phB f k,v∈univ f:=fun v hv=>akL _ (akB.2 ⟨_,aQ _ hk,ak0 _ hv⟩)
theorem agX(hk:k<f.Blocks.length):∀v∈bj (bkB f k),v∈univ f:=fun v hv=>akL _ (akB.2 ⟨_,aQ _ hk,akL _ (List.mem_filter.1 hv).1⟩)
theorem okU.okV{U:List (List UInt8)}{s:Lt.Vs}(h:okU U s):Lt.okV s (s.getD []).length:=by
 obtain⟨m,rfl,h1,h2⟩:=h;exact⟨m,rfl,h1.1,h1.2,ai0 _⟩
theorem XY{U:List (List UInt8)}{a b y:Lt.Vs}(h:okU U a)(hy:Lt.okV y (a.getD []).length)(he:∀v,bf y v=(bf a v&&bf b v)):okU U y:=by
 obtain⟨l,rfl,h1,h2,_⟩:=hy;refine⟨l,rfl,⟨h1,h2⟩,fun v hv=>?_⟩;have e:=he v
 rw[je ⟨h1,h2⟩,decide_eq_true hv]at e;have e:bf a v=true:=by grind
 obtain⟨m,rfl,g1,g2⟩:=h
 grind [je]
def szV(n:Nat)(s:Lt.Vs):Nat:=match s with|none=>n+1|some m=>m.length
def Lx(n:Nat)(l:List Lt.Vs):Nat:=(l.map (szV n)).sum
theorem Ly(n:Nat):∀(l:List Lt.Vs)(k:Nat)(s:Lt.Vs),k<l.length->Lx n (l.set k s)+szV n (l.getD k none)=Lx n l+szV n s
 |[],k,s,h=>by grind
 |x::l,0,s,h=>by grind [Lx]
 |x::l,k+1,s,h=>by
  have:=Ly n l k s (by grind)
  grind [Lx]
theorem X7(s:Lt.Vs)(f:Lt.Func)(k:Nat)(v:List UInt8):bf (lP s (bkB f k)) v=(bf s v||decide (v∈phB f k)):=yC s _ v
theorem pR(s:Lt.Vs)(b:Lt.Block)(v:List UInt8):bf (iP s b) v=(bf s v||decide (v∈bj b)):=yC s _ v
theorem q0(s:Lt.Vs)(b:Lt.Block):iP s b≠default:=fun e=>by cases e
def o6(f:Lt.Func)(outs:List Lt.Vs)(k:Nat)(v:List UInt8):Prop:=(k=0->v∈f.Params.map (·.Name))/\∀i,i<f.Blocks.length->nmB f.Blocks k∈toB f.Blocks i->outs.getD i default≠default->bf (outs.getD i default) v=true
structure AI (f:Lt.Func) (ins outs:List Lt.Vs):Prop where
 li:ins.length=f.Blocks.length
 lo:outs.length=f.Blocks.length
 no:∀k,k<f.Blocks.length->ins.getD k default=default->outs.getD k default=default
 ok:∀k,k<f.Blocks.length->ins.getD k default≠default->okU (univ f) (ins.getD k default)/\outs.getD k default=iP (ins.getD k default) (bkB f k)
 ov:∀k,k<f.Blocks.length->ins.getD k default≠default->∀v,¬ Bare f v k->bf (ins.getD k default) v=true
 tr:∀k,k<f.Blocks.length->ins.getD k default≠default->∀v,o6 f outs k v\/v∈phB f k->bf (ins.getD k default) v=true
variable{outs:List Lt.Vs}
theorem AI.on{ins:List Lt.Vs}(h:AI f ins outs)(hk:k<f.Blocks.length)(ho:outs.getD k default≠default):ins.getD k default≠default:=fun e=>ho (h.no k hk e)
theorem AI.step{ins:List Lt.Vs}(h:AI f ins outs)(hk:k<f.Blocks.length){x:Lt.Vs}(hx:okU (univ f) x)(he:∀v,bf x v=true ↔ o6 f outs k v\/v∈phB f k) :
  AI f (ins.set k x) (outs.set k (iP x (bkB f k)))/\(ins.getD k default≠default->∀v,bf x v=true->bf (ins.getD k default) v=true):=by
 have hki:k<ins.length:=by grind [li]
 have hko:k<outs.length:=by grind [lo]
 have less:ins.getD k default≠default->∀v,bf x v=true->bf (ins.getD k default) v=true:=fun hs v hv=>h.tr k hk hs v ((he v).1 hv)
 have xs:x≠default:=fun e=>by have:=hx.isS;grind
 have mdn:∀j v,o6 f (outs.set k (iP x (bkB f k))) j v->o6 f outs j v:=fun j v hm=>by
  refine⟨hm.1,fun i hi hmem hs=>?_⟩;have h2:=hm.2 i hi hmem
  rw[gq _ hko]at h2;by_cases e:i=k
  ·subst e;rw[if_pos rfl]at h2;have h2:=h2 (q0 _ _)
   have hin:=h.on hk hs
   rw[(h.ok i hk hin).2,pR]
   grind [pR]
  grind
 refine⟨⟨by grind [li],by grind [lo],fun j hj hs=>?_,fun j hj hs=>?_,fun j hj hs v hv=>?_,fun j hj hs v hv=>?_⟩,less⟩
 ·grind [gq,no]
 ·grind [gq,ok]
 ·rw[gq _ hki]at hs⊢;by_cases e:j=k
  ·subst e;rw[if_pos rfl];refine(he v).2 (Classical.or_iff_not_imp_right.2 fun hp=>⟨fun e0=>Classical.byContradiction fun hn=>hv (by subst e0;exact .first hn),fun i hi hmem hso=>Classical.byContradiction fun hn=>hv ?_⟩);have hin:=h.on hi hso
   rw[(h.ok i hi hin).2,pR]at hn;have n1:bf (ins.getD i default) v≠true:=fun e=>hn (by grind)
   have n2:v ∉ bj (bkB f i):=fun e=>hn (by grind)
   exact .next i j (Classical.byContradiction fun hb=>n1 (h.ov i hi hin v hb)) (fun hp=>n1 (h.tr i hi hin v (.inr hp))) n2 hi hj hmem
  grind [ov]
 grind [gq,tr]
theorem AI.fin{ins:List Lt.Vs}(h:AI f ins outs)(hs:∀k,k<f.Blocks.length->ins.getD k default≠default)(hx:∀k,k<f.Blocks.length->∀v,bf (ins.getD k default) v=true->o6 f outs k v\/v∈phB f k):mX f ins:=by
 refine⟨⟨h.li,fun k hk=>⟨(h.ok k hk (hs k hk)).1.isS,fun v=>⟨fun hv=>?_,fun hv=>hv.elim (h.ov k hk (hs k hk) v) fun hp=>h.tr k hk (hs k hk) v (.inr hp)⟩⟩⟩,fun k hk=>?_⟩
 rotate_left
 ·have hu:=(h.ok k hk (hs k hk)).1
  have hl:=hu.len
  obtain⟨m,e,g1,g2⟩:=hu;rw[e]at hl;exact⟨m,e,g1.1,g1.2,hl⟩
 refine Classical.or_iff_not_imp_right.2 fun hp hb=>?_
 have key:∀k,Bare f v k->k<f.Blocks.length->v ∉ phB f k->bf (ins.getD k default) v≠true:=fun k hb=>by
  induction hb with
  |first hn=>exact fun hk hp hv=>hn (((hx 0 hk v hv).resolve_right hp).1 rfl)
  |next i k _ h1 h2 hi hk' hm ih=>
   intro hk hp hv;have hso:=(h.ok i hi (hs i hi)).2
   have h3:=((hx k hk v hv).resolve_right hp).2 i hi hm (by grind [q0])
   grind [pR]
 grind
structure RI (f:Lt.Func) (y:List Int) (t0:Nat) (j:Nat) (ins outs:List Lt.Vs) (ch:Bool):Prop where
 ai:AI f ins outs
 dn:∀i,i<j->ins.getD (y.getD i default).toNat default≠default
 sz:Lx (univ f).length ins<=t0
 s2:ch=true->Lx (univ f).length ins<t0
 fx:ch=false->∀i,i<j->∀v,bf (ins.getD (y.getD i default).toNat default) v=true->o6 f outs (y.getD i default).toNat v\/v∈phB f (y.getD i default).toNat
variable{y:List Int}
theorem RI.step{t0 j:Nat}{ins:List Lt.Vs}{ch:Bool}(h:RI f y t0 j ins outs ch)(ek:y.getD j default=(k:Int))(hk:k<f.Blocks.length)(hy:∀i,i<j->(y.getD i default).toNat<f.Blocks.length){x:Lt.Vs}(hx:okU (univ f) x)(he:∀v,bf x v=true ↔ o6 f outs k v\/v∈phB f k){c:Bool}
  (hc:c=(if(ins.getD k default).isNone=true then true else if(!decide ((((ins.getD k default).getD []).length:Int)=((x.getD []).length:Int)))=true then true else ch)) :
  RI f y t0 (j+1) (ins.set k x) (outs.set k (iP x (bkB f k))) c:=by
 obtain⟨ha,less⟩:=h.ai.step hk hx he;have hki:k<ins.length:=by rw[h.ai.li];exact hk
 have hko:k<outs.length:=by rw[h.ai.lo];exact hk
 have xs:x≠default:=fun e=>by have:=hx.isS;grind
 have hsz:=Ly (univ f).length ins k x hki
 have hxl:=hx.len
 obtain⟨mx,rfl⟩:∃mx,x=some mx:=by cases x<;>grind
 have s1:szV (univ f).length (some mx)=mx.length:=rfl
 simp only[akG]at hxl hc;have ways:(ins.getD k default=none/\c=true)\/(∃m,ins.getD k default=some m/\mx.length<=m.length/\((mx.length<m.length/\c=true)\/(mx.length=m.length/\c=ch))):=by
  cases hi:ins.getD k default with
  |none=>grind
  |some m=>
   refine .inr ⟨m,rfl,?_⟩;have hne:ins.getD k default≠default:=by grind
   have hl:=less hne
   have hok:=(h.ai.ok k hk hne).1
   rw[hi]at hl hok hc;have hle:=hx.le hok hl
   grind
 refine⟨ha,fun i hi=>?_,?_,fun ec=>?_,fun ec i hi v hv=>?_⟩
 ·grind [gq,dn]
 ·have:=h.sz
  grind [szV]
 ·have:=h.sz
  rcases ways with⟨e,_⟩|⟨m,e,h1,⟨h2,_⟩|⟨h2,h3⟩⟩
  ·grind [szV]
  ·grind [szV]
  have e2:szV (univ f).length (ins.getD k none)=m.length:=by rw[show ins.getD k none=some m from e];rfl
  have:=h.s2 (by grind)
  omega
 rcases ways with⟨_,e⟩|⟨m,e,h1,⟨_,h2⟩|⟨h2,h3⟩⟩
 ·grind
 ·grind
 have hne:ins.getD k default≠default:=by grind
 have hok:=(h.ai.ok k hk hne)
 have hsame:=hx.same hok.1 (less hne) (by grind)
 have hiff:∀v,bf (some mx) v=bf (ins.getD k default) v:=fun v=>by
  grind
 have mup:∀q v,o6 f outs q v->o6 f (outs.set k (iP (some mx) (bkB f k))) q v:=fun q v hm=>by
  refine⟨hm.1,fun i hi hmem hs=>?_⟩;rw[gq _ hko]at hs⊢;by_cases ei:i=k
  ·subst ei;rw[if_pos rfl];have:=hm.2 i hi hmem (by grind [q0])
   grind [pR]
  rw[if_neg ei]at hs⊢;exact hm.2 i hi hmem hs
 rcases akN i j with h'|h'
 ·grind [fx]
 grind
theorem N6{t0:Nat}{ins:List Lt.Vs}{ch:Bool}(a:Gd f.Blocks)(hy:Lt.Od (ju f) y)(h:RI f y t0 y.length ins outs ch)(hc:ch=false):mX f ins:=by
 have b:∀k,k<f.Blocks.length->∃i,i<y.length/\(y.getD i default).toNat=k:=fun k hk=>by
  obtain⟨i,hi,e⟩:=akY.1 (hy.all k (T3 a hk));exact⟨i,hi,by grind⟩
 refine h.ai.fin (fun k hk=>?_) fun k hk v hv=>?_
 all_goals grind [RI.dn,RI.fx]
theorem S6(f:Lt.Func)(hp:mY f)(KK:List Lt.Vs->Prop)(h:∀y,mX f y->KK y):O1 f KK:=by
 unfold O1;have aq:=YX hp
 obtain⟨C,Q,al,ap⟩:=hp;have hn:=C.1
 have ar:=Q.ps
 dsimp only;have hz:(f.Blocks.length:Int).toNat=f.Blocks.length:=Int.toNat_natCast _
 rw[hz];refine⟨C,Jk C,WT C Q,fun y hy _=>⟨⟨by omega,by omega,by omega⟩,fun _=>⟨⟨by omega,by omega,by omega⟩,?_⟩⟩⟩;have hy:Lt.Od (ju f) y:=hy
 have W:∀i,i<y.length->∃k:Nat,y.getD i default=(k:Int)/\k<f.Blocks.length:=fun i hi=>by
  have:=hy.lt _ (aQ _ hi)
  rw[pz]at this;exact⟨(y.getD i default).toNat,by omega,by omega⟩
 have an:(iq (ju f)).length=f.Blocks.length:=by grind [iq,pz]
 have X:AI f (List.replicate f.Blocks.length (dflt (.mp .s .bo))) (List.replicate f.Blocks.length (dflt (.mp .s .bo))):=by
  have e:∀k,(List.replicate f.Blocks.length (dflt (.mp .s .bo)):List Lt.Vs).getD k default=default:=fun k=>uV _ _ _
  exact⟨alA,alA,fun k _ _=>e k,fun k _ hk=>absurd (e k) hk,fun k _ hk=>absurd (e k) hk,fun k _ hk=>absurd (e k) hk⟩
 refine uG (fun v=>AI f v.1 v.2.1/\(v.2.2=false->mX f v.1)) (fun v=>Lx (univ f).length v.1+v.2.2.toNat) (fun R v⟨D,F⟩ih=>?_) _ ⟨X,fun e=>by cases e⟩;obtain⟨J,ab,aD⟩:=v;dsimp only at D F ih⊢;refine ifk (fun G=>?_) (fun G=>h _ (F (by grind)));subst G;intro ax;refine au _ y.length (fun j v=>v.2.2.2=(j:Int)/\RI f y (Lx (univ f).length J) j v.1 v.2.1 v.2.2.1) (fun R4 j v hj⟨e,d⟩Y=>?_) (fun R4 v⟨e,d⟩=>?_) _ ⟨rfl,⟨D,fun i hi=>by omega,ai0 _,fun e=>(by cases e),fun _ i hi=>by omega⟩⟩
 rotate_left
 ·obtain⟨ins,outs,ch,v4⟩:=v;dsimp only at e d⊢;subst e;rw[if_neg (by simp)];refine ih _ ⟨d.ai,N6 Q hy d⟩ ?_;dsimp only;have h1:=d.sz
  cases ch with
  |true=>have:=d.s2 rfl;omega
  |false=>grind
 obtain⟨ins,outs,ch,v4⟩:=v;dsimp only at e d⊢;subst e;rw[if_pos (aX hj)];refine⟨ob hj,?_⟩;obtain⟨k,ek,hk⟩:=W j hj;dsimp +instances only [Int.toNat_natCast]
 have ah:k≠0->∃i,i<f.Blocks.length/\nmB f.Blocks k∈toB f.Blocks i/\outs.getD i default≠default:=fun n=>by
  obtain⟨j',aj,T⟩:=hy.pr j hj (by grind);have T:y.getD j default∈(ju f).getD (y.getD j' default).toNat []:=T
  rw[ek]at T;obtain⟨h1,h2,h3⟩:=(zQ Q).1 T;refine⟨_,h1,h3,?_⟩;rw[(d.ai.ok _ h1 (d.dn j' aj)).2];exact q0 _ _
 have E:∀i,i<j->(y.getD i default).toNat<f.Blocks.length:=fun i hi=>by
  grind
 have A:=TW Q hk
 have p:=fun x hx he c hc=>d.step (x:=x) (c:=c) ek hk E hx he hc
 rw[ek];dsimp +instances only [Int.toNat_natCast]
 generalize(iq (ju f)).getD k []=L at A;have av:=d.ai.li
 have aA:=d.ai.lo
 intro J6 Z;have B:∀t,(t=default/\k≠0)\/(okU (univ f) t/\∀v,bf t v=true ↔ (k=0->v∈f.Params.map (·.Name)))->J6 t:=fun t P=>by
  refine Z _ ⟨⟨by omega,by omega⟩,fun am=>?_⟩;refine au _ L.length (fun i v=>v.2=(i:Int)/\((v.1=default/\k≠0/\∀z∈L.take i,outs.getD z.toNat default=default)\/(okU (univ f) v.1/\∀w,bf v.1 w=true ↔ (k=0->w∈f.Params.map (·.Name))/\∀z∈L.take i,outs.getD z.toNat default≠default->bf (outs.getD z.toNat default) w=true))) (fun R8 i v hi⟨e,l⟩S=>?_) (fun R8 v⟨e,l⟩=>?_) _ ⟨rfl,P.imp (fun⟨a,b⟩=>⟨a,b,fun z hz=>(by cases hz)⟩) (fun⟨a,b⟩=>⟨a,fun w=>(b w).trans ⟨fun h=>⟨h,fun z hz=>(by cases hz)⟩,fun h=>h.1⟩⟩)⟩
  ·obtain⟨m,v9⟩:=v;dsimp only at e l⊢;subst e;rw[if_pos (aX hi)];intro az r;dsimp +instances only [Int.toNat_natCast]at r⊢
   have I:L.getD i default∈L:=aQ _ hi
   have tk:=aB L hi
   generalize L.getD i default=z at I tk r⊢;obtain⟨q,ez,hq,_⟩:=(A z).1 I;subst ez;rw[Int.toNat_natCast];refine⟨ob hi,⟨by omega,by omega⟩,?_⟩;have mem:∀U,U∈L.take (i+1) ↔ U∈L.take i\/U=(q:Int):=fun U=>by grind
   refine ifk (fun hc=>⟨⟨by omega,by omega⟩,?_,fun x hx=>?_⟩) (fun hc=>?_)
   ·rcases l with⟨e,_⟩|⟨g,_⟩
    ·exact .inl e
    exact .inr ⟨_,g.okV⟩
   ·have o:outs.getD q default≠default:=fun e=>by grind
    have O:=d.ai.ok q hq (d.ai.on hq o)
    have V:okU (univ f) (outs.getD q default):=by rw[O.2];exact O.1.put (agX hq)
    refine r _ (S _ ⟨ac kQ1,.inr ?_⟩);dsimp only;rcases l with⟨e,n,hno⟩|⟨g,hw⟩
    ·have hx:=hx.1 e
     subst hx;refine⟨V,fun w=>⟨fun hw=>⟨fun e=>absurd e n,fun z hz hs=>?_⟩,fun hw=>?_⟩⟩
     ·rcases(mem z).1 hz with hz|rfl
      ·grind
      exact hw
     exact hw.2 (q:Int) ((mem _).2 (.inr rfl)) o
    have ak:m≠none:=fun e=>by have:=g.isS;grind
    obtain⟨hx1,N⟩:=hx.2 ak;refine⟨XY g (hx1 _ g.okV) N,fun w=>?_⟩;rw[N,aiW,hw];refine⟨fun⟨⟨a,b⟩,c⟩=>⟨a,fun z hz hs=>?_⟩,fun⟨a,b⟩=>⟨⟨a,fun z hz hs=>b z ((mem z).2 (.inl hz)) hs⟩,b (q:Int) ((mem _).2 (.inr rfl)) o⟩⟩;rcases(mem z).1 hz with hz|rfl
    ·grind
    exact c
   have u:outs.getD q default=default:=by
    cases e:outs.getD q default<;>grind
   refine r _ (S _ ⟨ac kQ1,?_⟩);dsimp only;rcases l with⟨e,n,hno⟩|⟨g,hw⟩
   ·refine .inl ⟨e,n,fun z hz=>?_⟩;rcases(mem z).1 hz with hz|rfl
    ·grind
    exact u
   refine .inr ⟨g,fun w=>(hw w).trans ⟨fun⟨a,b⟩=>⟨a,fun z hz hs=>?_⟩,fun⟨a,b⟩=>⟨a,fun z hz hs=>b z ((mem z).2 (.inl hz)) hs⟩⟩⟩;rcases(mem z).1 hz with hz|rfl
   ·grind
   exact absurd u hs
  obtain⟨m,v9⟩:=v;dsimp only at e l⊢;subst e;rw[if_neg (by simp)];rw[ajH]at l;have l:okU (univ f) m/\∀w,bf m w=true ↔ o6 f outs k w:=by
   rcases l with⟨_,n,hno⟩|⟨g,hw⟩
   ·obtain⟨i,h1,h2,h3⟩:=ah n;exact absurd (hno (i:Int) ((A _).2 ⟨i,rfl,h1,h2⟩)) h3
   refine⟨g,fun w=>(hw w).trans ⟨fun⟨a,b⟩=>⟨a,fun i h1 h2 h3=>b (i:Int) ((A _).2 ⟨i,rfl,h1,h2⟩) h3⟩,fun⟨a,b⟩=>⟨a,fun z hz hs=>?_⟩⟩⟩;obtain⟨i,rfl,h1,h2⟩:=(A z).1 hz;exact b i h1 h2 hs
  obtain⟨g,hw⟩:=l;intro ao K;rw[if_neg (by have:=g.isS;cases m<;>grind)];refine K _ ⟨⟨by omega,hk⟩,g.isS,?_⟩;have hx:okU (univ f) (lP m (bkB f k)):=g.put (agV hk)
  have he:∀v,bf (lP m (bkB f k)) v=true ↔ o6 f outs k v\/v∈phB f k:=fun v=>by
   grind [X7]
  have p:=p _ hx he
  have ad:=hx.len
  have ag:=hx.isS
  show aa (α:=Bool) _ _
  intro ae M ay H;have last:∀c,c=(if(ins.getD k default).isNone=true then true else if(!decide ((((ins.getD k default).getD []).length:Int)=(((lP m (bkB f k)).getD []).length:Int)))=true then true else ch)->ae c:=fun c hc=>
   M c ⟨⟨by omega,hk⟩,ag,⟨by omega,by omega⟩,by omega,⟨by omega,by omega⟩,by omega,Y _ ⟨ac kQ1,p c hc⟩⟩
  refine⟨⟨by omega,by omega⟩,?_⟩;by_cases hc:(ins.getD k default).isNone=true
  ·grind
  rw[if_neg hc];have af:ins.getD k default≠default:=fun e=>hc (by grind)
  have aC:=(d.ai.ok k hk af).1.len
  refine⟨⟨by omega,by omega⟩,by omega,?_,H _ ?_⟩
  ·exact ajJ ad kQ1
  dsimp only;refine ifk (fun hd=>last true (by rw[if_neg hc];exact(if_pos hd).symm)) (fun hd=>last ch (by rw[if_neg hc];exact(if_neg hd).symm))
 refine ifk (fun hc=>B _ (.inr ⟨(okU.nil _).put agW,fun v=>?_⟩)) (fun hc=>B _ (.inl ⟨rfl,fun e=>hc (by grind)⟩));have n:k=0:=by grind
 show bf (Cj _ _) v=true ↔ _
 grind [yC,bf,aw]
end Go.Am
end

section
namespace Go.Am
open Go
theorem aeI{n:Int}(h:(Lt.Of n).2=true):(1<=n/\n<=21/\(Lt.Of n).1.Least=2)\/(22<=n/\n<=24/\(Lt.Of n).1.Least=1)\/n=25\/(n=26/\(Lt.Of n).1.Least=1)\/(n=27/\(Lt.Of n).1.Least=2)\/(n=28/\(Lt.Of n).1.Least=2)\/n=29\/(n=30/\(Lt.Of n).1.Least=1)\/n=31\/n=32\/(n=33/\(Lt.Of n).1.Least=1)\/n=34:=by
 by_cases d:1<=n/\n<=21
 ·grind [Lt.Of]
 by_cases c2:22<=n/\n<=24
 ·grind [Lt.Of]
 by_cases b:n=25
 ·omega
 by_cases c:n=26
 ·grind [Lt.Of]
 by_cases a:n=27
 all_goals grind [Lt.Of]
theorem J0(q:Lt.asked)(hp:A8 q)(KK:Bool->Prop)(h:KK (yD q)):CP q KK:=by
 unfold CP;obtain⟨h1,h2,h3,h4⟩:=hp;have hl:=aeI h1
 unfold yD at h;have e:∀J:Bool->Prop,(if q.i.Op=29 then J (decide (q.i.Op=29))else J (decide (q.i.Op=30)))=J (decide (q.i.Op=29\/q.i.Op=30)):=fun J=>by
  grind
 simp only[decide_eq_true_eq];simp only[e,ax,decide_eq_true_eq];refine ifk (fun l=>by grind) (fun l=>?_);rw[if_neg l]at h;refine ifk (fun c2=>by grind) (fun c2=>?_);rw[if_neg c2]at h;refine ifk (fun c3=>by grind) (fun c3=>?_);rw[if_neg c3]at h;refine ifk (fun c4=>by grind) (fun c4=>?_);rw[if_neg c4]at h;refine ifk (fun c5=>by grind) (fun c5=>?_);rw[if_neg c5]at h;refine ifk (fun f=>?_) (fun f=>?_)
 ·rw[if_pos f]at h;exact⟨⟨by omega,by omega⟩,h⟩
 rw[if_neg f]at h;refine ifk (fun k=>by grind) (fun k=>?_);rw[if_neg k]at h;refine ifk (fun g=>?_) (fun g=>?_)
 ·rw[if_pos g]at h;refine⟨⟨by omega,h2⟩,?_⟩
  grind
 rw[if_neg g]at h;refine ifk (fun j=>?_) (fun j=>?_)
 ·rw[if_pos j]at h;refine⟨⟨by omega,h2⟩,?_⟩
  grind
 rw[if_neg j]at h;refine ifk (fun c=>?_) (fun c=>?_)
 ·grind
 rw[if_neg c]at h;refine ifk (fun b=>?_) (fun b=>?_)
 ·rw[if_pos b]at h;exact⟨fun n=>by omega,h⟩
 rw[if_neg b]at h;refine ifk (fun a=>?_) (fun a=>?_)
 ·rw[if_pos a]at h;intro J m
  grind
 rw[if_neg a]at h;refine ifk (fun d=>?_) (fun d=>?_)
 ·rw[if_pos d]at h;intro J m
  grind
 grind
theorem Xu(p:Lt.Program)(f:Lt.Func)(i:Lt.Instr)(hp:A5 p f i)(KK:Lt.asked×Bool->Prop)(h:KK (oV p f i)):U7 p f i KK:=by
 unfold U7;dsimp only;have hp:i.Args.length<=1000000:=hp
 unfold oV at h;intro J j;have c:(lS f i&&i.Args.all fun a=>(fl f a).2)=false->KK (⟨⟨false,[],[],[],[]⟩,⟨0,[],[],[],[],[]⟩,[],[]⟩,false):=fun e=>by rw[if_neg (by grind)]at h;exact h
 have l:J (!((Lt.Of i.Op).2&&(decide ((Lt.Of i.Op).1.Least<=(i.Args.length:Int))&&decide ((i.Args.length:Int)<=(Lt.Of i.Op).1.Most)))):=j _ (by
  dsimp only;refine ifk (fun hc=>c ?_) (fun hc g b=>?_)
  ·grind [lS]
  have hc:(Lt.Of i.Op).2=true/\(Lt.Of i.Op).1.Least<=(i.Args.length:Int)/\(i.Args.length:Int)<=(Lt.Of i.Op).1.Most:=by grind
  obtain⟨o,c2,c3⟩:=hc;have fin:∀d:List UInt8,((!(Lt.Of i.Op).1.Dst||(lK f i.Dst).2)=true)->d=WJ f i->g ⟨p,i,d,[]⟩:=fun d hd e=>b _ (by
   dsimp only;intro hl;have hf:lS f i=true:=by
    grind [lS]
   rw[hf,ajT]at h c;subst e;refine e9 i.Args (fun(q:Lt.asked) (k:Int)=>(k,q)) (fun r q=>(q=⟨p,i,WJ f i,q.args⟩/\(i.Args.all fun a=>(fl f a).2)=(r.all fun a=>(fl f a).2)/\q.args++xm f r=xm f i.Args)) (fun R q k x r hi hx _ ih hq=>?_) (fun R q hq=>?_) _ ⟨rfl,rfl,rfl⟩
   ·obtain⟨n,q2,m⟩:=hq;dsimp only;rw[if_pos (aX hi)];refine⟨ob hi,?_⟩
    grind [Int.toNat_natCast,xm,ai2]
   grind [xm])
  grind [lS,WJ])
 grind
theorem Nu(p:Lt.Program)(f:Lt.Func)(i:Lt.Instr)(hp:ad4 p f i)(KK:Bool->Prop)(h:KK (tg p f i)):G1 p f i KK:=by
 unfold G1;refine⟨hp,ifk (fun hc=>⟨?_,?_⟩) (fun hc=>?_)⟩
 ·have e:(lS f i&&i.Args.all fun a=>(fl f a).2)=true:=by
   grind [oV]
  have b:oV p f i=(⟨p,i,WJ f i,xm f i.Args⟩,true):=by grind [oV]
  rw[b];unfold lS at e;simp only[aiW,decide_eq_true_eq]at e;refine⟨e.1.1,by simp[xm],?_,?_⟩
  all_goals grind [xm]
 all_goals grind [tg,oV]
end Go.Am
end
