/-
  Part 12: AmLay · AmNiceM · AmNice14 · AmNice14b · AmNice14c · AmNice14d · AmG23 · AmG18c · AmG16 · AmG15 · AmG14 · AmLoopE · AmL20 · AmL21 · AmL22 · AmL23 · AmG17 · AmL24 · AmL25 · AmL26.
-/
import Derived.Test.YteooihiebpbaiaaGreatDoorVk11
import Derived.Shelf.Small.Strs
import Derived.Shelf.Small.Wraps
import Derived.Shelf.Strings.Cut
import Derived.Shelf.Strings.Split
import Derived.Test.YteooihiebpbaiaaGreatDoorProg
set_option linter.unusedSimpArgs false
set_option linter.unusedVariables false
set_option linter.unusedSectionVars false
set_option linter.unnecessarySimpa false
open Lt
open Go.Proofs.Tryz
open Go.IntKind (i64)
section
namespace Go.Proofs
open Go.Shelf
def Tryz.lays137_ren:Go.Shelf.Ren:=⟨fun|137=>255|217=>224|266=>241|n=>n,fun|9=>9|5=>5|3=>3|n=>n,fun|n=>n⟩
theorem Tryz.lays137:Go.Proofs.Lays.n137 prog Tryz.lays137_ren:={
 mixed:=by kernel_rfl
 f137:=func255.trans (congrArg some Z0)
 f217:=func224.trans (congrArg some Z0)
 f266:=func241.trans (congrArg some Z0)
 t3:=underlying3
 a3:=isAgg3
 z3:=sizeOf3
 v3:=zeroValue3
 t5:=underlying5
 a5:=isAgg5
 z5:=sizeOf5
 v5:=zeroValue5
 t9:=underlying9
 a9:=isAgg9
 z9:=sizeOf9
 v9:=zeroValue9 }
open Go.RowKit in
theorem Tryz.strings_IndexByte(s:ByteArray)(c:Int)(w:World) :
  Calls prog 255 #[.string s,.int .u8 c] w fun e w'=>e=.returned (.int .i64 (Lib.indexByte s.data.toList c.toNat.toUInt8))/\w'=w:=Any.strings_IndexByte Tryz.lays137 s c w
def Tryz.lays103_ren:Go.Shelf.Ren:=⟨fun|103=>254|210=>267|206=>274|n=>n,fun|9=>9|4=>4|24=>112|3=>3|n=>n,fun|n=>n⟩
theorem Tryz.lays103:Go.Proofs.Lays.n103 prog Tryz.lays103_ren:={
 mixed:=by kernel_rfl
 f103:=func254.trans (congrArg some Z0)
 f206:=func274.trans (congrArg some Z0)
 f210:=func267.trans (congrArg some Z0)
 t3:=underlying3
 a3:=isAgg3
 z3:=sizeOf3
 v3:=zeroValue3
 t4:=underlying4
 a4:=isAgg4
 z4:=sizeOf4
 v4:=zeroValue4
 t9:=underlying9
 a9:=isAgg9
 z9:=sizeOf9
 v9:=zeroValue9
 t24:=underlying112
 a24:=isAgg112
 z24:=sizeOf112
 v24:=zeroValue112 }
open Go.RowKit in
theorem Tryz.strings_CutPrefix(s p:ByteArray)(w:World) :
  Calls prog 254 #[.string s,.string p] w fun e w'=>e=.returned (.tuple #[.string ⟨(Lib.trimPrefix s.data.toList p.data.toList).toArray⟩,.bool (Lib.hasPrefix s.data.toList p.data.toList)])/\w'=w:=Any.strings_CutPrefix Tryz.lays103 s p w
def Tryz.lays145_ren:Go.Shelf.Ren:=⟨fun|145=>81|220=>123|219=>183|217=>224|225=>225|224=>226|267=>227|266=>241|314=>242|n=>n,fun|9=>9|4=>4|59=>143|3=>3|5=>5|46=>273|146=>290|51=>289|n=>n,fun|1=>1|n=>n⟩
theorem Tryz.lays145:Go.Proofs.Lays.n145 prog Tryz.lays145_ren:={
 mixed:=by kernel_rfl
 f145:=func81.trans (congrArg some Z0)
 f217:=func224.trans (congrArg some Z0)
 f219:=func183.trans (congrArg some Z0)
 f220:=func123.trans (congrArg some Z0)
 f224:=func226.trans (congrArg some Z0)
 f225:=func225.trans (congrArg some Z0)
 f266:=func241.trans (congrArg some Z0)
 f267:=func227.trans (congrArg some Z0)
 f314:=func242.trans (congrArg some Z0)
 t3:=underlying3
 a3:=isAgg3
 z3:=sizeOf3
 v3:=zeroValue3
 t4:=underlying4
 a4:=isAgg4
 z4:=sizeOf4
 v4:=zeroValue4
 t5:=underlying5
 a5:=isAgg5
 z5:=sizeOf5
 v5:=zeroValue5
 t9:=underlying9
 a9:=isAgg9
 z9:=sizeOf9
 v9:=zeroValue9
 t46:=underlying273
 a46:=isAgg273
 z46:=sizeOf273
 v46:=zeroValue273
 t51:=underlying289
 a51:=isAgg289
 z51:=sizeOf289
 v51:=zeroValue289
 t59:=underlying143
 a59:=isAgg143
 z59:=sizeOf143
 v59:=zeroValue143
 t146:=underlying290
 a146:=isAgg290
 z146:=sizeOf290
 v146:=zeroValue290
 g1:=by kernel_rfl }
open Go.RowKit Go.Lib in
theorem Tryz.strings_Cut(s sep:ByteArray)(m:Int)(w:World)(hs:s.size < 4294967281)(hm:w.cell? ⟨1,0,none⟩=some (.int .i64 m)) :
  Calls prog 81 #[.string s,.string sep] w fun e w'=>e=.returned (.tuple #[.string ⟨(Lib.cut s.data.toList sep.data.toList).1.toArray⟩,.string ⟨(Lib.cut s.data.toList sep.data.toList).2.1.toArray⟩,.bool (Lib.cut s.data.toList sep.data.toList).2.2])/\∃n,w'=w.drewN n:=Any.strings_Cut Tryz.lays145 s sep m w hs hm
def Tryz.lays146_ren:Go.Shelf.Ren:=⟨fun|146=>80|221=>122|268=>180|138=>181|143=>182|195=>221|197=>222|218=>223|219=>183|260=>240|217=>224|225=>225|224=>226|267=>227|266=>241|314=>242|n=>n,fun|9=>9|31=>57|3=>3|4=>4|0=>0|105=>269|21=>21|5=>5|46=>273|119=>295|139=>298|138=>297|146=>290|51=>289|n=>n,fun|1=>1|3=>2|4=>3|n=>n⟩
theorem Tryz.lays146:Go.Proofs.Lays.n146 prog Tryz.lays146_ren:={
 mixed:=by kernel_rfl
 f138:=func181.trans (congrArg some Z0)
 f143:=func182.trans (congrArg some Z0)
 f146:=func80.trans (congrArg some Z0)
 f195:=func221.trans (congrArg some Z0)
 f197:=func222.trans (congrArg some Z0)
 f217:=func224.trans (congrArg some Z0)
 f218:=func223.trans (congrArg some Z0)
 f219:=func183.trans (congrArg some Z0)
 f221:=func122.trans (congrArg some Z0)
 f224:=func226.trans (congrArg some Z0)
 f225:=func225.trans (congrArg some Z0)
 f260:=func240.trans (congrArg some Z0)
 f266:=func241.trans (congrArg some Z0)
 f267:=func227.trans (congrArg some Z0)
 f268:=func180.trans (congrArg some Z0)
 f314:=func242.trans (congrArg some Z0)
 t0:=underlying0
 a0:=isAgg0
 z0:=sizeOf0
 v0:=zeroValue0
 t3:=underlying3
 a3:=isAgg3
 z3:=sizeOf3
 v3:=zeroValue3
 t4:=underlying4
 a4:=isAgg4
 z4:=sizeOf4
 v4:=zeroValue4
 t5:=underlying5
 a5:=isAgg5
 z5:=sizeOf5
 v5:=zeroValue5
 t9:=underlying9
 a9:=isAgg9
 z9:=sizeOf9
 v9:=zeroValue9
 t21:=underlying21
 a21:=isAgg21
 z21:=sizeOf21
 v21:=zeroValue21
 t31:=underlying57
 a31:=isAgg57
 z31:=sizeOf57
 v31:=zeroValue57
 t46:=underlying273
 a46:=isAgg273
 z46:=sizeOf273
 v46:=zeroValue273
 t51:=underlying289
 a51:=isAgg289
 z51:=sizeOf289
 v51:=zeroValue289
 t105:=underlying269
 a105:=isAgg269
 z105:=sizeOf269
 v105:=zeroValue269
 t119:=underlying295
 a119:=isAgg295
 z119:=sizeOf295
 t138:=underlying297
 a138:=isAgg297
 z138:=sizeOf297
 v138:=zeroValue297
 t139:=underlying298
 a139:=isAgg298
 z139:=sizeOf298
 v139:=zeroValue298
 t146:=underlying290
 a146:=isAgg290
 z146:=sizeOf290
 v146:=zeroValue290
 g1:=by kernel_rfl
 g3:=by kernel_rfl
 g4:=by kernel_rfl }
open Go.RowKit Go.Lib in
theorem Tryz.strings_Split(s sep:ByteArray)(m:Int)(w:World)(hs:s.size < 4294967281)(hm:w.cell? ⟨1,0,none⟩=some (.int .i64 m))(h1:1<=sep.size) :
  Calls prog 80 #[.string s,.string sep] w fun e w'=>
   e=.returned (.slice (some ⟨w.heap.size,0,none⟩) (Lib.countB s sep+1) (Lib.countB s sep+1))/\w'=w.alloc (.cells ((Lib.splitB sep 0 (Lib.countB s sep) s).map Value.string).toArray 9):=Any.strings_Split Tryz.lays146 Z0 s sep m w hs hm h1
end Go.Proofs
end

section
namespace Lt
open Go
def jw:Bool->List (List UInt8)->List UInt8
 |_,[]=>[]
 |b,w::r=>(if b then [32]else [])++w++jw true r
def Ja(c:Int):Bool:=(((decide (97<=c))&&(decide (c<=122)))||((decide (65<=c))&&(decide (c<=90))))||(decide (c=95))
def letter(c:UInt8):Bool:=Ja ((c.toNat:Nat):Int)
def sb(c:UInt8):Bool:=(decide (48<=((c.toNat:Nat):Int)))&&(decide (((c.toNat:Nat):Int)<=57))
def kept(s:List UInt8):Bool:=((decide (s=[110,117,108,108]))||(decide (s=[105,110,116])))||(decide (s=[102,108,111,97,116]))
def vp(c:UInt8):Bool:=letter c||sb c
def Name(s:List UInt8):Bool:=(!decide (s=[])&&decide (s.length<=16)&&letter (s.getD 0 0)&&!kept s)&&s.all vp
def kind(s:List UInt8):Bool:=((decide (s=[105,110,116]))||(decide (s=[102,108,111,97,116])))||Name s
def typed(l:List Var)(most:Int):Bool:=decide ((l.length:Int)<=most)&&l.all fun v=>Name v.Name&&kind v.Type_
def Plain(n:Int):Int:=
 if((decide ((i64.wrap ((BitVec.ofInt i64.bits n &&& BitVec.ofInt i64.bits 9218868437227405312).toNat:Nat))=9218868437227405312))&&(!decide ((i64.wrap ((BitVec.ofInt i64.bits n &&& BitVec.ofInt i64.bits 4503599627370495).toNat:Nat))=0)))=true then 9221120237041090560 else n
def nU(a:Arg):Bool:=
 if a.Kind=1 then Name a.S&&decide (a.N=0)
 else if a.Kind=2 then decide (a.S=[])
 else if a.Kind=3 then decide (a.S=[])&&decide (Plain a.N=a.N)
 else if a.Kind=4 then decide (a.S=[])&&decide (a.N=0)
 else if a.Kind=5 then(decide (a.S=[])&&decide (0<=a.N))&&decide (a.N<=999)
 else false
def gC(objs:Bool)(a:Arg):Bool:=nU a&&!(decide (a.Kind=5)&&!objs)
def dq(l:List Arg)(objs:Bool):Bool:=l.all (gC objs)
def ra(b:Bind):Bool:=Name b.Name&&gC true b.A
def frame(f:Frame):Bool:=(Name f.Func&&Name f.Block&&decide (0<=f.At)&&decide (f.At<=1024)&&decide (f.Vars.length<=16))&&f.Vars.all ra
def virt(o:Virt):Bool:=Name o.Class&&decide (o.Vals.length<=8)&&dq o.Vals true
def LK(l:List UInt8):Nat->Int->Nat->Nat->List UInt8
 |0,_,_,_=>[]
 |k+1,n,f,i=>
  if i<l.length then
   if(((l.getD i 0).toNat:Nat):Int)=32 then
    if i64.wrap (n - 1)=0 then(l.drop (f+1)).take (i - (f+1))else LK l k (i64.wrap (n - 1)) i (i+1)
   else LK l k n f (i+1)
  else []
def nth(l:List UInt8)(n:Int):List UInt8:=LK l (l.length+1) n 0 1
def two:List UInt8:=32::97::100::100::32::115::117::98::32::109::117::108::32::100::105::118::32::114::101::109::32::97::110::100::32::111::114::32::120::111::114::32::115::104::108::32::115::104::114::32::101::113::32::110::101::32::108::116::32::108::101::32::102::97::100::100::32::102::115::117::98::32::102::109::117::108::32::102::100::105::118::32::102::101::113::32::102::108::116::32::102::108::101::32::[]
def Of(op:Int):Form×Bool:=
 if 1<=op/\op<=21 then(⟨nth two op,true,false,2,2⟩,true)
 else if 22<=op/\op<=24 then(⟨nth [32,105,116,111,102,32,102,116,111,105,32,109,111,118,32] (i64.wrap (op - 21)),true,false,1,1⟩,true)
 else if op=25 then(⟨[110,101,119],true,true,0,8⟩,true)
 else if op=26 then(⟨[108,111,97,100],true,true,1,1⟩,true)
 else if op=27 then(⟨[115,116,111,114,101],false,true,2,2⟩,true)
 else if op=28 then(⟨[115,97,109,101],true,false,2,2⟩,true)
 else if op=29 then(⟨[103,108,111,97,100],true,true,0,0⟩,true)
 else if op=30 then(⟨[103,115,116,111,114,101],false,true,1,1⟩,true)
 else if op=31 then(⟨[99,97,108,108],true,true,0,8⟩,true)
 else if op=32 then(⟨[101,120,116],true,true,0,8⟩,true)
 else if op=33 then(⟨[111,117,116],false,false,1,1⟩,true)
 else if op=34 then(⟨[103,117,97,114,100],false,false,0,0⟩,true)
 else(⟨[],false,false,0,0⟩,false)
def instr(i:Instr):Bool:=
 ((Of i.Op).2&&((Of i.Op).1.Dst==!decide (i.Dst=[]))&&((Of i.Op).1.Named==!decide (i.Name=[]))&&!((Of i.Op).1.Dst&&!Name i.Dst)&&!((Of i.Op).1.Named&&!Name i.Name))
 && (decide ((Of i.Op).1.Least<=(i.Args.length:Int))&&decide ((i.Args.length:Int)<=(Of i.Op).1.Most)&&dq i.Args false&&decide (i.Frames.length<=16)&&decide (i.Objs.length<=99))
 && (if i.Op≠31/\i.Op≠34 then decide (i.Frames=[])&&decide (i.Objs=[])else i.Frames.all frame&&i.Objs.all virt)
def zq(i:In):Bool:=Name i.Block&&gC false i.A
def phi(x:Phi):Bool:=(Name x.Dst&&!decide (x.Ins=[])&&decide (x.Ins.length<=256))&&x.Ins.all zq
def Jd(a:Arg):Bool:=decide (a=⟨0,[],0⟩)
def tD(t:Term):Bool:=t.To.all Name &&
 (if t.Kind=1 then Jd t.A&&decide (t.To.length=1)&&decide (t.N=0)
  else if t.Kind=2 then gC false t.A&&decide (t.To.length=2)&&decide (t.N=0)
  else if t.Kind=3 then gC false t.A&&decide (t.To.length=0)&&decide (t.N=0)
  else if t.Kind=4 then Jd t.A&&decide (t.To.length=0)
  else false)
def block(b:Block):Bool:=(Name b.Name&&tD b.End)&&(b.Phis.all phi&&b.Code.all instr)
def blocks:List Block->Nat->Bool
 |[],_=>true
 |b::r,long=>(decide (long+(b.Phis.length+b.Code.length)<=1024)&&block b)&&blocks r (long+(b.Phis.length+b.Code.length))
def dh(f:Func):Bool:=(Name f.Name&&kind f.Result&&typed f.Params 6&&typed f.Vars 1024&&!decide (f.Blocks=[])&&decide (f.Blocks.length<=256))&&blocks f.Blocks 0
def oO(c:Class):Bool:=Name c.Name&&typed c.Fields 8
def jv(x:Extern):Bool:=Name x.Name&&decide (0<=x.N)&&decide (x.N<=8)
def iE(p:Program):Bool:=
 (decide (p.Classes.length<=8)&&decide (p.Externs.length<=8)&&decide (p.Funcs.length<=8)&&typed p.Globals 8) &&
 (p.Classes.all oO&&(p.Externs.all jv&&p.Funcs.all dh))
def digs(n:Nat):List UInt8:=if n < 10 then [UInt8.ofNat (48+n)]else digs (n / 10)++[UInt8.ofNat (48+n % 10)]
def zP(n:Int):List UInt8:=(if n < 0 then [45]else [])++digs n.natAbs
abbrev plus(n:Int)(k:Nat):Int:=i64.wrap (n+(k:Int))
def upto(most n k:Int):Int:=if n<=most then i64.wrap (n+k)else n
def uA(most:Int):List Var->Int->Int
 |[],n=>n
 |v::r,n=>if n<=most then(let m:=plus n v.Name.length;uA most r (if m<=most then plus m v.Type_.length else m))else n
def ce(l:List Var)(most:Int):Int:=if most < (l.length:Int)then i64.wrap (most+1)else uA most l (l.length:Int)
def uz(most:Int):List Arg->Int->Int
 |[],n=>n
 |a::r,n=>if n<=most then uz most r (plus n a.S.length)else n
def dN(l:List Arg)(most:Int):Int:=if most < (l.length:Int)then i64.wrap (most+1)else uz most l (l.length:Int)
def mu(most:Int):List Bind->Int->Int
 |[],n=>n
 |b::r,n=>if n<=most then(let m:=plus (i64.wrap (n+1)) b.Name.length;mu most r (if m<=most then plus m b.A.S.length else m))else n
def jp(most:Int):List Frame->Int->Int
 |[],n=>n
 |f::r,n=>if n<=most then(let m:=plus n f.Func.length;jp most r (mu most f.Vars (if m<=most then plus m f.Block.length else m)))else n
def pO(most:Int):List Virt->Int->Int
 |[],n=>n
 |o::r,n=>if n<=most then(let m:=plus n o.Class.length;pO most r (if m<=most then i64.wrap (m+dN o.Vals most)else m))else n
def eN(x:Instr)(most:Int):Int:=
 if(decide (most < (x.Frames.length:Int)))||(decide (most < (x.Objs.length:Int)))then i64.wrap (most+1)
 else
  pO most x.Objs (jp most x.Frames (upto most (upto most (plus (plus (plus 1 x.Dst.length) x.Frames.length) x.Objs.length) (x.Name.length:Int)) (dN x.Args most)))
def cTo(most:Int):List (List UInt8)->Int->Int
 |[],n=>n
 |t::r,n=>if n<=most then cTo most r (plus (i64.wrap (n+1)) t.length)else n
def BD(most:Int):List In->Int->Int
 |[],n=>n
 |b::r,n=>if n<=most then(let m:=plus (i64.wrap (n+1)) b.Block.length;BD most r (if m<=most then plus m b.A.S.length else m))else n
def pP(most:Int):List Phi->Int->Int
 |[],n=>n
 |x::r,n=>if n<=most then pP most r (BD most x.Ins (plus (i64.wrap (n+1)) x.Dst.length))else n
def n4(most:Int):List Instr->Int->Int
 |[],n=>n
 |x::r,n=>if n<=most then n4 most r (i64.wrap (n+eN x most))else n
def eM(b:Block)(most:Int):Int:=
 if(decide (most < (b.Phis.length:Int)))||(decide (most < (b.Code.length:Int)))||(decide (most < (b.End.To.length:Int)))then i64.wrap (most+1)
 else
  n4 most b.Code (pP most b.Phis (cTo most b.End.To (upto most (plus 1 b.Name.length) (b.End.A.S.length:Int))))
def lq(most:Int):List Block->Int->Int
 |[],n=>n
 |x::r,n=>if n<=most then lq most r (i64.wrap (n+eM x most))else n
def lj(f:Func)(most:Int):Int:=
 if most < (f.Blocks.length:Int)then i64.wrap (most+1)
 else
  lq most f.Blocks (upto most (upto most (upto most (plus 1 f.Name.length) (f.Result.length:Int)) (ce f.Params most)) (ce f.Vars most))
def iM(most:Int):List Class->Int->Int
 |[],n=>n
 |c::r,n=>if n<=most then(let m:=plus n c.Name.length;iM most r (if m<=most then i64.wrap (m+ce c.Fields most)else m))else n
def gE(most:Int):List Extern->Int->Int
 |[],n=>n
 |x::r,n=>if n<=most then gE most r (plus (i64.wrap (n+1)) x.Name.length)else n
def lr(most:Int):List Func->Int->Int
 |[],n=>n
 |x::r,n=>if n<=most then lr most r (i64.wrap (n+lj x most))else n
def Few(p:Program)(most:Int):Bool:=
 if(decide (50 < (p.Classes.length:Int)))||(decide (50 < (p.Externs.length:Int)))||(decide (50 < (p.Funcs.length:Int)))then false
 else decide (lr most p.Funcs (gE most p.Externs (iM most p.Classes (ce p.Globals most)))<=most)
def inR(n:Int):Prop:=-9223372036854775808<=n/\n < 9223372036854775808
def Arg.ok(a:Arg):Prop:=inR a.N
def yX(l:List Arg):Prop:=∀a∈l,a.ok
def Bind.ok(b:Bind):Prop:=b.A.ok
def Frame.ok(f:Frame):Prop:=f.Vars.length<=4611686018427387904/\∀b∈f.Vars,b.ok
def Virt.ok(o:Virt):Prop:=yX o.Vals
def Instr.ok(i:Instr):Prop:=yX i.Args/\(∀f∈i.Frames,f.ok)/\(∀o∈i.Objs,o.ok)
def In.ok(i:In):Prop:=i.A.ok
def Phi.ok(x:Phi):Prop:=x.Ins.length<=4611686018427387904/\∀i∈x.Ins,i.ok
def Term.ok(t:Term):Prop:=t.A.ok/\inR t.N
def Block.ok(b:Block):Prop:=(∀x∈b.Phis,x.ok)/\(∀i∈b.Code,i.ok)/\b.End.ok
def Func.ok(f:Func):Prop:=∀b∈f.Blocks,b.ok
def Program.ok(p:Program):Prop:=∀f∈p.Funcs,f.ok
def room:Nat:=1099511627776
def fZ(n:Int):Prop:=inR n
def j6(a:Arg):Prop:=a.ok
def TI(x:Instr)(most:Int):Prop:=x.ok/\most<=4611686018427387904
def TH(b:Block)(most:Int):Prop:=b.ok/\most<=4611686018427387904
def TJ(f:Func)(most:Int):Prop:=f.ok/\most<=4611686018427387904
def Gg(p:Program)(most:Int):Prop:=p.ok/\most<=4611686018427387904
def Dq(n:Int):Int:=if n < 0 then IntKind.u64.wrap (0 - (IntKind.u64.wrap n))else IntKind.u64.wrap n
def ip(n:Int):List UInt8:=zP n
def Gn(n:Int):Bool:=decide (9218868437227405312 < (Int.tmod (IntKind.u64.wrap n) 9223372036854775808))
def o9(n:Int):Int:=if Gn n=true then 9221120237041090560 else n
def Uy(x:Int):UInt8:=UInt8.ofNat (IntKind.u8.wrap ((IntKind.u8.wrap (Int.tmod x 16))+(if IntKind.u8.wrap (Int.tmod x 16) < 10 then 48 else 87))).toNat
def zo:Nat->Int->List UInt8->List UInt8
 |0,_,l=>l
 |k+1,x,l=>zo k (IntKind.u64.wrap (Int.tdiv x 16)) (Uy x::l)
def LX(n:Int):List UInt8:=[48,102]++zo 16 (IntKind.u64.wrap (o9 n)) []
def rW(i:Nat)(c:UInt8):Bool:=
 !((((!(((decide (48<=((c.toNat:Nat):Int)))&&(decide (((c.toNat:Nat):Int)<=57)))&&(decide (0 < (i:Int)))))&&(!decide (((c.toNat:Nat):Int)=95)))&&((decide (((c.toNat:Nat):Int) < 65))||(decide (90 < ((c.toNat:Nat):Int)))))&&((decide (((c.toNat:Nat):Int) < 97))||(decide (122 < ((c.toNat:Nat):Int)))))
def yp(s:List UInt8):Bool:=((List.range s.length).all fun i=>rW i (s.getD i 0)) &&
 (((((decide (1<=(s.length:Int)))&&(decide ((s.length:Int)<=16)))&&(!decide (s=[110,117,108,108])))&&(!decide (s=[105,110,116])))&&(!decide (s=[102,108,111,97,116])))
def Aa(a:Arg):Bool:=
 if a.Kind=1 then yp a.S&&decide (a.N=0)
 else if(((decide (a.Kind < 1))||(decide (5<a.Kind)))||(!decide (a.S=[])))=true then false
 else(((decide (a.Kind=2))||((decide (a.Kind=3))&&(decide ((o9 a.N)=a.N))))||((decide (a.Kind=4))&&(decide (a.N=0))))||(((decide (a.Kind=5))&&(decide (0<=a.N)))&&(decide (a.N<=999)))
def bK(a:Arg):List UInt8:=
 if Aa a then
  if a.Kind=1 then a.S else if a.Kind=2 then ip a.N else if a.Kind=3 then LX a.N else if a.Kind=4 then [110,117,108,108]else 35::ip a.N
 else []
def rOf(op:Int):RForm×Bool:=
 if op < 1\/34<op then(⟨[],false,false,0,0⟩,false)
 else(⟨Go.Am.gw.getD op.toNat default,(((!decide (op=27))&&(!decide (op=30)))&&(!decide (op=33)))&&(!decide (op=34)),(((decide (op=25))||(decide (op=26)))||(decide (op=27)))||((decide (29<=op))&&(decide (op<=32))),
  if op=22\/op=23\/op=24\/op=26\/op=30\/op=33 then 1 else if op=25\/op=31\/op=32\/op=29\/op=34 then 0 else 2,
  if op=22\/op=23\/op=24\/op=26\/op=30\/op=33 then 1 else if op=25\/op=31\/op=32 then 8 else if op=29\/op=34 then 0 else 2⟩,true)
def lnT(w:List (List UInt8)):List UInt8:=jw false w++[10]
def fL(out:List UInt8)(l:List (List UInt8)):List UInt8:=out++lnT l
def mU(out first:List UInt8)(l:List Var):List UInt8:=out++l.flatMap fun v=>lnT [first,v.Name,v.Type_]
def sO(l:List (List UInt8))(a:List Arg):List (List UInt8):=l++a.map bK
def ql(x:Instr):List (List UInt8):=(if(rOf x.Op).1.Dst then [x.Dst,[61]]else [])++[(rOf x.Op).1.Word]
def ja(x:Instr):List (List UInt8):=
 if(x.Op=26\/x.Op=27)/\x.Args≠[]then ql x++(x.Args.take 1).map bK++[x.Name]++(x.Args.drop 1).map bK
 else ql x++(if(rOf x.Op).1.Named then [x.Name]else [])++x.Args.map bK
def eI(f:Frame):List (List UInt8):=[[97,116],f.Func,f.Block,ip f.At]++f.Vars.flatMap fun b=>[b.Name,bK b.A]
def g8(o:Virt):List (List UInt8):=[[111,98,106],o.Class]++o.Vals.map bK
def j8(x:Instr):List UInt8:=lnT (ja x)++(x.Frames.flatMap fun f=>lnT (eI f))++(x.Objs.flatMap fun o=>lnT (g8 o))
def PB(out:List UInt8)(x:Instr):List UInt8:=out++j8 x
def sP(t:Term):List (List UInt8):=
 [([[],[106,117,109,112],[98,114,97,110,99,104],[114,101,116],[116,114,97,112]]:List (List UInt8)).getD t.Kind.toNat default]++(if t.Kind=2\/t.Kind=3 then [bK t.A]else [])++t.To++(if t.Kind=4 then [ip t.N]else [])
def vV(t:Term):List UInt8:=if t.Kind < 1\/4<t.Kind then []else lnT (sP t)
def PC(out:List UInt8)(t:Term):List UInt8:=out++vV t
def lY(x:Phi):List (List UInt8):=[[112,104,105],x.Dst]++x.Ins.flatMap fun i=>[i.Block,bK i.A]
def im(b:Block):List UInt8:=lnT [[98,108,111,99,107],b.Name]++(b.Phis.flatMap fun x=>lnT (lY x))++b.Code.flatMap j8++vV b.End
def gZ(first:List UInt8)(l:List Var):List UInt8:=l.flatMap fun v=>lnT [first,v.Name,v.Type_]
def lL(f:Func):List UInt8:=lnT [[102,117,110,99],f.Name,f.Result]++gZ [112,97,114,97,109] f.Params++gZ [118,97,114] f.Vars++f.Blocks.flatMap im
def io(c:Class):List UInt8:=lnT [[99,108,97,115,115],c.Name]++gZ [102,105,101,108,100] c.Fields
def i9(x:Extern):List UInt8:=lnT [[101,120,116,101,114,110],x.Name,ip x.N]
def mT(p:Program):List UInt8:=(if p.SSA=true then lnT [[115,115,97]]else [])++p.Classes.flatMap io++gZ [103,108,111,98,97,108] p.Globals++p.Externs.flatMap i9++p.Funcs.flatMap lL
def bu(out:List UInt8)(l:List (List UInt8)):Prop:=out.length+(lnT l).length<=room
def cw(out first:List UInt8)(l:List Var):Prop:=out.length+(gZ first l).length<=room
def mO(l:List (List UInt8))(a:List Arg):Prop:=yX a/\l.length+a.length<=room+room
def Dl(out:List UInt8)(x:Instr):Prop:=x.ok/\(∀f∈x.Frames,inR f.At)/\out.length+(j8 x).length<=room
def vO(out:List UInt8)(t:Term):Prop:=t.ok/\out.length+(vV t).length<=room
def nQ(p:Program):Prop:=p.ok/\(∀e∈p.Externs,inR e.N)/\(∀f∈p.Funcs,∀b∈f.Blocks,∀i∈b.Code,∀r∈i.Frames,inR r.At)/\(mT p).length<=room
def Ou(s:List UInt8)(c:UInt8):Int:=Go.Lib.indexByte s c
def Tu(s p:List UInt8):List UInt8×Bool:=(Go.Lib.trimPrefix s p,Go.Lib.hasPrefix s p)
def VF(s p:List UInt8):List UInt8×List UInt8×Bool:=Go.Lib.cut s p
def zk(s p:List UInt8):List (List UInt8):=(Go.Lib.splitB ⟨p.toArray⟩ 0 (Go.Lib.countB ⟨s.toArray⟩ ⟨p.toArray⟩) ⟨s.toArray⟩).map (·.data.toList)
def UO(s p:List UInt8):Prop:=s.length < 4294967281
def Ps(s p:List UInt8):Prop:=s.length < 4294967281/\1<=p.length
def flt(n:Int):Value:=.iface 82 (.agg #[.int .i64 n])
def fnd{α:Type}[Inhabited α](nm:α->List UInt8)(s:List UInt8):List α->α×Bool
 |[]=>(default,false)
 |x::r=>if nm x=s then(x,true)else fnd nm s r
def bd(p:Program)(s:List UInt8):Class×Bool:=fnd (·.Name) s p.Classes
def o8(p:Program)(s:List UInt8):Func×Bool:=fnd (·.Name) s p.Funcs
def mS(p:Program)(s:List UInt8):Extern×Bool:=fnd (·.Name) s p.Externs
def Gm(l:List Var)(s:List UInt8):Var×Bool:=fnd (·.Name) s l
def fE(p:Program)(s:List UInt8):Var×Bool:=Gm p.Globals s
def qk(p:Program)(c s:List UInt8):Var×Bool:=Gm (bd p c).1.Fields s
def jJ(f:Func)(s:List UInt8):Var×Bool:=if(Gm f.Params s).2=true then((Gm f.Params s).1,true)else Gm f.Vars s
def cR(f:Func)(a:Arg):List UInt8×Bool:=
 if a.Kind=1 then((jJ f a.S).1.Type_,(jJ f a.S).2)
 else if a.Kind=2 then([105,110,116],true)
 else if a.Kind=3 then([102,108,111,97,116],true)
 else if a.Kind=4 then([110,117,108,108],true)
 else([],false)
def lX(t:List UInt8):Bool:=!decide (t=[105,110,116])&&!decide (t=[102,108,111,97,116])
def cF(h w:List UInt8):Bool:=decide (h=w)||(decide (h=[110,117,108,108])&&lX w)
def j7:List (List UInt8)->List Var->Bool
 |[],[]=>true
 |t::l,x::v=>cF t x.Type_&&j7 l v
 |_,_=>false
def Dp(f:Func)(t:Term):Bool:=
 decide (t.Kind=1)||(decide (t.Kind=2)&&(cR f t.A).2&&decide ((cR f t.A).1=[105,110,116]))||(decide (t.Kind=3)&&(cR f t.A).2&&cF (cR f t.A).1 f.Result)||(decide (t.Kind=4)&&decide (10<=t.N))
def j5(l:List (List UInt8)):Bool:=decide l.Nodup
def jc(p:Program)(t:List UInt8):Bool:=!lX t||(bd p t).2
def dg(p:Program)(l:List Var):Bool:=(l.all fun x=>jc p x.Type_)&&j5 (l.map (·.Name))
def il(p:Program):Bool:=
 j5 (p.Classes.map (·.Name))&&j5 (p.Externs.map (·.Name))&&j5 (p.Funcs.map (·.Name))&&dg p p.Globals&&(p.Classes.all fun c=>dg p c.Fields) &&
 p.Funcs.all fun f=>jc p f.Result&&dg p (f.Params++f.Vars)
def kQ(p:Program):Prop:=∀f∈p.Funcs,f.Params.length+f.Vars.length<=1000000
def Jv(a b:List UInt8):Bool:=lX a&&(lX b&&(decide (a=b)||(decide (a=[110,117,108,108])||decide (b=[110,117,108,108]))))
def V5(l:List (List UInt8))(t:List UInt8):Bool:=l.all fun x=>decide (x=t)
def lb(q:asked)(a d:List UInt8):Bool:=V5 q.args a&&decide (q.dst=d)
def Ap(q:asked):Bool:=(bd q.p q.i.Name).2&&(decide (q.dst=q.i.Name)&&(decide (q.args.length=0)||j7 q.args (bd q.p q.i.Name).1.Fields))
def Gh(q:asked):Prop:=0<q.args.length/\q.args.length=q.i.Args.length
def Gi(q:asked):Prop:=q.i.Op≠29->0<q.args.length
def gr(q:asked):Var×Bool:=if(q.i.Args.getD 0 default).Kind=1 then qk q.p (q.args.getD 0 default) q.i.Name else(default,false)
def qG(q:asked):Bool:=if q.i.Op=29 then(fE q.p q.i.Name).2&&decide ((fE q.p q.i.Name).1.Type_=q.dst)else(fE q.p q.i.Name).2&&cF (q.args.getD 0 default) (fE q.p q.i.Name).1.Type_
def tE(q:asked):Bool:=
 if q.i.Op<=14 then lb q [105,110,116] [105,110,116]
 else if q.i.Op<=18 then lb q [102,108,111,97,116] [102,108,111,97,116]
 else if q.i.Op<=21 then lb q [102,108,111,97,116] [105,110,116]
 else if q.i.Op=22 then lb q [105,110,116] [102,108,111,97,116]
 else if q.i.Op=23 then lb q [102,108,111,97,116] [105,110,116]
 else if q.i.Op=24 then cF (q.args.getD 0 default) q.dst
 else if q.i.Op=25 then Ap q
 else if q.i.Op=26 then(gr q).2&&decide ((gr q).1.Type_=q.dst)
 else if q.i.Op=27 then(gr q).2&&cF (q.args.getD 1 default) (gr q).1.Type_
 else if q.i.Op=28 then decide (q.dst=[105,110,116])&&Jv (q.args.getD 0 default) (q.args.getD 1 default)
 else if q.i.Op=29\/q.i.Op=30 then qG q
 else if q.i.Op=31 then(o8 q.p q.i.Name).2&&(j7 q.args (o8 q.p q.i.Name).1.Params&&decide (q.dst=(o8 q.p q.i.Name).1.Result))
 else if q.i.Op=32 then(mS q.p q.i.Name).2&&(decide ((q.args.length:Int)=(mS q.p q.i.Name).1.N)&&lb q [105,110,116] [105,110,116])
 else if q.i.Op=33 then !lX (q.args.getD 0 default)
 else true
def vQ(q:asked):Prop:=(Of q.i.Op).2=true/\q.args.length=q.i.Args.length/\(Of q.i.Op).1.Least<=(q.args.length:Int)/\(q.args.length:Int)<=(Of q.i.Op).1.Most
def mD(f:Func)(i:Instr):Bool:=
 (Of i.Op).2&&(decide ((Of i.Op).1.Least<=(i.Args.length:Int))&&(decide ((i.Args.length:Int)<=(Of i.Op).1.Most)&&(!(Of i.Op).1.Dst||(jJ f i.Dst).2)))
def mm(f:Func)(l:List Arg):List (List UInt8):=l.map fun a=>(cR f a).1
def EY(f:Func)(i:Instr):List UInt8:=if(Of i.Op).1.Dst=true then(jJ f i.Dst).1.Type_ else []
def m6(p:Program)(f:Func)(i:Instr):asked×Bool:=
 if(mD f i&&i.Args.all fun a=>(cR f a).2)=true then(⟨p,i,EY f i,mm f i.Args⟩,true)else(default,false)
def vL(_:Program)(_:Func)(i:Instr):Prop:=i.Args.length<=1000000
def TL:=vL
def ph(p:Program)(f:Func)(i:Instr):Bool:=(m6 p f i).2&&tE (m6 p f i).1
def Pt(_:Program)(f:Func):Prop:=∀b∈f.Blocks,∀i∈b.Code,i.Args.length<=1000000
abbrev nmB(B:List Block)(i:Nat):List UInt8:=(B.getD i default).Name
abbrev toB(B:List Block)(i:Nat):List (List UInt8):=(B.getD i default).End.To
inductive Rc (B:List Block):Nat->Prop
 |first:0<B.length->Rc B 0
 |next (i k:Nat):Rc B i->i<B.length->k<B.length->nmB B k∈toB B i->Rc B k
structure Gd (B:List Block):Prop where
 ps:0<B.length
 nd:∀i j,i<B.length->j<B.length->nmB B i=nmB B j->i=j
 tn:∀i,i<B.length->(toB B i).Nodup
 tr:∀i,i<B.length->∀s∈toB B i,∃k,k<B.length/\k≠0/\nmB B k=s
 re:∀k,k<B.length->Rc B k
noncomputable def Lb(P:Prop):Bool:=@decide P (Classical.propDecidable P)
theorem rF{P:Prop}(h:P):Lb P=true:=@decide_eq_true P (Classical.propDecidable P) h
theorem Fa{P:Prop}(h:¬ P):Lb P=false:=@decide_eq_false P (Classical.propDecidable P) h
theorem I7{P:Prop}:Lb P=true ↔ P:=@decide_eq_true_iff P (Classical.propDecidable P)
def Pq(f:Func):Prop:=f.Blocks.length<=1000000/\∀b∈f.Blocks,b.End.To.length<=1000000
noncomputable def iq(f:Func):Bool:=Lb (Gd f.Blocks)
def jH(s:List UInt8):List Block->Int->Int×Bool
 |[],_=>(0,false)
 |b::r,i=>if b.Name=s then(i,true)else jH s r (i+1)
def ir(f:Func)(s:List UInt8):Int×Bool:=jH s f.Blocks 0
def wM{α:Type}[DecidableEq α](v:α):List α->Int->Int
 |[],_=>-1
 |x::r,i=>if v=x then i else wM v r (i+1)
def Cv(l:List Int)(v:Int):Int:=wM v l 0
def uZ(l:List Int)(v:Int):Bool:=decide (0<=Cv l v)
def Cw(l:List (List UInt8))(v:List UInt8):Int:=wM v l 0
def rE(l:List (List UInt8))(v:List UInt8):Bool:=decide (0<=Cw l v)
def qg(f:Func):Prop:=f.Blocks.length<=1000000/\∀b∈f.Blocks,b.End.To.length<=1000000
def fX(f:Func)(s:List UInt8):Option Int:=if(ir f s).2=true then some (ir f s).1 else none
def gM(f:Func):List (List Int):=f.Blocks.map fun b=>b.End.To.filterMap (fX f)
def qh(g:List (List Int)):Prop:=g.length<=1000000/\∀l∈g,l.length<=1000000
def zW(g:List (List Int))(k:Nat):List Int:=((List.range g.length).filter fun i=>decide ((k:Int)∈g.getD i [])).map fun(i:Nat)=>(i:Int)
def fA(g:List (List Int)):List (List Int):=(List.range g.length).map (zW g)
def vN(g:List (List Int)):Prop:=qh g/\0<g.length/\∀l∈g,∀k∈l,0<=k/\k < (g.length:Int)
inductive Gr (g:List (List Int)):Nat->Prop
 |first:Gr g 0
 |next (i k:Nat):Gr g i->(k:Int)∈g.getD i []->Gr g k
structure Od (g:List (List Int)) (l:List Int):Prop where
 lt:∀k∈l,0<=k/\k < (g.length:Int)
 all:∀k,Gr g k->(k:Int)∈l
 nd:l.Nodup
 pr:∀i,i<l.length->l.getD i 0≠0->∃j,j<i/\l.getD i 0∈g.getD (l.getD j 0).toNat []
def yl(g:List (List Int))(l:List Int):Prop:=Od g l
abbrev Vs:=Option (List (List UInt8×Bool))
def aT(s:Vs)(v:List UInt8):Bool:=((Go.Am.am .s (s.getD []) v).getD false)
def okV(s:Vs)(n:Nat):Prop:=∃l,s=some l/\(l.map (·.1)).Nodup/\(∀x∈l,x.2=true)/\l.length<=n
def w6(s:Vs)(l:List (List UInt8)):Vs:=some (l.foldl (fun m v=>Go.Am.br .s m v true) (s.getD []))
def Bw(f:Func):Vs:=w6 (some []) (f.Params.map (·.Name))
def sN(s:Vs)(_:Block):Prop:=s.isSome=true
def jQ(s:Vs)(b:Block):Vs:=w6 s (b.Phis.map (·.Dst))
def dZ(b:Block):List (List UInt8):=(b.Code.map (·.Dst)).filter fun d=>!decide (d=[])
def fP(s:Vs)(b:Block):Vs:=w6 s (dZ b)
def Jm(a b:Vs):Prop:=a=none\/∃n,okV a n
def Dj(a b y:Vs):Prop:=(a=none->y=b)/\(a≠none->(∀n,okV a n->okV y n)/\∀v,aT y v=(aT a v&&aT b v))
abbrev bkB(f:Func)(i:Nat):Block:=f.Blocks.getD i default
abbrev phB(f:Func)(i:Nat):List (List UInt8):=(bkB f i).Phis.map (·.Dst)
inductive Bare (f:Func) (v:List UInt8):Nat->Prop
 |first:v ∉ f.Params.map (·.Name)->Bare f v 0
 |next (i k:Nat):Bare f v i->v ∉ phB f i->v ∉ dZ (bkB f i)->i<f.Blocks.length->k<f.Blocks.length->nmB f.Blocks k∈toB f.Blocks i->Bare f v k
def qf(f:Func):Prop:=qg f/\Gd f.Blocks/\f.Params.length<=1000000/\∀b∈f.Blocks,b.Phis.length<=1000000/\b.Code.length<=1000000
def qe(f:Func)(y:List Vs):Prop:=y.length=f.Blocks.length/\∀k,k<f.Blocks.length->(y.getD k none).isSome=true/\∀v,aT (y.getD k none) v=true ↔ (¬ Bare f v k\/v∈phB f k)
def sA(i:Instr)(v:List UInt8):Prop:=(∃a∈i.Args,a.Kind=1/\a.S=v)\/(∃f∈i.Frames,∃b∈f.Vars,b.A.Kind=1/\b.A.S=v)\/∃o∈i.Objs,∃a∈o.Vals,a.Kind=1/\a.S=v
def P1(i:Instr):Nat:=i.Args.length+(i.Frames.map fun f=>f.Vars.length).sum+(i.Objs.map fun o=>o.Vals.length).sum
def fD(i:Instr):Prop:=P1 i<=1000000
def iZ(s:Vs):Prop:=s.isSome=true/\(s.getD []).length<=1000000
def Dk(i:Instr)(l:List (List UInt8)):Prop:=∀v,v∈l ↔ sA i v
def fY(s:Vs)(l:List (List UInt8)):Prop:=∀v,v∈l ↔ v∈(s.getD []).map (·.1)
def lS(P:List UInt8->Prop)(b:Block):Prop:=(∀j,j<b.Code.length->∀v,sA (b.Code.getD j default) v->P v\/v∈((b.Code.take j).map (·.Dst)).filter fun d=>!decide (d=[]))/\((b.End.Kind=2\/b.End.Kind=3)->b.End.A.Kind=1->P b.End.A.S\/b.End.A.S∈dZ b)
def Po(s:Vs)(b:Block):Prop:=s.isSome=true/\∀x∈b.Code,fD x
noncomputable def jm(s:Vs)(b:Block):Bool:=Lb (lS (fun v=>aT s v=true) b)
def oV(to:List UInt8)(s:List UInt8):List Block->Bool
 |[]=>false
 |b::r=>if b.Name=s then rE b.End.To to else oV to s r
def nu(f:Func)(s to:List UInt8):Bool:=oV to s f.Blocks
def lW(f:Func)(o:Option (List (List UInt8×Vs)))(b:Block)(i:In):Bool:=!((Go.Am.am .s (o.getD []) i.Block).isSome&&nu f i.Block b.Name)||(!decide (i.A.Kind=1)||aT ((Go.Am.am .s (o.getD []) i.Block).getD none) i.A.S)
def q7(f:Func)(o:Option (List (List UInt8×Vs))):Bool:=f.Blocks.all fun b=>b.Phis.all fun x=>x.Ins.all (lW f o b)
def Pp(f:Func):Prop:=qf f/\∀b∈f.Blocks,∀x∈b.Code,fD x
def IG(f:Func)(k:Nat)(v:List UInt8):Prop:=(¬ Bare f v k\/v∈phB f k)\/v∈dZ (bkB f k)
def oF(f:Func):Prop:=∀b∈f.Blocks,∀x∈b.Phis,∀i∈x.Ins,∀k,k<f.Blocks.length->nmB f.Blocks k=i.Block->b.Name∈toB f.Blocks k->i.A.Kind=1->IG f k i.A.S
noncomputable def ln(f:Func):Bool:=Lb ((∀k,k<f.Blocks.length->lS (fun v=>¬ Bare f v k\/v∈phB f k) (bkB f k))/\oF f)
def LU(p:Program):Prop:=kQ p/\∀f∈p.Funcs,Pt p f/\qg f/\f.Params.length<=1000000/\(∀b∈f.Blocks,b.Phis.length<=1000000/\b.Code.length<=1000000)/\∀b∈f.Blocks,∀x∈b.Code,fD x
end Lt
end

section
namespace Go.Am
open Go
def sk(a0_l:List Lt.Var)(a1_most:Int)(KK:Int->Prop):Prop:=
 (a0_l.length<=4611686018427387904->if(decide (a1_most < (a0_l.length:Int)))=true then(KK (i64.wrap (a1_most+1)))else((a0_l.length<=4611686018427387904->ac (α:=Int×Int) (fun R1 v2=>aa (α:=Bool) (fun J3=>(a0_l.length<=4611686018427387904->if(decide (v2.2 < (a0_l.length:Int)))=true then(J3 (decide (v2.1<=a1_most)))else(J3 false))) (fun v4=>if v4=true then(aa (α:=Int) (fun J5=>((0:Int)<=v2.2/\v2.2.toNat<a0_l.length)/\(((a0_l.getD v2.2.toNat default).Name).length<=4611686018427387904->if(decide ((i64.wrap (v2.1+(((a0_l.getD v2.2.toNat default).Name).length:Int)))<=a1_most))=true then(((0:Int)<=v2.2/\v2.2.toNat<a0_l.length)/\(((a0_l.getD v2.2.toNat default).Type_).length<=4611686018427387904->J5 (i64.wrap ((i64.wrap (v2.1+(((a0_l.getD v2.2.toNat default).Name).length:Int)))+(((a0_l.getD v2.2.toNat default).Type_).length:Int)))))else(J5 (i64.wrap (v2.1+(((a0_l.getD v2.2.toNat default).Name).length:Int)))))) (fun v6=>R1 (v6,(i64.wrap (v2.2+1)))))else(KK v2.1))) ((a0_l.length:Int),0))))
def si(a0_l:List Lt.Arg)(a1_most:Int)(KK:Int->Prop):Prop:=
 (a0_l.length<=4611686018427387904->if(decide (a1_most < (a0_l.length:Int)))=true then(KK (i64.wrap (a1_most+1)))else((a0_l.length<=4611686018427387904->ac (α:=Int×Int) (fun R1 v2=>aa (α:=Bool) (fun J3=>(a0_l.length<=4611686018427387904->if(decide (v2.2 < (a0_l.length:Int)))=true then(J3 (decide (v2.1<=a1_most)))else(J3 false))) (fun v4=>if v4=true then(((0:Int)<=v2.2/\v2.2.toNat<a0_l.length)/\(((a0_l.getD v2.2.toNat default).S).length<=4611686018427387904->R1 ((i64.wrap (v2.1+(((a0_l.getD v2.2.toNat default).S).length:Int))),(i64.wrap (v2.2+1)))))else(KK v2.1))) ((a0_l.length:Int),0))))
def pC(a0_x:Lt.Instr)(a1_most:Int)(KK:Int->Prop):Prop:=
 have z2:=(i64.wrap ((i64.wrap ((i64.wrap (1+(a0_x.Dst.length:Int)))+(a0_x.Frames.length:Int)))+(a0_x.Objs.length:Int)));aa (α:=Bool) (fun J1=>(a0_x.Frames.length<=4611686018427387904->if(decide (a1_most < (a0_x.Frames.length:Int)))=true then(J1 true)else(J1 (decide (a1_most < (a0_x.Objs.length:Int)))))) (fun v2=>if v2=true then(KK (i64.wrap (a1_most+1)))else((a0_x.Dst.length<=4611686018427387904->(a0_x.Frames.length<=4611686018427387904->(a0_x.Objs.length<=4611686018427387904->aa (α:=Int) (fun J3=>if(decide (z2<=a1_most))=true then((a0_x.Name.length<=4611686018427387904->J3 (i64.wrap (z2+(a0_x.Name.length:Int)))))else(J3 z2)) (fun v4=>aa (α:=Int) (fun J5=>if(decide (v4<=a1_most))=true then(J5 (i64.wrap (v4+(dN a0_x.Args a1_most))))else(J5 v4)) (fun v6=>ac (α:=Int×Int) (fun R7 v8=>have z4:=((0:Int)<=v8.2/\v8.2.toNat<a0_x.Frames.length);have z1:=a0_x.Frames.getD v8.2.toNat default;have z6:=(i64.wrap (v8.1+((z1.Func).length:Int)));aa (α:=Bool) (fun J9=>(a0_x.Frames.length<=4611686018427387904->if(decide (v8.2 < (a0_x.Frames.length:Int)))=true then(J9 (decide (v8.1<=a1_most)))else(J9 false))) (fun v10=>if v10=true then(z4/\((z1.Func).length<=4611686018427387904->aa (α:=Int) (fun J11=>if(decide (z6<=a1_most))=true then(z4/\((z1.Block).length<=4611686018427387904->J11 (i64.wrap (z6+((z1.Block).length:Int)))))else(J11 z6)) (fun v12=>ac (α:=Int×Int) (fun R13 v14=>have z7:=(z1.Vars).getD v14.2.toNat default;have z3:=(i64.wrap ((i64.wrap (v14.1+1))+((z7.Name).length:Int)));aa (α:=Bool) (fun J15=>z4/\((z1.Vars).length<=4611686018427387904->if(decide (v14.2 < ((z1.Vars).length:Int)))=true then(J15 (decide (v14.1<=a1_most)))else(J15 false))) (fun v16=>if v16=true then(aa (α:=Int) (fun J17=>z4/\((0:Int)<=v14.2/\v14.2.toNat < (z1.Vars).length)/\((z7.Name).length<=4611686018427387904->if(decide (z3<=a1_most))=true then(z4/\((0:Int)<=v14.2/\v14.2.toNat < (z1.Vars).length)/\(((z7.A).S).length<=4611686018427387904->J17 (i64.wrap (z3+(((z7.A).S).length:Int)))))else(J17 z3))) (fun v18=>R13 (v18,(i64.wrap (v14.2+1)))))else(R7 (v14.1,(i64.wrap (v8.2+1)))))) (v12,0))))else(ac (α:=Int×Int) (fun R19 v20=>have z8:=a0_x.Objs.getD v20.2.toNat default;have z5:=(i64.wrap (v20.1+((z8.Class).length:Int)));aa (α:=Bool) (fun J21=>(a0_x.Objs.length<=4611686018427387904->if(decide (v20.2 < (a0_x.Objs.length:Int)))=true then(J21 (decide (v20.1<=a1_most)))else(J21 false))) (fun v22=>if v22=true then(aa (α:=Int) (fun J23=>((0:Int)<=v20.2/\v20.2.toNat<a0_x.Objs.length)/\((z8.Class).length<=4611686018427387904->if(decide (z5<=a1_most))=true then(((0:Int)<=v20.2/\v20.2.toNat<a0_x.Objs.length)/\J23 (i64.wrap (z5+(dN (z8.Vals) a1_most))))else(J23 z5))) (fun v24=>R19 (v24,(i64.wrap (v20.2+1)))))else(KK v20.1))) (v8.1,0)))) (v6,0))))))))
def pB(a0_b:Lt.Block)(a1_most:Int)(KK:Int->Prop):Prop:=
 have z5:=(i64.wrap (1+(a0_b.Name.length:Int)));aa (α:=Bool) (fun J1=>(a0_b.Phis.length<=4611686018427387904->if(decide (a1_most < (a0_b.Phis.length:Int)))=true then(J1 true)else(if(decide (a1_most < (a0_b.Code.length:Int)))=true then(J1 true)else(J1 (decide (a1_most < (a0_b.End.To.length:Int))))))) (fun v2=>if v2=true then(KK (i64.wrap (a1_most+1)))else((a0_b.Name.length<=4611686018427387904->aa (α:=Int) (fun J3=>if(decide (z5<=a1_most))=true then((a0_b.End.A.S.length<=4611686018427387904->J3 (i64.wrap (z5+(a0_b.End.A.S.length:Int)))))else(J3 z5)) (fun v4=>ac (α:=Int×Int) (fun R5 v6=>aa (α:=Bool) (fun J7=>(a0_b.End.To.length<=4611686018427387904->if(decide (v6.2 < (a0_b.End.To.length:Int)))=true then(J7 (decide (v6.1<=a1_most)))else(J7 false))) (fun v8=>if v8=true then(((0:Int)<=v6.2/\v6.2.toNat<a0_b.End.To.length)/\((a0_b.End.To.getD v6.2.toNat default).length<=4611686018427387904->R5 ((i64.wrap ((i64.wrap (v6.1+1))+((a0_b.End.To.getD v6.2.toNat default).length:Int))),(i64.wrap (v6.2+1)))))else(ac (α:=Int×Int) (fun R9 v10=>have z3:=((0:Int)<=v10.2/\v10.2.toNat<a0_b.Phis.length);have z1:=a0_b.Phis.getD v10.2.toNat default;aa (α:=Bool) (fun J11=>(a0_b.Phis.length<=4611686018427387904->if(decide (v10.2 < (a0_b.Phis.length:Int)))=true then(J11 (decide (v10.1<=a1_most)))else(J11 false))) (fun v12=>if v12=true then(z3/\((z1.Dst).length<=4611686018427387904->ac (α:=Int×Int) (fun R13 v14=>have z4:=(z1.Ins).getD v14.2.toNat default;have z2:=(i64.wrap ((i64.wrap (v14.1+1))+((z4.Block).length:Int)));aa (α:=Bool) (fun J15=>z3/\((z1.Ins).length<=4611686018427387904->if(decide (v14.2 < ((z1.Ins).length:Int)))=true then(J15 (decide (v14.1<=a1_most)))else(J15 false))) (fun v16=>if v16=true then(aa (α:=Int) (fun J17=>z3/\((0:Int)<=v14.2/\v14.2.toNat < (z1.Ins).length)/\((z4.Block).length<=4611686018427387904->if(decide (z2<=a1_most))=true then(z3/\((0:Int)<=v14.2/\v14.2.toNat < (z1.Ins).length)/\(((z4.A).S).length<=4611686018427387904->J17 (i64.wrap (z2+(((z4.A).S).length:Int)))))else(J17 z2))) (fun v18=>R13 (v18,(i64.wrap (v14.2+1)))))else(R9 (v14.1,(i64.wrap (v10.2+1)))))) ((i64.wrap ((i64.wrap (v10.1+1))+((z1.Dst).length:Int))),0)))else(ac (α:=Int×Int) (fun R19 v20=>aa (α:=Bool) (fun J21=>(a0_b.Code.length<=4611686018427387904->if(decide (v20.2 < (a0_b.Code.length:Int)))=true then(J21 (decide (v20.1<=a1_most)))else(J21 false))) (fun v22=>if v22=true then(((0:Int)<=v20.2/\v20.2.toNat<a0_b.Code.length)/\(TI (a0_b.Code.getD v20.2.toNat default) a1_most)/\R19 ((i64.wrap (v20.1+(eN (a0_b.Code.getD v20.2.toNat default) a1_most))),(i64.wrap (v20.2+1))))else(KK v20.1))) (v10.1,0)))) (v6.1,0)))) (v4,0)))))
def xm(a0_f:Lt.Func)(a1_most:Int)(KK:Int->Prop):Prop:=
 have z3:=(i64.wrap (1+(a0_f.Name.length:Int)));(a0_f.Blocks.length<=4611686018427387904->if(decide (a1_most < (a0_f.Blocks.length:Int)))=true then(KK (i64.wrap (a1_most+1)))else((a0_f.Name.length<=4611686018427387904->aa (α:=Int) (fun J1=>if(decide (z3<=a1_most))=true then((a0_f.Result.length<=4611686018427387904->J1 (i64.wrap (z3+(a0_f.Result.length:Int)))))else(J1 z3)) (fun v2=>aa (α:=Int) (fun J3=>if(decide (v2<=a1_most))=true then(J3 (i64.wrap (v2+(ce a0_f.Params a1_most))))else(J3 v2)) (fun v4=>aa (α:=Int) (fun J5=>if(decide (v4<=a1_most))=true then(J5 (i64.wrap (v4+(ce a0_f.Vars a1_most))))else(J5 v4)) (fun v6=>ac (α:=Int×Int) (fun R7 v8=>have z1:=a0_f.Blocks.getD v8.2.toNat default;have z2:=Lt.Block.mk (z1.Name) (z1.Phis) (z1.Code) (Lt.Term.mk ((z1.End).Kind) ((z1.End).A) ((z1.End).To) ((z1.End).N));aa (α:=Bool) (fun J9=>(a0_f.Blocks.length<=4611686018427387904->if(decide (v8.2 < (a0_f.Blocks.length:Int)))=true then(J9 (decide (v8.1<=a1_most)))else(J9 false))) (fun v10=>if v10=true then(((0:Int)<=v8.2/\v8.2.toNat<a0_f.Blocks.length)/\(TH z2 a1_most)/\R7 ((i64.wrap (v8.1+(eM z2 a1_most))),(i64.wrap (v8.2+1))))else(KK v8.1))) (v6,0)))))))
def S8(a0_p:Lt.Program)(a1_most:Int)(KK:Bool->Prop):Prop:=
 aa (α:=Bool) (fun J1=>(a0_p.Classes.length<=4611686018427387904->if(decide (50 < (a0_p.Classes.length:Int)))=true then(J1 true)else(if(decide (50 < (a0_p.Externs.length:Int)))=true then(J1 true)else(J1 (decide (50 < (a0_p.Funcs.length:Int))))))) (fun v2=>if v2=true then(KK false)else(ac (α:=Int×Int) (fun R3 v4=>have z2:=a0_p.Classes.getD v4.2.toNat default;have z1:=(i64.wrap (v4.1+((z2.Name).length:Int)));aa (α:=Bool) (fun J5=>(a0_p.Classes.length<=4611686018427387904->if(decide (v4.2 < (a0_p.Classes.length:Int)))=true then(J5 (decide (v4.1<=a1_most)))else(J5 false))) (fun v6=>if v6=true then(aa (α:=Int) (fun J7=>((0:Int)<=v4.2/\v4.2.toNat<a0_p.Classes.length)/\((z2.Name).length<=4611686018427387904->if(decide (z1<=a1_most))=true then(((0:Int)<=v4.2/\v4.2.toNat<a0_p.Classes.length)/\J7 (i64.wrap (z1+(ce (z2.Fields) a1_most))))else(J7 z1))) (fun v8=>R3 (v8,(i64.wrap (v4.2+1)))))else(ac (α:=Int×Int) (fun R9 v10=>aa (α:=Bool) (fun J11=>(a0_p.Externs.length<=4611686018427387904->if(decide (v10.2 < (a0_p.Externs.length:Int)))=true then(J11 (decide (v10.1<=a1_most)))else(J11 false))) (fun v12=>if v12=true then(((0:Int)<=v10.2/\v10.2.toNat<a0_p.Externs.length)/\(((a0_p.Externs.getD v10.2.toNat default).Name).length<=4611686018427387904->R9 ((i64.wrap ((i64.wrap (v10.1+1))+(((a0_p.Externs.getD v10.2.toNat default).Name).length:Int))),(i64.wrap (v10.2+1)))))else(ac (α:=Int×Int) (fun R13 v14=>aa (α:=Bool) (fun J15=>(a0_p.Funcs.length<=4611686018427387904->if(decide (v14.2 < (a0_p.Funcs.length:Int)))=true then(J15 (decide (v14.1<=a1_most)))else(J15 false))) (fun v16=>if v16=true then(((0:Int)<=v14.2/\v14.2.toNat<a0_p.Funcs.length)/\(TJ (a0_p.Funcs.getD v14.2.toNat default) a1_most)/\R13 ((i64.wrap (v14.1+(lj (a0_p.Funcs.getD v14.2.toNat default) a1_most))),(i64.wrap (v14.2+1))))else(KK (decide (v14.1<=a1_most))))) (v10.1,0)))) (v4.1,0)))) ((ce a0_p.Globals a1_most),0)))
def AM(a0_c:UInt8)(KK:Bool->Prop):Prop:=
 aa (α:=Bool) (fun J1=>if(decide ((((97:UInt8).toNat:Nat):Int)<=((a0_c.toNat:Nat):Int)))=true then(if(decide (((a0_c.toNat:Nat):Int)<=(((122:UInt8).toNat:Nat):Int)))=true then(J1 true)else(if(decide ((((65:UInt8).toNat:Nat):Int)<=((a0_c.toNat:Nat):Int)))=true then(if(decide (((a0_c.toNat:Nat):Int)<=(((90:UInt8).toNat:Nat):Int)))=true then(J1 true)else(J1 (decide (((a0_c.toNat:Nat):Int)=(((95:UInt8).toNat:Nat):Int)))))else(J1 (decide (((a0_c.toNat:Nat):Int)=(((95:UInt8).toNat:Nat):Int))))))else(if(decide ((((65:UInt8).toNat:Nat):Int)<=((a0_c.toNat:Nat):Int)))=true then(if(decide (((a0_c.toNat:Nat):Int)<=(((90:UInt8).toNat:Nat):Int)))=true then(J1 true)else(J1 (decide (((a0_c.toNat:Nat):Int)=(((95:UInt8).toNat:Nat):Int)))))else(J1 (decide (((a0_c.toNat:Nat):Int)=(((95:UInt8).toNat:Nat):Int)))))) (fun v2=>KK v2)
def MQ(a0_s:List UInt8)(KK:Bool->Prop):Prop:=
 aa (α:=Bool) (fun J1=>if(decide (a0_s=[110,117,108,108]))=true then(J1 true)else(if(decide (a0_s=[105,110,116]))=true then(J1 true)else(J1 (decide (a0_s=[102,108,111,97,116]))))) (fun v2=>KK v2)
def sr(a0_c:UInt8)(KK:Bool->Prop):Prop:=
 if(decide ((((48:UInt8).toNat:Nat):Int)<=((a0_c.toNat:Nat):Int)))=true then(KK (decide (((a0_c.toNat:Nat):Int)<=(((57:UInt8).toNat:Nat):Int))))else(KK false)
def MM(a0_s:List UInt8)(KK:Bool->Prop):Prop:=
 aa (α:=Bool) (fun J1=>if(decide (a0_s=([]:List UInt8)))=true then(J1 true)else(if(decide (16 < (a0_s.length:Int)))=true then(J1 true)else(((0:Int)<=0/\0<a0_s.length)/\if(!(Lt.letter (a0_s.getD 0 0)))=true then(J1 true)else(J1 (Lt.kept a0_s))))) (fun v2=>if v2=true then(KK false)else((a0_s.length<=4611686018427387904->ac (α:=Int) (fun R3 v4=>if(decide (v4 < (a0_s.length:Int)))=true then(aa (α:=Bool) (fun J5=>((0:Int)<=v4/\v4.toNat<a0_s.length)/\if(!(Lt.letter (a0_s.getD v4.toNat 0)))=true then(((0:Int)<=v4/\v4.toNat<a0_s.length)/\J5 (!(sb (a0_s.getD v4.toNat 0))))else(J5 false)) (fun v6=>if v6=true then(KK false)else(R3 (i64.wrap (v4+1)))))else(KK true)) 0)))
def MR(a0_s:List UInt8)(KK:Bool->Prop):Prop:=
 aa (α:=Bool) (fun J1=>if(decide (a0_s=[105,110,116]))=true then(J1 true)else(if(decide (a0_s=[102,108,111,97,116]))=true then(J1 true)else(J1 (Lt.Name a0_s)))) (fun v2=>KK v2)
def Io(a0_l:List Lt.Var)(a1_most:Int)(KK:Bool->Prop):Prop:=
 (a0_l.length<=4611686018427387904->if(decide (a1_most < (a0_l.length:Int)))=true then(KK false)else((a0_l.length<=4611686018427387904->ac (α:=Int) (fun R1 v2=>if(decide (v2 < (a0_l.length:Int)))=true then(((0:Int)<=v2/\v2.toNat<a0_l.length)/\aa (α:=Bool) (fun J3=>if(!(Lt.Name ((a0_l.getD v2.toNat default).Name)))=true then(J3 true)else(J3 (!(Lt.kind ((a0_l.getD v2.toNat default).Type_))))) (fun v4=>if v4=true then(KK false)else(R1 (i64.wrap (v2+1)))))else(KK true)) 0)))
def G3(a0_n:Int)(KK:Int->Prop):Prop:=
 aa (α:=Bool) (fun J1=>if(decide ((i64.wrap ((BitVec.ofInt i64.bits a0_n &&& BitVec.ofInt i64.bits 9218868437227405312).toNat:Nat))=9218868437227405312))=true then(J1 (!decide ((i64.wrap ((BitVec.ofInt i64.bits a0_n &&& BitVec.ofInt i64.bits 4503599627370495).toNat:Nat))=0)))else(J1 false)) (fun v2=>if v2=true then(KK 9221120237041090560)else(KK a0_n))
def sv(a0_a:Lt.Arg)(KK:Bool->Prop):Prop:=
 if(decide (a0_a.Kind=1))=true then(if(Lt.Name a0_a.S)=true then(KK (decide (a0_a.N=0)))else(KK false))else(if(decide (a0_a.Kind=2))=true then(KK (decide (a0_a.S=([]:List UInt8))))else(if(decide (a0_a.Kind=3))=true then(aa (α:=Bool) (fun J1=>if(decide (a0_a.S=([]:List UInt8)))=true then((J1 (decide ((Lt.Plain a0_a.N)=a0_a.N)))/\(J1 (decide ((Lt.Plain a0_a.N)=a0_a.N))))else((J1 false)/\(J1 false))) (fun v2=>KK v2))else(if(decide (a0_a.Kind=4))=true then(if(decide (a0_a.S=([]:List UInt8)))=true then(KK (decide (a0_a.N=0)))else(KK false))else(if(decide (a0_a.Kind=5))=true then(aa (α:=Bool) (fun J3=>if(decide (a0_a.S=([]:List UInt8)))=true then(if(decide (0<=a0_a.N))=true then(J3 (decide (a0_a.N<=999)))else(J3 false))else(J3 false)) (fun v4=>KK v4))else(KK false)))))
def tW(a0_l:List Lt.Arg)(a1_objs:Bool)(KK:Bool->Prop):Prop:=
 (a0_l.length<=4611686018427387904->ac (α:=Int) (fun R1 v2=>if(decide (v2 < (a0_l.length:Int)))=true then(((0:Int)<=v2/\v2.toNat<a0_l.length)/\aa (α:=Bool) (fun J3=>if(!(nU (a0_l.getD v2.toNat default)))=true then(J3 true)else(if(decide ((a0_l.getD v2.toNat default).Kind=5))=true then(J3 (!a1_objs))else(J3 false))) (fun v4=>if v4=true then(KK false)else(R1 (i64.wrap (v2+1)))))else(KK true)) 0)
def xv(a0_t:Lt.Term)(KK:Bool->Prop):Prop:=
 (a0_t.To.length<=4611686018427387904->ac (α:=Int) (fun R1 v2=>if(decide (v2 < (a0_t.To.length:Int)))=true then(((0:Int)<=v2/\v2.toNat<a0_t.To.length)/\if(!(Lt.Name (a0_t.To.getD v2.toNat default)))=true then(KK false)else(R1 (i64.wrap (v2+1))))else(if(decide (a0_t.Kind=1))=true then(aa (α:=Bool) (fun J3=>if(decide (a0_t.A.Kind=0)&&(decide (a0_t.A.S=([]:List UInt8))&&decide (a0_t.A.N=0)))=true then(if(decide ((a0_t.To.length:Int)=1))=true then(J3 (decide (a0_t.N=0)))else(J3 false))else(J3 false)) (fun v4=>KK v4))else(if(decide (a0_t.Kind=2))=true then(aa (α:=Bool) (fun J5=>if(dq [a0_t.A] false)=true then(if(decide ((a0_t.To.length:Int)=2))=true then(J5 (decide (a0_t.N=0)))else(J5 false))else(J5 false)) (fun v6=>KK v6))else(if(decide (a0_t.Kind=3))=true then(aa (α:=Bool) (fun J7=>if(dq [a0_t.A] false)=true then(if(decide ((a0_t.To.length:Int)=0))=true then(J7 (decide (a0_t.N=0)))else(J7 false))else(J7 false)) (fun v8=>KK v8))else(if(decide (a0_t.Kind=4))=true then(if(decide (a0_t.A.Kind=0)&&(decide (a0_t.A.S=([]:List UInt8))&&decide (a0_t.A.N=0)))=true then(KK (decide ((a0_t.To.length:Int)=0)))else(KK false))else(KK false)))))) 0)
def Ta(a0_x:Lt.Phi)(KK:Bool->Prop):Prop:=
 aa (α:=Bool) (fun J1=>if(!(Lt.Name a0_x.Dst))=true then(J1 true)else(if(decide ((a0_x.Ins.length:Int)=0))=true then(J1 true)else(J1 (decide (256 < (a0_x.Ins.length:Int)))))) (fun v2=>if v2=true then(KK false)else((a0_x.Ins.length<=4611686018427387904->ac (α:=Int) (fun R3 v4=>if(decide (v4 < (a0_x.Ins.length:Int)))=true then(((0:Int)<=v4/\v4.toNat<a0_x.Ins.length)/\aa (α:=Bool) (fun J5=>if(!(Lt.Name ((a0_x.Ins.getD v4.toNat default).Block)))=true then(J5 true)else(J5 (!(dq [((a0_x.Ins.getD v4.toNat default).A)] false)))) (fun v6=>if v6=true then(KK false)else(R3 (i64.wrap (v4+1)))))else(KK true)) 0)))
def S9(a0_list:List UInt8)(a1_n:Int)(KK:(List UInt8)->Prop):Prop:=
 ac (α:=Int×Int×Int) (fun R1 v2=>(a0_list.length<=4611686018427387904->if(decide (v2.2.2 < (a0_list.length:Int)))=true then(aa (α:=Int×Int) (fun J3=>((0:Int)<=v2.2.2/\v2.2.2.toNat<a0_list.length)/\if(!decide ((((a0_list.getD v2.2.2.toNat 0).toNat:Nat):Int)=(((32:UInt8).toNat:Nat):Int)))=true then(J3 (v2.1,v2.2.1))else(if(decide ((i64.wrap (v2.1 - 1))=0))=true then((0:Int)<=(i64.wrap (v2.2.1+1))/\(0:Int)<=v2.2.2/\((i64.wrap (v2.2.1+1)).toNat<=v2.2.2.toNat/\v2.2.2.toNat<=a0_list.length)/\KK ((a0_list.drop (i64.wrap (v2.2.1+1)).toNat).take (v2.2.2.toNat - (i64.wrap (v2.2.1+1)).toNat)))else(J3 ((i64.wrap (v2.1 - 1)),v2.2.2)))) (fun v4=>R1 (v4.1,v4.2,(i64.wrap (v2.2.2+1)))))else(KK ([]:List UInt8)))) (a1_n,0,1)
def U8(a0_op:Int)(KK:(Lt.Form×Bool)->Prop):Prop:=
 aa (α:=Bool) (fun J1=>if(decide (1<=a0_op))=true then(J1 (decide (a0_op<=21)))else(J1 false)) (fun v2=>if v2=true then(KK ((Lt.Form.mk (Lt.nth (32::97::100::100::32::115::117::98::32::109::117::108::32::100::105::118::32::114::101::109::32::97::110::100::32::111::114::32::120::111::114::32::115::104::108::32::115::104::114::32::101::113::32::110::101::32::108::116::32::108::101::32::102::97::100::100::32::102::115::117::98::32::102::109::117::108::32::102::100::105::118::32::102::101::113::32::102::108::116::32::102::108::101::32::([]:List UInt8)) a0_op) true false 2 2),true))else(aa (α:=Bool) (fun J3=>if(decide (22<=a0_op))=true then(J3 (decide (a0_op<=24)))else(J3 false)) (fun v4=>if v4=true then(KK ((Lt.Form.mk (Lt.nth [32,105,116,111,102,32,102,116,111,105,32,109,111,118,32] (i64.wrap (a0_op - 21))) true false 1 1),true))else(if(decide (a0_op=25))=true then(KK ((Lt.Form.mk [110,101,119] true true 0 8),true))else(if(decide (a0_op=26))=true then(KK ((Lt.Form.mk [108,111,97,100] true true 1 1),true))else(if(decide (a0_op=27))=true then(KK ((Lt.Form.mk [115,116,111,114,101] false true 2 2),true))else(if(decide (a0_op=28))=true then(KK ((Lt.Form.mk [115,97,109,101] true false 2 2),true))else(if(decide (a0_op=29))=true then(KK ((Lt.Form.mk [103,108,111,97,100] true true 0 0),true))else(if(decide (a0_op=30))=true then(KK ((Lt.Form.mk [103,115,116,111,114,101] false true 1 1),true))else(if(decide (a0_op=31))=true then(KK ((Lt.Form.mk [99,97,108,108] true true 0 8),true))else(if(decide (a0_op=32))=true then(KK ((Lt.Form.mk [101,120,116] true true 0 8),true))else(if(decide (a0_op=33))=true then(KK ((Lt.Form.mk [111,117,116] false false 1 1),true))else(if(decide (a0_op=34))=true then(KK ((Lt.Form.mk [103,117,97,114,100] false false 0 0),true))else(KK ((Lt.Form.mk ([]:List UInt8) false false 0 0),false)))))))))))))))
def G6(a0_f:Lt.Frame)(KK:Bool->Prop):Prop:=
 aa (α:=Bool) (fun J1=>if(!(Lt.Name a0_f.Func))=true then(J1 true)else(if(!(Lt.Name a0_f.Block))=true then(J1 true)else(if(decide (a0_f.At < 0))=true then(J1 true)else(if(decide (1024<a0_f.At))=true then(J1 true)else(J1 (decide (16 < (a0_f.Vars.length:Int)))))))) (fun v2=>if v2=true then(KK false)else((a0_f.Vars.length<=4611686018427387904->ac (α:=Int) (fun R3 v4=>if(decide (v4 < (a0_f.Vars.length:Int)))=true then(((0:Int)<=v4/\v4.toNat<a0_f.Vars.length)/\aa (α:=Bool) (fun J5=>if(!(Lt.Name ((a0_f.Vars.getD v4.toNat default).Name)))=true then(J5 true)else(J5 (!(dq [((a0_f.Vars.getD v4.toNat default).A)] true)))) (fun v6=>if v6=true then(KK false)else(R3 (i64.wrap (v4+1)))))else(KK true)) 0)))
def G7(a0_i:Lt.Instr)(KK:Bool->Prop):Prop:=
 aa (α:=Bool) (fun J1=>if(!((Lt.Of a0_i.Op).2))=true then(J1 true)else(if(!(((Lt.Of a0_i.Op).1).Dst==(!decide (a0_i.Dst=([]:List UInt8)))))=true then(J1 true)else(if(!(((Lt.Of a0_i.Op).1).Named==(!decide (a0_i.Name=([]:List UInt8)))))=true then(J1 true)else(if(((Lt.Of a0_i.Op).1).Dst)=true then(if(!(Lt.Name a0_i.Dst))=true then(J1 true)else(if(((Lt.Of a0_i.Op).1).Named)=true then(J1 (!(Lt.Name a0_i.Name)))else(J1 false)))else(if(((Lt.Of a0_i.Op).1).Named)=true then(J1 (!(Lt.Name a0_i.Name)))else(J1 false)))))) (fun v2=>if v2=true then(KK false)else(aa (α:=Bool) (fun J3=>(a0_i.Args.length<=4611686018427387904->if(decide ((a0_i.Args.length:Int) < ((Lt.Of a0_i.Op).1).Least))=true then(J3 true)else(if(decide (((Lt.Of a0_i.Op).1).Most < (a0_i.Args.length:Int)))=true then(J3 true)else(if(!(dq a0_i.Args false))=true then(J3 true)else(if(decide (16 < (a0_i.Frames.length:Int)))=true then(J3 true)else(J3 (decide (99 < (a0_i.Objs.length:Int))))))))) (fun v4=>if v4=true then(KK false)else(aa (α:=Bool) (fun J5=>if(!decide (a0_i.Op=31))=true then(J5 (!decide (a0_i.Op=34)))else(J5 false)) (fun v6=>if v6=true then((a0_i.Frames.length<=4611686018427387904->if(decide ((a0_i.Frames.length:Int)=0))=true then(KK (decide ((a0_i.Objs.length:Int)=0)))else(KK false)))else((a0_i.Frames.length<=4611686018427387904->ac (α:=Int) (fun R7 v8=>if(decide (v8 < (a0_i.Frames.length:Int)))=true then(((0:Int)<=v8/\v8.toNat<a0_i.Frames.length)/\if(!(Lt.frame (a0_i.Frames.getD v8.toNat default)))=true then(KK false)else(R7 (i64.wrap (v8+1))))else((a0_i.Objs.length<=4611686018427387904->ac (α:=Int) (fun R9 v10=>have z1:=a0_i.Objs.getD v10.toNat default;if(decide (v10 < (a0_i.Objs.length:Int)))=true then(((0:Int)<=v10/\v10.toNat<a0_i.Objs.length)/\aa (α:=Bool) (fun J11=>if(!(Lt.Name (z1.Class)))=true then(J11 true)else(if(decide (8 < ((z1.Vals).length:Int)))=true then(J11 true)else(J11 (!(dq (z1.Vals) true))))) (fun v12=>if v12=true then(KK false)else(R9 (i64.wrap (v10+1)))))else(KK true)) 0))) 0)))))))
def G5(a0_b:Lt.Block)(KK:Bool->Prop):Prop:=
 aa (α:=Bool) (fun J1=>if(!(Lt.Name a0_b.Name))=true then(J1 true)else(J1 (!(tD a0_b.End)))) (fun v2=>if v2=true then(KK false)else((a0_b.Phis.length<=4611686018427387904->ac (α:=Int) (fun R3 v4=>if(decide (v4 < (a0_b.Phis.length:Int)))=true then(((0:Int)<=v4/\v4.toNat<a0_b.Phis.length)/\if(!(Lt.phi (a0_b.Phis.getD v4.toNat default)))=true then(KK false)else(R3 (i64.wrap (v4+1))))else((a0_b.Code.length<=4611686018427387904->ac (α:=Int) (fun R5 v6=>if(decide (v6 < (a0_b.Code.length:Int)))=true then(((0:Int)<=v6/\v6.toNat<a0_b.Code.length)/\if(!(Lt.instr (a0_b.Code.getD v6.toNat default)))=true then(KK false)else(R5 (i64.wrap (v6+1))))else(KK true)) 0))) 0)))
def ma(a0_f:Lt.Func)(KK:Bool->Prop):Prop:=
 aa (α:=Bool) (fun J1=>if(!(Lt.Name a0_f.Name))=true then(J1 true)else(if(!(Lt.kind a0_f.Result))=true then(J1 true)else(if(!(Lt.typed a0_f.Params 6))=true then(J1 true)else(if(!(Lt.typed a0_f.Vars 1024))=true then(J1 true)else(if(decide ((a0_f.Blocks.length:Int)=0))=true then(J1 true)else(J1 (decide (256 < (a0_f.Blocks.length:Int))))))))) (fun v2=>if v2=true then(KK false)else((a0_f.Blocks.length<=4611686018427387904->ac (α:=Int×Int) (fun R3 v4=>have z1:=a0_f.Blocks.getD v4.2.toNat default;have z2:=(i64.wrap (v4.1+(i64.wrap (((z1.Phis).length:Int)+((z1.Code).length:Int)))));if(decide (v4.2 < (a0_f.Blocks.length:Int)))=true then(((0:Int)<=v4.2/\v4.2.toNat<a0_f.Blocks.length)/\aa (α:=Bool) (fun J5=>((z1.Phis).length<=4611686018427387904->if(decide (1024 < ((z1.Phis).length:Int)))=true then(J5 true)else(J5 (decide (1024 < ((z1.Code).length:Int)))))) (fun v6=>if v6=true then(KK false)else(((z1.Phis).length<=4611686018427387904->((z1.Code).length<=4611686018427387904->aa (α:=Bool) (fun J7=>if(decide (1024<z2))=true then(J7 true)else(J7 (!(Lt.block (Lt.Block.mk (z1.Name) (z1.Phis) (z1.Code) (Lt.Term.mk ((z1.End).Kind) ((z1.End).A) ((z1.End).To) ((z1.End).N))))))) (fun v8=>if v8=true then(KK false)else(R3 (z2,(i64.wrap (v4.2+1))))))))))else(KK true)) (0,0))))
def sm(a0_p:Lt.Program)(KK:Bool->Prop):Prop:=
 aa (α:=Bool) (fun J1=>(a0_p.Classes.length<=4611686018427387904->if(decide (8 < (a0_p.Classes.length:Int)))=true then(J1 true)else(if(decide (8 < (a0_p.Externs.length:Int)))=true then(J1 true)else(if(decide (8 < (a0_p.Funcs.length:Int)))=true then(J1 true)else(J1 (!(Lt.typed a0_p.Globals 8))))))) (fun v2=>if v2=true then(KK false)else((a0_p.Classes.length<=4611686018427387904->ac (α:=Int) (fun R3 v4=>if(decide (v4 < (a0_p.Classes.length:Int)))=true then(((0:Int)<=v4/\v4.toNat<a0_p.Classes.length)/\aa (α:=Bool) (fun J5=>if(!(Lt.Name ((a0_p.Classes.getD v4.toNat default).Name)))=true then(J5 true)else(J5 (!(Lt.typed ((a0_p.Classes.getD v4.toNat default).Fields) 8)))) (fun v6=>if v6=true then(KK false)else(R3 (i64.wrap (v4+1)))))else((a0_p.Externs.length<=4611686018427387904->ac (α:=Int) (fun R7 v8=>have z1:=a0_p.Externs.getD v8.toNat default;if(decide (v8 < (a0_p.Externs.length:Int)))=true then(((0:Int)<=v8/\v8.toNat<a0_p.Externs.length)/\aa (α:=Bool) (fun J9=>if(!(Lt.Name (z1.Name)))=true then(J9 true)else(if(decide (z1.N < 0))=true then(J9 true)else(J9 (decide (8<z1.N))))) (fun v10=>if v10=true then(KK false)else(R7 (i64.wrap (v8+1)))))else((a0_p.Funcs.length<=4611686018427387904->ac (α:=Int) (fun R11 v12=>if(decide (v12 < (a0_p.Funcs.length:Int)))=true then(((0:Int)<=v12/\v12.toNat<a0_p.Funcs.length)/\if(!(dh (a0_p.Funcs.getD v12.toNat default)))=true then(KK false)else(R11 (i64.wrap (v12+1))))else(KK true)) 0))) 0))) 0)))
def G4(a0_f:Lt.Func)(KK:(List (Option (List ((List UInt8)×Bool))))->Prop):Prop:=
 have z5:=(a0_f.Blocks.length:Int);have z8:=((0:Int)<=z5/\z5<=4611686018427387904/\8*z5.toNat<=281474976710656);(qg a0_f)/\(qh (gM a0_f))/\(vN (gM a0_f))/\(∀y1:List Int,yl (gM a0_f) y1->(a0_f.Blocks.length<=4611686018427387904->z8/\(a0_f.Blocks.length<=4611686018427387904->z8/\ac (α:=List (Option (List ((List UInt8)×Bool)))×List (Option (List ((List UInt8)×Bool)))×Bool) (fun R2 v3=>if v3.2.2=true then((y1.length<=4611686018427387904->ac (α:=List (Option (List ((List UInt8)×Bool)))×List (Option (List ((List UInt8)×Bool)))×Bool×Int) (fun R4 v5=>have z2:=y1.getD v5.2.2.2.toNat default;have z7:=((0:Int)<=z2/\z2 < ((v5.1.length:Nat):Int));have z6:=(fA (gM a0_f)).getD z2.toNat [];have z4:=a0_f.Blocks.getD z2.toNat default;have z1:=Lt.Block.mk (z4.Name) (z4.Phis) (z4.Code) (Lt.Term.mk ((z4.End).Kind) ((z4.End).A) ((z4.End).To) ((z4.End).N));if(decide (v5.2.2.2 < (y1.length:Int)))=true then(((0:Int)<=v5.2.2.2/\v5.2.2.2.toNat<y1.length)/\aa (α:=Option (List ((List UInt8)×Bool))) (fun J6=>if(decide (z2=0))=true then(J6 (Bw a0_f))else(J6 none)) (fun v7=>((0:Int)<=z2/\z2.toNat < (fA (gM a0_f)).length)/\(z6.length<=4611686018427387904->ac (α:=Option (List ((List UInt8)×Bool))×Int) (fun R8 v9=>have z3:=z6.getD v9.2.toNat default;if(decide (v9.2 < (z6.length:Int)))=true then(aa (α:=Option (List ((List UInt8)×Bool))) (fun J10=>((0:Int)<=v9.2/\v9.2.toNat<z6.length)/\((0:Int)<=z3/\z3 < ((v5.2.1.length:Nat):Int))/\if(!(v5.2.1.getD z3.toNat default).isNone)=true then(((0:Int)<=z3/\z3 < ((v5.2.1.length:Nat):Int))/\(Jm v9.1 (v5.2.1.getD z3.toNat default))/\(∀y12:Option (List ((List UInt8)×Bool)),Dj v9.1 (v5.2.1.getD z3.toNat default) y12->J10 y12))else(J10 v9.1)) (fun v11=>R8 (v11,(i64.wrap (v9.2+1)))))else(aa (α:=Option (List ((List UInt8)×Bool))) (fun J13=>if v9.1.isNone=true then(J13 (some []))else(J13 v9.1)) (fun v14=>((0:Int)<=z2/\z2.toNat<a0_f.Blocks.length)/\(sN v14 z1)/\aa (α:=Bool) (fun J15=>aa (α:=Bool) (fun J17=>z7/\if((v5.1.getD z2.toNat default).isNone)=true then(J17 true)else(z7/\((v5.1.getD z2.toNat default).getD []).length<=4611686018427387904/\((jQ v14 z1).getD []).length<=4611686018427387904/\J17 (!decide ((((v5.1.getD z2.toNat default).getD []).length:Int)=(((jQ v14 z1).getD []).length:Int))))) (fun v18=>if v18=true then(J15 true)else(J15 v5.2.2.1))) (fun v16=>((0:Int)<=z2/\z2.toNat<a0_f.Blocks.length)/\(sN (jQ v14 z1) z1)/\z7/\z2.toNat<v5.1.length/\((0:Int)<=z2/\z2 < ((v5.2.1.length:Nat):Int))/\z2.toNat<v5.2.1.length/\R4 ((v5.1.set z2.toNat (jQ v14 z1)),(v5.2.1.set z2.toNat (fP (jQ v14 z1) z1)),v16,(i64.wrap (v5.2.2.2+1))))))) (v7,0))))else(R2 (v5.1,v5.2.1,v5.2.2.1))) (v3.1,v3.2.1,false,0)))else(KK v3.1)) ((List.replicate z5.toNat (dflt (.mp .s .bo))),(List.replicate z5.toNat (dflt (.mp .s .bo))),true))))
def xq(a0_f:Lt.Func)(KK:Bool->Prop):Prop:=
 (qf a0_f)/\(∀y1:List (Option (List ((List UInt8)×Bool))),qe a0_f y1->(y1.length<=4611686018427387904->ac (α:=Int×List ((List UInt8)×(Option (List ((List UInt8)×Bool))))) (fun R2 v3=>have z4:=y1.getD v3.1.toNat default;have z3:=((0:Int)<=v3.1/\v3.1.toNat<a0_f.Blocks.length);have z2:=a0_f.Blocks.getD v3.1.toNat default;have z1:=Lt.Block.mk (z2.Name) (z2.Phis) (z2.Code) (Lt.Term.mk ((z2.End).Kind) ((z2.End).A) ((z2.End).To) ((z2.End).N));if(decide (v3.1 < (y1.length:Int)))=true then(aa (α:=List ((List UInt8)×(Option (List ((List UInt8)×Bool))))) (fun J4=>((0:Int)<=v3.1/\v3.1.toNat<y1.length)/\z3/\(Po z4 z1)/\if(!(jm z4 z1))=true then(KK false)else(z3/\(z3/\(sN z4 z1)/\J4 (br .s v3.2 (z2.Name) (fP z4 z1)))/\((sN z4 z1)/\z3/\J4 (br .s v3.2 (z2.Name) (fP z4 z1))))) (fun v5=>R2 ((i64.wrap (v3.1+1)),v5)))else(KK (q7 a0_f (some v3.2)))) (0,[])))
def xn(a0_s:Option (List ((List UInt8)×Bool)))(a1_b:Lt.Block)(KK:Bool->Prop):Prop:=
 a0_s.isSome=true/\(a1_b.Code.length<=4611686018427387904->ac (α:=Int×List ((List UInt8)×Bool)) (fun R1 v2=>have z1:=a1_b.Code.getD v2.1.toNat default;if(decide (v2.1 < (a1_b.Code.length:Int)))=true then(aa (α:=List ((List UInt8)×Bool)) (fun J3=>((0:Int)<=v2.1/\v2.1.toNat<a1_b.Code.length)/\aa (α:=Bool) (fun J5=>(fD z1)/\(∀y7:List (List UInt8),Dk z1 y7->(y7.length<=4611686018427387904->ac (α:=Int) (fun R8 v9=>if(decide (v9 < (y7.length:Int)))=true then(((0:Int)<=v9/\v9.toNat<y7.length)/\if(!((am (β:=Bool) .s v2.2 (y7.getD v9.toNat default)).getD (dflt .bo)))=true then(J5 true)else(R8 (i64.wrap (v9+1))))else(J5 false)) 0))) (fun v6=>if v6=true then(KK false)else(if(!decide (z1.Dst=([]:List UInt8)))=true then(J3 (br .s v2.2 (z1.Dst) true))else(J3 v2.2)))) (fun v4=>R1 ((i64.wrap (v2.1+1)),v4)))else(aa (α:=Bool) (fun J10=>if(!decide (a1_b.End.Kind=2))=true then(if(!decide (a1_b.End.Kind=3))=true then(J10 true)else(if(!decide (a1_b.End.A.Kind=1))=true then(J10 true)else(J10 ((am (β:=Bool) .s v2.2 a1_b.End.A.S).getD (dflt .bo)))))else(if(!decide (a1_b.End.A.Kind=1))=true then(J10 true)else(J10 ((am (β:=Bool) .s v2.2 a1_b.End.A.S).getD (dflt .bo))))) (fun v11=>KK v11))) (0,(a0_s.getD [])))
def AK(a0_f:Lt.Func)(a1_outs:Option (List ((List UInt8)×(Option (List ((List UInt8)×Bool))))))(KK:Bool->Prop):Prop:=
 (a0_f.Blocks.length<=4611686018427387904->ac (α:=Int) (fun R1 v2=>have z2:=a0_f.Blocks.getD v2.toNat default;if(decide (v2 < (a0_f.Blocks.length:Int)))=true then(((0:Int)<=v2/\v2.toNat<a0_f.Blocks.length)/\((z2.Phis).length<=4611686018427387904->ac (α:=Int) (fun R3 v4=>have z1:=((z2.Phis).getD v4.toNat default).Ins;if(decide (v4 < ((z2.Phis).length:Int)))=true then(((0:Int)<=v4/\v4.toNat < (z2.Phis).length)/\(z1.length<=4611686018427387904->ac (α:=Int) (fun R5 v6=>have z4:=z1.getD v6.toNat default;have z3:=am (β:=Option (List ((List UInt8)×Bool))) .s (a1_outs.getD []) (z4.Block);if(decide (v6 < (z1.length:Int)))=true then(((0:Int)<=v6/\v6.toNat<z1.length)/\aa (α:=Bool) (fun J7=>if(z3.isSome)=true then(if(nu a0_f (z4.Block) (z2.Name))=true then(if(!decide ((z4.A).Kind=1))=true then(J7 false)else(J7 (!((am (β:=Bool) .s ((z3.getD (dflt (.mp .s .bo))).getD []) ((z4.A).S)).getD (dflt .bo)))))else(J7 false))else(J7 false)) (fun v8=>if v8=true then(KK false)else(R5 (i64.wrap (v6+1)))))else(R3 (i64.wrap (v4+1)))) 0))else(R1 (i64.wrap (v2+1)))) 0))else(KK true)) 0)
def xp(a0_f:Lt.Func)(a1_from:List UInt8)(a2_to:List UInt8)(KK:Bool->Prop):Prop:=
 (a0_f.Blocks.length<=4611686018427387904->ac (α:=Int) (fun R1 v2=>if(decide (v2 < (a0_f.Blocks.length:Int)))=true then(((0:Int)<=v2/\v2.toNat<a0_f.Blocks.length)/\if(decide ((a0_f.Blocks.getD v2.toNat default).Name=a1_from))=true then(KK (rE (((a0_f.Blocks.getD v2.toNat default).End).To) a2_to))else(R1 (i64.wrap (v2+1))))else(KK false)) 0)
def AN(a0_i:Lt.Instr)(KK:(List (List UInt8))->Prop):Prop:=
 (a0_i.Args.length<=4611686018427387904->ac (α:=Int×List ((List UInt8)×Bool)) (fun R1 v2=>if(decide (v2.1 < (a0_i.Args.length:Int)))=true then(aa (α:=List ((List UInt8)×Bool)) (fun J3=>((0:Int)<=v2.1/\v2.1.toNat<a0_i.Args.length)/\if(decide ((a0_i.Args.getD v2.1.toNat default).Kind=1))=true then(J3 (br .s v2.2 ((a0_i.Args.getD v2.1.toNat default).S) true))else(J3 v2.2)) (fun v4=>R1 ((i64.wrap (v2.1+1)),v4)))else((a0_i.Frames.length<=4611686018427387904->ac (α:=Int×List ((List UInt8)×Bool)) (fun R5 v6=>have z1:=(a0_i.Frames.getD v6.1.toNat default).Vars;if(decide (v6.1 < (a0_i.Frames.length:Int)))=true then(((0:Int)<=v6.1/\v6.1.toNat<a0_i.Frames.length)/\(z1.length<=4611686018427387904->ac (α:=Int×List ((List UInt8)×Bool)) (fun R7 v8=>if(decide (v8.1 < (z1.length:Int)))=true then(aa (α:=List ((List UInt8)×Bool)) (fun J9=>((0:Int)<=v8.1/\v8.1.toNat<z1.length)/\if(decide (((z1.getD v8.1.toNat default).A).Kind=1))=true then(J9 (br .s v8.2 (((z1.getD v8.1.toNat default).A).S) true))else(J9 v8.2)) (fun v10=>R7 ((i64.wrap (v8.1+1)),v10)))else(R5 ((i64.wrap (v6.1+1)),v8.2))) (0,v6.2)))else((a0_i.Objs.length<=4611686018427387904->ac (α:=Int×List ((List UInt8)×Bool)) (fun R11 v12=>have z2:=(a0_i.Objs.getD v12.1.toNat default).Vals;if(decide (v12.1 < (a0_i.Objs.length:Int)))=true then(((0:Int)<=v12.1/\v12.1.toNat<a0_i.Objs.length)/\(z2.length<=4611686018427387904->ac (α:=Int×List ((List UInt8)×Bool)) (fun R13 v14=>if(decide (v14.1 < (z2.length:Int)))=true then(aa (α:=List ((List UInt8)×Bool)) (fun J15=>((0:Int)<=v14.1/\v14.1.toNat<z2.length)/\if(decide ((z2.getD v14.1.toNat default).Kind=1))=true then(J15 (br .s v14.2 ((z2.getD v14.1.toNat default).S) true))else(J15 v14.2)) (fun v16=>R13 ((i64.wrap (v14.1+1)),v16)))else(R11 ((i64.wrap (v12.1+1)),v14.2))) (0,v12.2)))else((iZ (some v12.2))/\(∀y17:List (List UInt8),fY (some v12.2) y17->KK y17))) (0,v6.2)))) (0,v2.2)))) (0,[]))
def xw(a0_f:Lt.Func)(a1_name:List UInt8)(KK:(Int×Bool)->Prop):Prop:=
 (a0_f.Blocks.length<=4611686018427387904->ac (α:=Int) (fun R1 v2=>if(decide (v2 < (a0_f.Blocks.length:Int)))=true then(((0:Int)<=v2/\v2.toNat<a0_f.Blocks.length)/\if(decide ((a0_f.Blocks.getD v2.toNat default).Name=a1_name))=true then(KK (v2,true))else(R1 (i64.wrap (v2+1))))else(KK (0,false))) 0)
def G8(a0_s:List Int)(a1_v:Int)(KK:Int->Prop):Prop:=
 (a0_s.length<=4611686018427387904->ac (α:=Int) (fun R1 v2=>if(decide (v2 < (a0_s.length:Int)))=true then(((0:Int)<=v2/\v2.toNat<a0_s.length)/\if(decide (a1_v=(a0_s.getD v2.toNat default)))=true then(KK v2)else(R1 (i64.wrap (v2+1))))else(KK (-1))) 0)
def MO(a0_s:List Int)(a1_v:Int)(KK:Bool->Prop):Prop:=
 KK (decide (0<=(Cv a0_s a1_v)))
def G9(a0_s:List (List UInt8))(a1_v:List UInt8)(KK:Int->Prop):Prop:=
 (a0_s.length<=4611686018427387904->ac (α:=Int) (fun R1 v2=>if(decide (v2 < (a0_s.length:Int)))=true then(((0:Int)<=v2/\v2.toNat<a0_s.length)/\if(decide (a1_v=(a0_s.getD v2.toNat default)))=true then(KK v2)else(R1 (i64.wrap (v2+1))))else(KK (-1))) 0)
def MP(a0_s:List (List UInt8))(a1_v:List UInt8)(KK:Bool->Prop):Prop:=
 KK (decide (0<=(Cw a0_s a1_v)))
def MN(a0_f:Lt.Func)(KK:(List (List Int))->Prop):Prop:=
 have z3:=(a0_f.Blocks.length:Int);(a0_f.Blocks.length<=4611686018427387904->((0:Int)<=z3/\z3<=4611686018427387904/\24*z3.toNat<=281474976710656)/\(a0_f.Blocks.length<=4611686018427387904->ac (α:=List (List Int)×Int) (fun R1 v2=>have z1:=((a0_f.Blocks.getD v2.2.toNat default).End).To;if(decide (v2.2<z3))=true then(((0:Int)<=v2.2/\v2.2.toNat<a0_f.Blocks.length)/\(z1.length<=4611686018427387904->ac (α:=List (List Int)×Int) (fun R3 v4=>have z2:=ir a0_f (z1.getD v4.2.toNat default);if(decide (v4.2 < (z1.length:Int)))=true then(aa (α:=List (List Int)) (fun J5=>((0:Int)<=v4.2/\v4.2.toNat<z1.length)/\if(z2.2)=true then(((0:Int)<=v2.2/\v2.2 < ((v4.1.length:Nat):Int))/\((v4.1.getD v2.2.toNat []).length+([z2.1]:List Int).length<=4611686018427387904/\((v4.1.getD v2.2.toNat []).length+([z2.1]:List Int).length)*8<=140737488355328)/\((0:Int)<=v2.2/\v2.2 < ((v4.1.length:Nat):Int))/\v2.2.toNat<v4.1.length/\v2.2.toNat=v2.2.toNat/\J5 (v4.1.set v2.2.toNat ((v4.1.getD v2.2.toNat [])++([z2.1]:List Int))))else(J5 v4.1)) (fun v6=>R3 (v6,(i64.wrap (v4.2+1)))))else(R1 (v4.1,(i64.wrap (v2.2+1))))) (v2.1,0)))else(KK v2.1)) ((List.replicate z3.toNat (dflt (.sl (.i .i64)))),0)))
def xt(a0_g:List (List Int))(KK:(List (List Int))->Prop):Prop:=
 (a0_g.length<=4611686018427387904->((0:Int)<=(a0_g.length:Int)/\(a0_g.length:Int)<=4611686018427387904/\24*(a0_g.length:Int).toNat<=281474976710656)/\(a0_g.length<=4611686018427387904->ac (α:=List (List Int)×Int) (fun R1 v2=>have z3:=a0_g.getD v2.2.toNat [];if(decide (v2.2 < (a0_g.length:Int)))=true then(((0:Int)<=v2.2/\v2.2.toNat<a0_g.length)/\(z3.length<=4611686018427387904->ac (α:=List (List Int)×Int) (fun R3 v4=>have z1:=z3.getD v4.2.toNat default;have z2:=((0:Int)<=z1/\z1 < ((v4.1.length:Nat):Int));if(decide (v4.2 < (z3.length:Int)))=true then(aa (α:=List (List Int)) (fun J5=>((0:Int)<=v4.2/\v4.2.toNat<z3.length)/\aa (α:=Bool) (fun J7=>if(decide (0<=z1))=true then(if(decide (z1 < (a0_g.length:Int)))=true then(z2/\True/\J7 (!(uZ (v4.1.getD z1.toNat []) v2.2)))else(J7 false))else(J7 false)) (fun v8=>if v8=true then(z2/\((v4.1.getD z1.toNat []).length+([v2.2]:List Int).length<=4611686018427387904/\((v4.1.getD z1.toNat []).length+([v2.2]:List Int).length)*8<=140737488355328)/\z2/\z1.toNat<v4.1.length/\z1.toNat=z1.toNat/\J5 (v4.1.set z1.toNat ((v4.1.getD z1.toNat [])++([v2.2]:List Int))))else(J5 v4.1))) (fun v6=>R3 (v6,(i64.wrap (v4.2+1)))))else(R1 (v4.1,(i64.wrap (v2.2+1))))) (v2.1,0)))else(KK v2.1)) ((List.replicate (a0_g.length:Int).toNat (dflt (.sl (.i .i64)))),0)))
def tV(a0_f:Lt.Func)(KK:(Option (List ((List UInt8)×Bool)))->Prop):Prop:=
 (a0_f.Params.length<=4611686018427387904->ac (α:=Int×List ((List UInt8)×Bool)) (fun R1 v2=>if(decide (v2.1 < (a0_f.Params.length:Int)))=true then(((0:Int)<=v2.1/\v2.1.toNat<a0_f.Params.length)/\R1 ((i64.wrap (v2.1+1)),(br .s v2.2 ((a0_f.Params.getD v2.1.toNat default).Name) true)))else(KK (some v2.2))) (0,[]))
def AH(a0_s:Option (List ((List UInt8)×Bool)))(a1_b:Lt.Block)(KK:(Option (List ((List UInt8)×Bool)))->Prop):Prop:=
 a0_s.isSome=true/\(a1_b.Phis.length<=4611686018427387904->ac (α:=Int×List ((List UInt8)×Bool)) (fun R1 v2=>if(decide (v2.1 < (a1_b.Phis.length:Int)))=true then(((0:Int)<=v2.1/\v2.1.toNat<a1_b.Phis.length)/\R1 ((i64.wrap (v2.1+1)),(br .s v2.2 ((a1_b.Phis.getD v2.1.toNat default).Dst) true)))else(KK (some v2.2))) (0,(a0_s.getD [])))
def AG(a0_s:Option (List ((List UInt8)×Bool)))(a1_b:Lt.Block)(KK:(Option (List ((List UInt8)×Bool)))->Prop):Prop:=
 a0_s.isSome=true/\(a1_b.Code.length<=4611686018427387904->ac (α:=Int×List ((List UInt8)×Bool)) (fun R1 v2=>if(decide (v2.1 < (a1_b.Code.length:Int)))=true then(aa (α:=List ((List UInt8)×Bool)) (fun J3=>((0:Int)<=v2.1/\v2.1.toNat<a1_b.Code.length)/\if(!decide ((a1_b.Code.getD v2.1.toNat default).Dst=([]:List UInt8)))=true then(J3 (br .s v2.2 ((a1_b.Code.getD v2.1.toNat default).Dst) true))else(J3 v2.2)) (fun v4=>R1 ((i64.wrap (v2.1+1)),v4)))else(KK (some v2.2))) (0,(a0_s.getD [])))
def AJ(a0_a:Option (List ((List UInt8)×Bool)))(a1_b:Option (List ((List UInt8)×Bool)))(KK:(Option (List ((List UInt8)×Bool)))->Prop):Prop:=
 if a0_a.isNone=true then(KK a1_b)else(ac (α:=List ((List UInt8)×Bool)×List ((List UInt8)×Bool)) (fun R1 v2=>(v2.2=[]->KK (some v2.1))/\∀i3:Nat,i3<v2.2.length->if((am (β:=Bool) .s (a1_b.getD []) ((v2.2.getD i3 default).1)).getD (dflt .bo))=true then(R1 ((br .s v2.1 ((v2.2.getD i3 default).1) true),(v2.2.eraseIdx i3)))else(R1 (v2.1,(v2.2.eraseIdx i3)))) ([],(a0_a.getD [])))
def xu(a0_f:Lt.Func)(KK:Bool->Prop):Prop:=
 have z6:=(a0_f.Blocks.length:Int);(a0_f.Blocks.length<=4611686018427387904->if(decide (z6=0))=true then(KK false)else((a0_f.Blocks.length<=4611686018427387904->(a0_f.Blocks.length<=4611686018427387904->ac (α:=Int×List ((List UInt8)×Int)) (fun R1 v2=>if(decide (v2.1<z6))=true then(((0:Int)<=v2.1/\v2.1.toNat<a0_f.Blocks.length)/\if((am (β:=Int) .s v2.2 ((a0_f.Blocks.getD v2.1.toNat default).Name)).isSome)=true then(KK false)else(R1 ((i64.wrap (v2.1+1)),(br .s v2.2 ((a0_f.Blocks.getD v2.1.toNat default).Name) v2.1))))else((a0_f.Blocks.length<=4611686018427387904->ac (α:=Int) (fun R3 v4=>have z5:=((a0_f.Blocks.getD v4.toNat default).End).To;if(decide (v4<z6))=true then(((0:Int)<=v4/\v4.toNat<a0_f.Blocks.length)/\(z5.length<=4611686018427387904->ac (α:=Int×List ((List UInt8)×Bool)) (fun R5 v6=>have z7:=z5.getD v6.1.toNat default;if(decide (v6.1 < (z5.length:Int)))=true then(((0:Int)<=v6.1/\v6.1.toNat<z5.length)/\aa (α:=Bool) (fun J7=>if(!((am (β:=Int) .s v2.2 z7).isSome))=true then(J7 true)else(if(decide (((am (β:=Int) .s v2.2 z7).getD (dflt (.i .i64)))=0))=true then(J7 true)else(J7 ((am (β:=Bool) .s v6.2 z7).getD (dflt .bo))))) (fun v8=>if v8=true then(KK false)else(R5 ((i64.wrap (v6.1+1)),(br .s v6.2 z7 true)))))else(R3 (i64.wrap (v4+1)))) (0,[])))else(if false=true then(KK false)else((a0_f.Blocks.length<=4611686018427387904->((0:Int)<=z6/\z6<=4611686018427387904/\1*z6.toNat<=281474976710656)/\((0:Int)<=0/\0 < (((List.replicate z6.toNat (dflt .bo)).length:Nat):Int))/\0 < (List.replicate z6.toNat (dflt .bo)).length/\ac (α:=List Bool×List Int) (fun R9 v10=>have z4:=(i64.wrap ((v10.2.length:Int) - 1));have z3:=(a0_f.Blocks.getD (v10.2.getD z4.toNat default).toNat default);(v10.2.length<=4611686018427387904->if(decide (0 < (v10.2.length:Int)))=true then(aa (α:=Lt.Block) (fun J11=>have z1:=(((0:Int)<=(v10.2.getD z4.toNat default)/\(v10.2.getD z4.toNat default).toNat<a0_f.Blocks.length)/\J11 (Lt.Block.mk (z3.Name) (z3.Phis) (z3.Code) (Lt.Term.mk ((z3.End).Kind) ((z3.End).A) ((z3.End).To) ((z3.End).N))));(v10.2.length<=4611686018427387904->((0:Int)<=z4/\z4 < ((v10.2.length:Nat):Int))/\(z1/\z1)/\(z1/\z1)/\z1)) (fun v12=>(v10.2.length<=4611686018427387904->((0:Int)<=z4/\z4.toNat<=v10.2.length)/\(v12.End.To.length<=4611686018427387904->ac (α:=List Bool×List Int×Int) (fun R13 v14=>have z2:=(am (β:=Int) .s v2.2 (v12.End.To.getD v14.2.2.toNat default)).getD (dflt (.i .i64));if(decide (v14.2.2 < (v12.End.To.length:Int)))=true then(aa (α:=List Bool×List Int) (fun J15=>((0:Int)<=v14.2.2/\v14.2.2.toNat<v12.End.To.length)/\((0:Int)<=z2/\z2 < ((v14.1.length:Nat):Int))/\if(!(v14.1.getD z2.toNat default))=true then(((0:Int)<=z2/\z2 < ((v14.1.length:Nat):Int))/\z2.toNat<v14.1.length/\(v14.2.1.length+([z2]:List Int).length<=4611686018427387904/\(v14.2.1.length+([z2]:List Int).length)*8<=140737488355328)/\J15 ((v14.1.set z2.toNat true),(v14.2.1++([z2]:List Int))))else(J15 (v14.1,v14.2.1))) (fun v16=>R13 (v16.1,v16.2,(i64.wrap (v14.2.2+1)))))else(R9 (v14.1,v14.2.1))) (v10.1,(v10.2.take z4.toNat),0)))))else((v10.1.length<=4611686018427387904->ac (α:=Int) (fun R17 v18=>if(decide (v18 < (v10.1.length:Int)))=true then(((0:Int)<=v18/\v18 < ((v10.1.length:Nat):Int))/\if(!(v10.1.getD v18.toNat default))=true then(KK false)else(R17 (i64.wrap (v18+1))))else(KK true)) 0)))) (((List.replicate z6.toNat (dflt .bo)).set 0 true),[0]))))) 0))) (0,[])))))
def AX(a0_p:Lt.Program)(a1_name:List UInt8)(KK:(Lt.Class×Bool)->Prop):Prop:=
 (a0_p.Classes.length<=4611686018427387904->ac (α:=Int) (fun R1 v2=>if(decide (v2 < (a0_p.Classes.length:Int)))=true then(((0:Int)<=v2/\v2.toNat<a0_p.Classes.length)/\if(decide ((a0_p.Classes.getD v2.toNat default).Name=a1_name))=true then(KK ((a0_p.Classes.getD v2.toNat default),true))else(R1 (i64.wrap (v2+1))))else(KK ((Lt.Class.mk ([]:List UInt8) []),false))) 0)
def Ik(a0_p:Lt.Program)(a1_name:List UInt8)(KK:(Lt.Func×Bool)->Prop):Prop:=
 (a0_p.Funcs.length<=4611686018427387904->ac (α:=Int) (fun R1 v2=>if(decide (v2 < (a0_p.Funcs.length:Int)))=true then(((0:Int)<=v2/\v2.toNat<a0_p.Funcs.length)/\if(decide ((a0_p.Funcs.getD v2.toNat default).Name=a1_name))=true then(KK ((a0_p.Funcs.getD v2.toNat default),true))else(R1 (i64.wrap (v2+1))))else(KK ((Lt.Func.mk ([]:List UInt8) ([]:List UInt8) [] [] []),false))) 0)
def xy(a0_p:Lt.Program)(a1_name:List UInt8)(KK:(Lt.Var×Bool)->Prop):Prop:=
 (a0_p.Globals.length<=4611686018427387904->ac (α:=Int) (fun R1 v2=>if(decide (v2 < (a0_p.Globals.length:Int)))=true then(((0:Int)<=v2/\v2.toNat<a0_p.Globals.length)/\if(decide ((a0_p.Globals.getD v2.toNat default).Name=a1_name))=true then(KK ((a0_p.Globals.getD v2.toNat default),true))else(R1 (i64.wrap (v2+1))))else(KK ((Lt.Var.mk ([]:List UInt8) ([]:List UInt8)),false))) 0)
def xx(a0_p:Lt.Program)(a1_name:List UInt8)(KK:(Lt.Extern×Bool)->Prop):Prop:=
 (a0_p.Externs.length<=4611686018427387904->ac (α:=Int) (fun R1 v2=>if(decide (v2 < (a0_p.Externs.length:Int)))=true then(((0:Int)<=v2/\v2.toNat<a0_p.Externs.length)/\if(decide ((a0_p.Externs.getD v2.toNat default).Name=a1_name))=true then(KK ((a0_p.Externs.getD v2.toNat default),true))else(R1 (i64.wrap (v2+1))))else(KK ((Lt.Extern.mk ([]:List UInt8) 0),false))) 0)
def sq(a0_f:Lt.Func)(a1_name:List UInt8)(KK:(Lt.Var×Bool)->Prop):Prop:=
 aa (α:=Bool×Lt.Var) (fun J1=>(a0_f.Params.length<=4611686018427387904->ac (α:=Int) (fun R3 v4=>if(decide (v4 < (a0_f.Params.length:Int)))=true then(((0:Int)<=v4/\v4.toNat<a0_f.Params.length)/\if(decide ((a0_f.Params.getD v4.toNat default).Name=a1_name))=true then(J1 (true,(a0_f.Params.getD v4.toNat default)))else(R3 (i64.wrap (v4+1))))else(J1 (false,(Lt.Var.mk ([]:List UInt8) ([]:List UInt8))))) 0)) (fun v2=>if v2.1=true then(KK (v2.2,true))else((a0_f.Vars.length<=4611686018427387904->ac (α:=Int) (fun R5 v6=>if(decide (v6 < (a0_f.Vars.length:Int)))=true then(((0:Int)<=v6/\v6.toNat<a0_f.Vars.length)/\if(decide ((a0_f.Vars.getD v6.toNat default).Name=a1_name))=true then(KK ((a0_f.Vars.getD v6.toNat default),true))else(R5 (i64.wrap (v6+1))))else(KK ((Lt.Var.mk ([]:List UInt8) ([]:List UInt8)),false))) 0)))
def AY(a0_p:Lt.Program)(a1_class:List UInt8)(a2_name:List UInt8)(KK:(Lt.Var×Bool)->Prop):Prop:=
 if(!((bd a0_p a1_class).2))=true then(KK ((Lt.Var.mk ([]:List UInt8) ([]:List UInt8)),false))else(((((bd a0_p a1_class).1).Fields).length<=4611686018427387904->ac (α:=Int) (fun R1 v2=>if(decide (v2 < ((((bd a0_p a1_class).1).Fields).length:Int)))=true then(((0:Int)<=v2/\v2.toNat < (((bd a0_p a1_class).1).Fields).length)/\if(decide (((((bd a0_p a1_class).1).Fields).getD v2.toNat default).Name=a2_name))=true then(KK (((((bd a0_p a1_class).1).Fields).getD v2.toNat default),true))else(R1 (i64.wrap (v2+1))))else(KK ((Lt.Var.mk ([]:List UInt8) ([]:List UInt8)),false))) 0))
def Tb(a0_f:Lt.Func)(a1_a:Lt.Arg)(KK:(List UInt8×Bool)->Prop):Prop:=
 if(decide (a1_a.Kind=1))=true then(KK (((jJ a0_f a1_a.S).1).Type_,(jJ a0_f a1_a.S).2))else(if(decide (a1_a.Kind=2))=true then(KK ([105,110,116],true))else(if(decide (a1_a.Kind=3))=true then(KK ([102,108,111,97,116],true))else(if(decide (a1_a.Kind=4))=true then(KK ([110,117,108,108],true))else(KK (([]:List UInt8),false)))))
def MZ(a0_t:List UInt8)(KK:Bool->Prop):Prop:=
 if(!decide (a0_t=[105,110,116]))=true then(KK (!decide (a0_t=[102,108,111,97,116])))else(KK false)
def Ij(a0_have:List UInt8)(a1_want:List UInt8)(KK:Bool->Prop):Prop:=
 aa (α:=Bool) (fun J1=>if(decide (a0_have=a1_want))=true then(J1 true)else(if(decide (a0_have=[110,117,108,108]))=true then(J1 (lX a1_want))else(J1 false))) (fun v2=>KK v2)
def MY(a0_args:List (List UInt8))(a1_l:List Lt.Var)(KK:Bool->Prop):Prop:=
 (a0_args.length<=4611686018427387904->(a1_l.length<=4611686018427387904->if(!decide ((a0_args.length:Int)=(a1_l.length:Int)))=true then(KK false)else((a0_args.length<=4611686018427387904->ac (α:=Int) (fun R1 v2=>if(decide (v2 < (a0_args.length:Int)))=true then(((0:Int)<=v2/\v2.toNat<a0_args.length)/\((0:Int)<=v2/\v2.toNat<a1_l.length)/\if(!(cF (a0_args.getD v2.toNat default) ((a1_l.getD v2.toNat default).Type_)))=true then(KK false)else(R1 (i64.wrap (v2+1))))else(KK true)) 0))))
def A2(a0_p:Lt.Program)(a1_t:List UInt8)(KK:Bool->Prop):Prop:=
 aa (α:=Bool) (fun J1=>if(decide (a1_t=[105,110,116]))=true then(J1 true)else(if(decide (a1_t=[102,108,111,97,116]))=true then(J1 true)else(J1 ((bd a0_p a1_t).2)))) (fun v2=>KK v2)
def so(a0_p:Lt.Program)(a1_l:List Lt.Var)(KK:Bool->Prop):Prop:=
 (a1_l.length<=4611686018427387904->ac (α:=Int) (fun R1 v2=>if(decide (v2 < (a1_l.length:Int)))=true then(((0:Int)<=v2/\v2.toNat<a1_l.length)/\if(!(jc a0_p ((a1_l.getD v2.toNat default).Type_)))=true then(KK false)else(R1 (i64.wrap (v2+1))))else((a1_l.length<=4611686018427387904->ac (α:=Int×List ((List UInt8)×Bool)) (fun R3 v4=>if(decide (v4.1 < (a1_l.length:Int)))=true then(((0:Int)<=v4.1/\v4.1.toNat<a1_l.length)/\if((am (β:=Bool) .s v4.2 ((a1_l.getD v4.1.toNat default).Name)).getD (dflt .bo))=true then(KK false)else(R3 ((i64.wrap (v4.1+1)),(br .s v4.2 ((a1_l.getD v4.1.toNat default).Name) true))))else(KK true)) (0,[])))) 0)
def AZ(a0_p:Lt.Program)(KK:Bool->Prop):Prop:=
 aa (α:=Bool) (fun J1=>(a0_p.Classes.length<=4611686018427387904->ac (α:=Int×List ((List UInt8)×Bool)) (fun R3 v4=>if(decide (v4.1 < (a0_p.Classes.length:Int)))=true then(((0:Int)<=v4.1/\v4.1.toNat<a0_p.Classes.length)/\if((am (β:=Bool) .s v4.2 ((a0_p.Classes.getD v4.1.toNat default).Name)).getD (dflt .bo))=true then(J1 true)else(R3 ((i64.wrap (v4.1+1)),(br .s v4.2 ((a0_p.Classes.getD v4.1.toNat default).Name) true))))else((a0_p.Externs.length<=4611686018427387904->ac (α:=Int×List ((List UInt8)×Bool)) (fun R5 v6=>if(decide (v6.1 < (a0_p.Externs.length:Int)))=true then(((0:Int)<=v6.1/\v6.1.toNat<a0_p.Externs.length)/\if((am (β:=Bool) .s v6.2 ((a0_p.Externs.getD v6.1.toNat default).Name)).getD (dflt .bo))=true then(J1 true)else(R5 ((i64.wrap (v6.1+1)),(br .s v6.2 ((a0_p.Externs.getD v6.1.toNat default).Name) true))))else((a0_p.Funcs.length<=4611686018427387904->ac (α:=Int×List ((List UInt8)×Bool)) (fun R7 v8=>if(decide (v8.1 < (a0_p.Funcs.length:Int)))=true then(((0:Int)<=v8.1/\v8.1.toNat<a0_p.Funcs.length)/\if((am (β:=Bool) .s v8.2 ((a0_p.Funcs.getD v8.1.toNat default).Name)).getD (dflt .bo))=true then(J1 true)else(R7 ((i64.wrap (v8.1+1)),(br .s v8.2 ((a0_p.Funcs.getD v8.1.toNat default).Name) true))))else(J1 (!(dg a0_p a0_p.Globals)))) (0,[])))) (0,[])))) (0,[]))) (fun v2=>if v2=true then(KK false)else((a0_p.Classes.length<=4611686018427387904->ac (α:=Int) (fun R9 v10=>if(decide (v10 < (a0_p.Classes.length:Int)))=true then(((0:Int)<=v10/\v10.toNat<a0_p.Classes.length)/\if(!(dg a0_p ((a0_p.Classes.getD v10.toNat default).Fields)))=true then(KK false)else(R9 (i64.wrap (v10+1))))else((a0_p.Funcs.length<=4611686018427387904->ac (α:=Int) (fun R11 v12=>have z2:=a0_p.Funcs.getD v12.toNat default;if(decide (v12 < (a0_p.Funcs.length:Int)))=true then(((0:Int)<=v12/\v12.toNat<a0_p.Funcs.length)/\aa (α:=List Lt.Var) (fun J13=>have z1:=((([]:List Lt.Var).length+(z2.Params).length<=4611686018427387904/\(([]:List Lt.Var).length+(z2.Params).length)*32<=140737488355328)/\((z2.Params).length+(z2.Vars).length<=4611686018427387904/\((z2.Params).length+(z2.Vars).length)*32<=140737488355328)/\J13 ((z2.Params)++(z2.Vars)));(z1/\z1)/\((z1/\z1)/\z1)/\(z1/\z1)) (fun v14=>aa (α:=Bool) (fun J15=>if(!(jc a0_p (z2.Result)))=true then(J15 true)else(J15 (!(dg a0_p v14)))) (fun v16=>if v16=true then(KK false)else(R11 (i64.wrap (v12+1))))))else(KK true)) 0))) 0)))
def Il(a0_a:List UInt8)(a1_b:List UInt8)(KK:Bool->Prop):Prop:=
 aa (α:=Bool) (fun J1=>if(lX a0_a)=true then(if(lX a1_b)=true then(if(decide (a0_a=a1_b))=true then(J1 true)else(if(decide (a0_a=[110,117,108,108]))=true then(J1 true)else(J1 (decide (a1_b=[110,117,108,108])))))else(J1 false))else(J1 false)) (fun v2=>KK v2)
def Im(a0_q:Lt.asked)(a1_args:List UInt8)(a2_dst:List UInt8)(KK:Bool->Prop):Prop:=
 (a0_q.args.length<=4611686018427387904->ac (α:=Int) (fun R1 v2=>if(decide (v2 < (a0_q.args.length:Int)))=true then(((0:Int)<=v2/\v2.toNat<a0_q.args.length)/\if(!decide ((a0_q.args.getD v2.toNat default)=a1_args))=true then(KK false)else(R1 (i64.wrap (v2+1))))else(KK (decide (a0_q.dst=a2_dst)))) 0)
def A3(a0_q:Lt.asked)(KK:Bool->Prop):Prop:=
 aa (α:=Bool) (fun J1=>if((bd a0_q.p a0_q.i.Name).2)=true then(if(decide (a0_q.dst=((bd a0_q.p a0_q.i.Name).1).Name))=true then(if(decide ((a0_q.args.length:Int)=0))=true then(J1 true)else(J1 (j7 a0_q.args (((bd a0_q.p a0_q.i.Name).1).Fields))))else(J1 false))else(J1 false)) (fun v2=>KK v2)
def xz(a0_q:Lt.asked)(KK:(Lt.Var×Bool)->Prop):Prop:=
 ((0:Int)<=0/\0<a0_q.i.Args.length)/\if(!decide ((a0_q.i.Args.getD 0 default).Kind=1))=true then(KK ((Lt.Var.mk ([]:List UInt8) ([]:List UInt8)),false))else(((0:Int)<=0/\0<a0_q.args.length)/\KK (((qk a0_q.p (a0_q.args.getD 0 default) a0_q.i.Name).1),(qk a0_q.p (a0_q.args.getD 0 default) a0_q.i.Name).2))
def tX(a0_q:Lt.asked)(KK:Bool->Prop):Prop:=
 if(decide (a0_q.i.Op=29))=true then(if((fE a0_q.p a0_q.i.Name).2)=true then(KK (decide (((fE a0_q.p a0_q.i.Name).1).Type_=a0_q.dst)))else(KK false))else(if((fE a0_q.p a0_q.i.Name).2)=true then(((0:Int)<=0/\0<a0_q.args.length)/\KK (cF (a0_q.args.getD 0 default) (((fE a0_q.p a0_q.i.Name).1).Type_)))else(KK false))
def xA(a0_q:Lt.asked)(KK:Bool->Prop):Prop:=
 have z1:=((0:Int)<=0/\0<a0_q.args.length);if(decide (a0_q.i.Op<=14))=true then(KK (lb a0_q [105,110,116] [105,110,116]))else(if(decide (a0_q.i.Op<=18))=true then(KK (lb a0_q [102,108,111,97,116] [102,108,111,97,116]))else(if(decide (a0_q.i.Op<=21))=true then(KK (lb a0_q [102,108,111,97,116] [105,110,116]))else(if(decide (a0_q.i.Op=22))=true then(KK (lb a0_q [105,110,116] [102,108,111,97,116]))else(if(decide (a0_q.i.Op=23))=true then(KK (lb a0_q [102,108,111,97,116] [105,110,116]))else(if(decide (a0_q.i.Op=24))=true then(z1/\KK (cF (a0_q.args.getD 0 default) a0_q.dst))else(if(decide (a0_q.i.Op=25))=true then(KK (Ap a0_q))else(if(decide (a0_q.i.Op=26))=true then((Gh a0_q)/\if((gr a0_q).2)=true then(KK (decide (((gr a0_q).1).Type_=a0_q.dst)))else(KK false))else(if(decide (a0_q.i.Op=27))=true then((Gh a0_q)/\if((gr a0_q).2)=true then(((0:Int)<=1/\1<a0_q.args.length)/\KK (cF (a0_q.args.getD 1 default) (((gr a0_q).1).Type_)))else(KK false))else(if(decide (a0_q.i.Op=28))=true then(if(decide (a0_q.dst=[105,110,116]))=true then(z1/\((0:Int)<=1/\1<a0_q.args.length)/\KK (Jv (a0_q.args.getD 0 default) (a0_q.args.getD 1 default)))else(KK false))else(aa (α:=Bool) (fun J1=>if(decide (a0_q.i.Op=29))=true then(J1 (decide (a0_q.i.Op=29)))else(J1 (decide (a0_q.i.Op=30)))) (fun v2=>if v2=true then((Gi a0_q)/\KK (qG a0_q))else(if(decide (a0_q.i.Op=31))=true then(aa (α:=Bool) (fun J3=>if((o8 a0_q.p a0_q.i.Name).2)=true then(if(j7 a0_q.args (((o8 a0_q.p a0_q.i.Name).1).Params))=true then(J3 (decide (a0_q.dst=((o8 a0_q.p a0_q.i.Name).1).Result)))else(J3 false))else(J3 false)) (fun v4=>KK v4))else(if(decide (a0_q.i.Op=32))=true then(aa (α:=Bool) (fun J5=>if((mS a0_q.p a0_q.i.Name).2)=true then(if(decide ((a0_q.args.length:Int)=((mS a0_q.p a0_q.i.Name).1).N))=true then(J5 (lb a0_q [105,110,116] [105,110,116]))else(J5 false))else(J5 false)) (fun v6=>KK v6))else(if(decide (a0_q.i.Op=33))=true then(z1/\KK (!(lX (a0_q.args.getD 0 default))))else(KK true)))))))))))))))
def MW(a0_p:Lt.Program)(a1_f:Lt.Func)(a2_i:Lt.Instr)(KK:(Lt.asked×Bool)->Prop):Prop:=
 have z1:=(Lt.asked.mk (Lt.Program.mk false [] [] [] []) (Lt.Instr.mk 0 ([]:List UInt8) ([]:List UInt8) [] [] []) ([]:List UInt8) []);aa (α:=Bool) (fun J1=>if(!((Lt.Of a2_i.Op).2))=true then(J1 true)else(if(decide ((a2_i.Args.length:Int) < ((Lt.Of a2_i.Op).1).Least))=true then(J1 true)else(J1 (decide (((Lt.Of a2_i.Op).1).Most < (a2_i.Args.length:Int)))))) (fun v2=>if v2=true then(KK (z1,false))else(aa (α:=Lt.asked) (fun J3=>if(((Lt.Of a2_i.Op).1).Dst)=true then(if(!((jJ a1_f a2_i.Dst).2))=true then(KK (z1,false))else(J3 (Lt.asked.mk a0_p a2_i (((jJ a1_f a2_i.Dst).1).Type_) [])))else(J3 (Lt.asked.mk a0_p a2_i ([]:List UInt8) []))) (fun v4=>(a2_i.Args.length<=4611686018427387904->ac (α:=Int×Lt.asked) (fun R5 v6=>have z2:=([(cR a1_f (a2_i.Args.getD v6.1.toNat default)).1]:List (List UInt8));if(decide (v6.1 < (a2_i.Args.length:Int)))=true then(((0:Int)<=v6.1/\v6.1.toNat<a2_i.Args.length)/\if(!((cR a1_f (a2_i.Args.getD v6.1.toNat default)).2))=true then(KK (z1,false))else((v6.2.args.length+z2.length<=4611686018427387904/\(v6.2.args.length+z2.length)*16<=140737488355328)/\R5 ((i64.wrap (v6.1+1)),(Lt.asked.mk v6.2.p v6.2.i v6.2.dst (v6.2.args++z2)))))else(KK (v6.2,true))) (0,(Lt.asked.mk v4.p v4.i v4.dst []))))))
def A0(a0_p:Lt.Program)(a1_f:Lt.Func)(a2_i:Lt.Instr)(KK:Bool->Prop):Prop:=
 (vL a0_p a1_f a2_i)/\if((m6 a0_p a1_f a2_i).2)=true then((vQ (Lt.asked.mk (((m6 a0_p a1_f a2_i).1).p) (((m6 a0_p a1_f a2_i).1).i) (((m6 a0_p a1_f a2_i).1).dst) (((m6 a0_p a1_f a2_i).1).args)))/\KK (tE (Lt.asked.mk (((m6 a0_p a1_f a2_i).1).p) (((m6 a0_p a1_f a2_i).1).i) (((m6 a0_p a1_f a2_i).1).dst) (((m6 a0_p a1_f a2_i).1).args))))else(KK false)
def MX(a0_f:Lt.Func)(a1_t:Lt.Term)(KK:Bool->Prop):Prop:=
 if(decide (a1_t.Kind=1))=true then(KK true)else(if(decide (a1_t.Kind=2))=true then(if((cR a0_f a1_t.A).2)=true then(KK (decide ((cR a0_f a1_t.A).1=[105,110,116])))else(KK false))else(if(decide (a1_t.Kind=3))=true then(if((cR a0_f a1_t.A).2)=true then(KK (cF ((cR a0_f a1_t.A).1) a0_f.Result))else(KK false))else(if(decide (a1_t.Kind=4))=true then(KK (decide (10<=a1_t.N)))else(KK false))))
def LEN:Nat:=4611686018427387904
theorem ob{i n:Nat}(h:i<n):(0:Int)<=(i:Int)/\(i:Int).toNat<n:=by
 rw[Int.toNat_natCast];exact⟨WO i,h⟩
theorem aH{i n:Nat}(h:i<n):decide ((i:Int) < (n:Int))=true:=by simpa using h
theorem fK{n:Nat}:decide ((n:Int) < (n:Int))=false:=by simp
section
variable {α:Type}
theorem ay(x:α)(B:α->Prop):aa (fun J=>J x) B=B x:=
 propext ⟨fun h=>h B (fun _ h=>h),fun h J hJ=>hJ x h⟩
theorem lI(c:Prop)[Decidable c](A A':(α->Prop)->Prop)(B:α->Prop):aa (fun J=>if c then A J else A' J) B=if c then aa A B else aa A' B:=by
 unfold aa;by_cases hc:c<;>simp only[hc,if_true,if_false]
theorem aJ(P:Prop)(A:(α->Prop)->Prop)(B:α->Prop):aa (fun J=>P/\A J) B=(P/\aa A B):=
 propext ⟨fun h=>⟨(h (fun _=>True) (fun _ _=>trivial)).1,fun J hJ=>(h J hJ).2⟩,fun h J hJ=>⟨h.1,h.2 J hJ⟩⟩
theorem aK(P:Prop)(A:(α->Prop)->Prop)(B:α->Prop):aa (fun J=>P->A J) B=(P->aa A B):=
 propext ⟨fun h hp J hJ=>h J hJ hp,fun h J hJ hp=>h hp J hJ⟩
theorem fC(P:Prop)(B:α->Prop):aa (fun _=>P) B=P:=
 propext ⟨fun h=>h (fun _=>True) (fun _ _=>trivial),fun h _ _=>h⟩
theorem jval(c:Prop)[Decidable c](x y:α)(J:α->Prop):(if c then J x else J y)=J (if c then x else y):=by split<;>rfl
theorem bor(b c:Bool):(if b=true then true else c)=(b||c):=by cases b<;>rfl
theorem band(b c:Bool):(if b=true then c else false)=(b&&c):=by cases b<;>rfl
theorem bnand(b c:Bool):(if b=true then false else c)=(!b&&c):=by cases b<;>rfl
theorem bimp(b c:Bool):(if b=true then c else true)=(!b||c):=by cases b<;>rfl
theorem Wg(c:Prop)[Decidable c](P A B:Prop):(if c then(P/\A)else B)=((c->P)/\if c then A else B):=by
 by_cases hc:c<;>simp[hc]
theorem Wh(c:Prop)[Decidable c](P A B:Prop):(if c then A else(P/\B))=((¬ c->P)/\if c then A else B):=by
 by_cases hc:c<;>simp[hc]
theorem VW(c:Prop)[Decidable c](P A B:Prop):(if c then(P/\A)else(P/\B))=(P/\if c then A else B):=by
 by_cases hc:c<;>simp[hc]
end
theorem az{α:Type}(body:(α->Prop)->α->Prop)(m:Nat)(P:Nat->α->Prop)
  (hs:∀R i x,i<m->P i x->(∀y,P (i+1) y->R y)->body R x) (he:∀R x,P m x->body R x) (x:α) (h:P 0 x):ac body x:=by
 have key:∀k i x,i+k=m->P i x->mI body (k+1) x:=by
  intro k;induction k with
  |zero=>
   intro i x hi h;have e:i=m:=by omega
   subst e;exact he _ x h
  |succ k ih=>
   intro i x hi h;exact hs _ i x Z1 h (fun y hy=>ih (i+1) y Z1 hy)
 exact⟨m+1,key m 0 x Z1 h⟩
theorem oQ{α β ρ σ:Type}[Inhabited α](l:List α)(hl:l.length<=LEN)(st:β->Int->σ)(go:List α->β->ρ)(KK:ρ->Prop)(body:(σ->Prop)->σ->Prop)
  (hs:∀R b i,i<l.length->(∀b',KK (go (l.drop (i+1)) b')->R (st b' (i64.wrap ((i:Int)+1))))->KK (go (l.getD i default::l.drop (i+1)) b)->body R (st b i))
  (he:∀R b,KK (go [] b)->body R (st b l.length)) (b:β) (h:KK (go l b)):ac body (st b 0):=by
 have key:∀k i b,i+k=l.length->KK (go (l.drop i) b)->mI body (k+1) (st b (i:Int)):=by
  intro k;induction k with
  |zero=>
   intro i b hi h;have e:i=l.length:=by omega
   subst e;rw[XM]at h;exact he _ b h
  |succ k ih=>
   intro i b hi h;have hlt:i<l.length:=by omega
   rw[XN hlt]at h;have e:l.getD i default=l[i]:=by rw[List.getD,WH hlt];rfl
   rw[<- e]at h;refine hs _ b i hlt (fun b' h'=>?_) h;rw[ao (by unfold LEN at hl;omega)];exact ih (i+1) b' Z1 h'
 exact⟨l.length+1,key l.length 0 b Z1 h⟩
theorem KW{α β ρ:Type}[Inhabited α](l:List α)(hl:l.length<=LEN)(go:List α->β->ρ)(KK:ρ->Prop)(body:(β×Int->Prop)->β×Int->Prop)
  (hs:∀R b i,i<l.length->(∀b',KK (go (l.drop (i+1)) b')->R (b',(i64.wrap ((i:Int)+1))))->KK (go (l.getD i default::l.drop (i+1)) b)->body R (b,(i:Int)))
  (he:∀R b,KK (go [] b)->body R (b,(l.length:Int))) (b:β) (h:KK (go l b)):ac body (b,0):=
 oQ l hl (fun b i=>(b,i)) go KK body hs he b h
theorem cJ{α:Type}[Inhabited α](l:List α)(hl:l.length<=LEN)(p:α->Bool)(rest:Bool)(KK:Bool->Prop)(body:(Int->Prop)->Int->Prop)
  (hs:∀R i,i<l.length->(p (l.getD i default)=true->R (i64.wrap ((i:Int)+1)))->(p (l.getD i default)=false->KK false)->body R (i:Int))
  (he:∀R,KK rest->body R (l.length:Int)) (h:KK (l.all p&&rest)):ac body 0:=by
 refine oQ l hl (fun(_:Unit) i=>i) (fun t _=>t.all p&&rest) KK body (fun R _ i hi ih h=>?_) (fun R _ h=>he R (by simpa using h)) () h;refine hs R i hi (fun hp=>ih () ?_) (fun hp=>?_)
 ·simp only[W0,hp,Xn]at h;exact h
 ·simp only[W0,hp,XQ]at h;exact h
theorem Oz{β:Type}(N:Nat)(hN:N<=LEN)(g:Nat->β)(body:(β×Int->Prop)->β×Int->Prop)
  (hs:∀R i,i<N->R (g (i+1),i64.wrap ((i:Int)+1))->body R (g i,(i:Int)))
  (he:∀R,body R (g N,(N:Int))) {b:β} (hb:g 0=b):ac body (b,0):=by
 subst hb;refine az body N (fun i x=>x=(g i,(i:Int))) (fun R i x hi hx ih=>?_) (fun R x hx=>?_) _ rfl
 ·subst hx;refine hs R i hi (ih _ ?_);rw[ao (by unfold LEN at hN;omega)]
 ·subst hx;exact he R
theorem bg{α:Type}[Inhabited α](l:List α){i:Nat}(h:i<l.length):l.take (i+1)=l.take i++[l.getD i default]:=by
 rw[List.take_add_one,List.getD,WH h];rfl
theorem bt{α:Type}[Inhabited α](l:List α){i:Nat}(h:i<l.length):l.getD i default∈l:=by
 rw[List.getD,WH h];exact Xj h
theorem ifk{c:Prop}[Decidable c]{A B:Prop}(h1:c->A)(h2:¬ c->B):if c then A else B:=by by_cases h:c<;>simp[h,h1,h2]
theorem fW{α β σ:Type}[Inhabited α]{body:(σ->Prop)->σ->Prop}(l:List α)(st:β->Int->σ)(P:List α->β->Prop)
  (hs:∀R b i x r,i<l.length->l.getD i default=x->x∈l->(l.length<=4611686018427387904->∀b',P r b'->R (st b' (i64.wrap ((i:Int)+1))))->P (x::r) b->body R (st b (i:Int)))
  (he:∀R b,P [] b->body R (st b (l.length:Int))) (b:β) (h:P l b):ac body (st b 0):=by
 have key:∀k i b,i+k=l.length->P (l.drop i) b->mI body (k+1) (st b (i:Int)):=by
  intro k;induction k with
  |zero=>
   intro i b hi h;have e:i=l.length:=by omega
   subst e;rw[XM]at h;exact he _ b h
  |succ k ih=>
   intro i b hi h;have hlt:i<l.length:=by omega
   rw[XN hlt]at h;have e:l.getD i default=l[i]:=by rw[List.getD,WH hlt];rfl
   refine hs _ b i _ (l.drop (i+1)) hlt e (Xj hlt) (fun hl b' h'=>?_) h;rw[ao Z1];exact ih (i+1) b' Z1 h'
 exact⟨l.length+1,key l.length 0 b Z1 h⟩
theorem cM{α:Type}[Inhabited α]{body:(Int->Prop)->Int->Prop}(l:List α)(P:List α->Prop)
  (hs:∀R i x r,i<l.length->l.getD i default=x->x∈l->(l.length<=4611686018427387904->P r->R (i64.wrap ((i:Int)+1)))->P (x::r)->body R (i:Int))
  (he:∀R,P []->body R (l.length:Int)) (h:P l):ac body 0:=
 fW l (fun(_:Unit) i=>i) (fun r _=>P r) (fun R _ i x r h1 h2 h3 h4 h5=>hs R i x r h1 h2 h3 (fun hl hp=>h4 hl () hp) h5) (fun R _ h=>he R h) () h
theorem cd{α:Type}[Inhabited α]{body:(Int->Prop)->Int->Prop}(l:List α)(p:α->Bool)(rest:Bool)(KK:Bool->Prop)
  (hs:∀R i x,i<l.length->l.getD i default=x->x∈l->(l.length<=4611686018427387904->p x=true->R (i64.wrap ((i:Int)+1)))->(p x=false->KK false)->body R (i:Int))
  (he:∀R,KK rest->body R (l.length:Int)) (h:KK (l.all p&&rest)):ac body 0:=by
 refine cM l (fun r=>KK (r.all p&&rest)) (fun R i x r h1 h2 h3 h4 h5=>hs R i x h1 h2 h3 (fun hl hp=>h4 hl ?_) (fun hp=>?_)) (fun R h=>he R (by simpa using h)) h
 ·simpa[hp]using h5
 ·simpa[hp]using h5
theorem Fy(p:Lt.Program)(s:List UInt8)(KK:Lt.Class×Bool->Prop)(h:KK (bd p s)):AX p s KK:=by
 unfold AX;intro hl;refine cM p.Classes (fun l=>KK (Lt.fnd (·.Name) s l)) (fun R i x r hi hx _ ih h=>?_) (fun R h=>?_) h
 ·simp only[aH hi,Int.toNat_natCast,hx,hi,WO,and_self,true_and,if_true,decide_eq_true_eq];unfold Lt.fnd at h
  grind
 ·rw[if_neg (by simp)];exact h
theorem Lw(p:Lt.Program)(s:List UInt8)(KK:Lt.Func×Bool->Prop)(h:KK (o8 p s)):Ik p s KK:=by
 unfold Ik;intro hl;refine cM p.Funcs (fun l=>KK (Lt.fnd (·.Name) s l)) (fun R i x r hi hx _ ih h=>?_) (fun R h=>?_) h
 ·simp only[aH hi,Int.toNat_natCast,hx,hi,WO,and_self,true_and,if_true,decide_eq_true_eq];unfold Lt.fnd at h
  grind
 ·rw[if_neg (by simp)];exact h
theorem CJ(p:Lt.Program)(s:List UInt8)(KK:Lt.Var×Bool->Prop)(h:KK (fE p s)):xy p s KK:=by
 unfold xy;intro hl;refine cM p.Globals (fun l=>KK (Lt.fnd (·.Name) s l)) (fun R i x r hi hx _ ih h=>?_) (fun R h=>?_) h
 ·simp only[aH hi,Int.toNat_natCast,hx,hi,WO,and_self,true_and,if_true,decide_eq_true_eq];unfold Lt.fnd at h
  grind
 ·rw[if_neg (by simp)];exact h
theorem CH(p:Lt.Program)(s:List UInt8)(KK:Lt.Extern×Bool->Prop)(h:KK (mS p s)):xx p s KK:=by
 unfold xx;intro hl;refine cM p.Externs (fun l=>KK (Lt.fnd (·.Name) s l)) (fun R i x r hi hx _ ih h=>?_) (fun R h=>?_) h
 ·simp only[aH hi,Int.toNat_natCast,hx,hi,WO,and_self,true_and,if_true,decide_eq_true_eq];unfold Lt.fnd at h
  grind
 ·rw[if_neg (by simp)];exact h
theorem Fz(p:Lt.Program)(c s:List UInt8)(KK:Lt.Var×Bool->Prop)(h:KK (qk p c s)):AY p c s KK:=by
 unfold AY;unfold qk at h;refine ifk (fun hc=>?_) (fun hc hl=>?_)
 ·have e:∀l:List Lt.Class,(Lt.fnd (·.Name) c l).2=false->(Lt.fnd (·.Name) c l).1=default:=by
   intro l;induction l with
   |nil=>exact fun _=>rfl
   |cons x r ih=>unfold Lt.fnd;split<;>simp_all
  have e2:(bd p c).1=default:=e _ (by simpa[bd]using hc)
  rw[e2]at h;exact h
 ·refine cM (bd p c).1.Fields (fun l=>KK (Lt.fnd (·.Name) s l)) (fun R i x r hi hx _ ih h=>?_) (fun R h=>?_) h
  ·simp only[aH hi,Int.toNat_natCast,hx,hi,WO,and_self,true_and,if_true,decide_eq_true_eq];unfold Lt.fnd at h
   grind
  ·rw[if_neg (by simp)];exact h
theorem wR(f:Lt.Func)(s:List UInt8)(KK:Lt.Var×Bool->Prop)(h:KK (jJ f s)):sq f s KK:=by
 unfold sq;intro J hJ hl;have go:J ((Gm f.Params s).2,(Gm f.Params s).1):=hJ _ (by
  dsimp only;refine ifk (fun hc=>?_) (fun hc hl=>?_)
  ·unfold jJ at h;rw[if_pos hc]at h;exact h
  ·unfold jJ at h;rw[if_neg hc]at h;refine cM f.Vars (fun l=>KK (Lt.fnd (·.Name) s l)) (fun R i x r hi hx _ ih h=>?_) (fun R h=>?_) h
   ·simp only[aH hi,Int.toNat_natCast,hx,hi,WO,and_self,true_and,if_true,decide_eq_true_eq];unfold Lt.fnd at h
    grind
   ·rw[if_neg (by simp)];exact h)
 refine cM f.Params (fun l=>J ((Lt.fnd (fun x:Lt.Var=>x.Name) s l).2,(Lt.fnd (fun x:Lt.Var=>x.Name) s l).1)) (fun R i x r hi hx _ ih h=>?_) (fun R h=>?_) go
 ·simp only[aH hi,Int.toNat_natCast,hx,hi,WO,and_self,true_and,if_true,decide_eq_true_eq];unfold Lt.fnd at h
  grind
 ·rw[if_neg (by simp)];exact h
theorem RN(f:Lt.Func)(a:Lt.Arg)(KK:List UInt8×Bool->Prop)(h:KK (cR f a)):Tb f a KK:=by
 unfold Tb;unfold cR at h;simp only[decide_eq_true_eq]
 grind
theorem OQ(t:List UInt8)(KK:Bool->Prop)(h:KK (lX t)):MZ t KK:=by
 unfold MZ;unfold lX at h
 grind
theorem Lv(a b:List UInt8)(KK:Bool->Prop)(h:KK (cF a b)):Ij a b KK:=by
 unfold Ij;unfold cF at h;intro J hJ;have:=hJ _ h
 grind
theorem Lx(a b:List UInt8)(KK:Bool->Prop)(h:KK (Jv a b)):Il a b KK:=by
 unfold Il;unfold Jv at h;intro J hJ;have:=hJ _ h
 grind
theorem FC(p:Lt.Program)(t:List UInt8)(KK:Bool->Prop)(h:KK (jc p t)):A2 p t KK:=by
 unfold A2;unfold jc lX at h;intro J hJ;have:=hJ _ h
 grind
theorem dw{α:Type}[Inhabited α](l:List α){i:Nat}(h:i<l.length):l.drop i=l.getD i default::l.drop (i+1):=by
 rw[XN h,List.getD,WH h];rfl
theorem vU:∀(l:List (List UInt8))(v:List Lt.Var),l.length≠v.length->j7 l v=false
 |[],[],h=>absurd rfl h
 |_::l,_::v,h=>by unfold j7;rw[vU l v (by simpa using h),Bool.and_false]
 |[],_::_,_=>rfl
 |_::_,[],_=>rfl
theorem OP(l:List (List UInt8))(v:List Lt.Var)(KK:Bool->Prop)(h:KK (j7 l v)):MY l v KK:=by
 unfold MY;intro _ _;refine ifk (fun hc=>?_) (fun hc hl=>?_)
 ·rw[vU l v (fun e=>by rw[e]at hc;simp at hc)]at h;exact h
 have hlen:l.length=v.length:=by
  have:¬ (!decide ((l.length:Int)=(v.length:Int)))=true:=hc
  simp only[XE,decide_eq_false_iff_not,Decidable.not_not]at this;omega
 refine az _ l.length (fun i x=>x=(i:Int)/\KK (j7 (l.drop i) (v.drop i))) (fun R i x hi hx ih=>?_) (fun R x hx=>?_) 0 ⟨rfl,h⟩
 ·obtain⟨rfl,h⟩:=hx;rw[if_pos (aH hi)];refine⟨ob hi,ob Z1,?_⟩;rw[Int.toNat_natCast];rw[dw l hi,dw v Z1]at h;unfold j7 at h;refine ifk (fun hf=>?_) (fun hf=>ih _ ⟨ao Z1,?_⟩)
  ·rw[show cF (l.getD i default) (v.getD i default).Type_=false from by simpa using hf,XQ]at h;exact h
  ·rw[show cF (l.getD i default) (v.getD i default).Type_=true from by simpa using hf,Xn]at h;exact h
 ·obtain⟨rfl,h⟩:=hx;rw[if_neg (by simp)];rw[XM,hlen,XM]at h;exact h
theorem kI{β:Type}(v:β):∀(m:List (List UInt8×β))(k0 k:List UInt8),am .s (br .s m k0 v) k=if k0=k then some v else am .s m k
 |[],k0,k=>by
  simp only[br,am,gX];by_cases e:k0=k
  ·rw[if_pos e,decide_eq_true e]
  ·rw[if_neg e,decide_eq_false e]
 |x::l,k0,k=>by
  have ih:=kI v l k0 k
  simp only[br,am,gX];by_cases e:x.1=k0
  ·rw[decide_eq_true e];simp only[am,gX];by_cases e2:k0=k
   ·rw[if_pos e2,decide_eq_true e2]
   ·rw[if_neg e2,decide_eq_false e2,decide_eq_false (fun e3=>e2 (e.symm.trans e3))]
  ·rw[decide_eq_false e];simp only[am,gX];by_cases e2:x.1=k
   ·rw[decide_eq_true e2,if_neg (fun e3=>e (e2.trans e3.symm))]
   ·rw[decide_eq_false e2];exact ih
theorem qI{α:Type}[Inhabited α]{body:(Int×List (List UInt8×Bool)->Prop)->Int×List (List UInt8×Bool)->Prop}(l:List α)(nm:α->List UInt8)(N:Prop)
  (hs:∀R(i:Nat)m x,i<l.length->l.getD i default=x->((am (β:=Bool) .s m (nm x)).getD (dflt .bo)=true->N)->((am (β:=Bool) .s m (nm x)).getD (dflt .bo)=false->l.length<=4611686018427387904->R (i64.wrap ((i:Int)+1),br .s m (nm x) true))->body R ((i:Int),m))
  (he:∀R m,(l.map nm).Nodup->body R ((l.length:Int),m)) (hN:¬ (l.map nm).Nodup->N):ac body (0,[]):=by
 refine az _ l.length (fun i x=>x.1=(i:Int)/\(∀s,(am (β:=Bool) .s x.2 s).getD (dflt .bo)=decide (s∈(l.take i).map nm))/\((l.take i).map nm).Nodup) (fun R i x hi hx ih=>?_) (fun R x hx=>?_) _ ⟨rfl,fun s=>by simp[am,dflt],by simp⟩
 ·obtain⟨x1,m⟩:=x;obtain⟨h1,h2,h3⟩:=hx;dsimp only at h1 h2;subst h1;refine hs R i m _ hi rfl (fun hc=>hN fun hd=>?_) (fun hc hl=>ih _ ⟨ao Z1,fun s=>?_,?_⟩)
  ·rw[h2]at hc;have hm:=of_decide_eq_true hc
   have e:l=l.take i++l.drop i:=(XX i l).symm
   rw[e,XC,dw l hi,List.map_cons]at hd;exact(Yb.1 hd).2.2 _ hm _ (XK) rfl
  ·dsimp only;rw[kI,bg l hi,XC];by_cases e:nm (l.getD i default)=s
   ·rw[if_pos e];subst e;simp
   ·rw[if_neg e,h2 s,decide_eq_decide];simp only[List.map_cons,List.map_nil,WX,WU];exact⟨.inl,fun h=>h.elim id fun h=>absurd h.symm e⟩
  ·rw[bg l hi,XC,Yb];rw[h2]at hc;refine⟨h3,by simp,fun a ha b hb e=>?_⟩;subst e;obtain rfl:=WU.1 hb;exact(of_decide_eq_false hc) ha
 ·obtain⟨x1,m⟩:=x;obtain⟨h1,h2,h3⟩:=hx;dsimp only at h1;subst h1;rw[Xz]at h3;exact he R m h3
theorem wQ(p:Lt.Program)(l:List Lt.Var)(KK:Bool->Prop)(h:KK (dg p l)):so p l KK:=by
 unfold so;intro hl;unfold dg at h;refine cd l (fun x=>jc p x.Type_) (j5 (l.map (·.Name))) KK (fun R i x hi hx _ ih hf=>?_) (fun R h=>?_) h
 ·simp only[aH hi,Int.toNat_natCast,hx,hi,WO,and_self,true_and,if_true]
  grind
 ·rw[if_neg (by simp)];intro _;refine qI l (·.Name) (KK false) (fun R i m x hi hx h1 h2=>?_) (fun R m hd=>?_) (fun hd=>?_)
  ·simp only[aH hi,Int.toNat_natCast,hx,hi,WO,and_self,true_and,if_true];refine ifk h1 (fun hc=>h2 (by simpa using hc) hl)
  ·rw[if_neg (by simp)];rw[show j5 (l.map (·.Name))=true from decide_eq_true hd]at h;exact h
  ·rw[show j5 (l.map (·.Name))=false from decide_eq_false hd]at h;exact h
theorem FA(p:Lt.Program)(hp:kQ p)(KK:Bool->Prop)(h:KK (il p)):AZ p KK:=by
 unfold AZ;intro J hJ hl1;have kF:∀b1 b2 b3 b4 b5 b6:Bool,il p=(b1&&b2&&b3&&b4&&b5&&b6)->(b1=false\/b2=false\/b3=false\/b4=false\/b5=false\/b6=false)->KK false:=by
  intro b1 b2 b3 b4 b5 b6 e h';have:il p=false:=by
   rw[e];rcases h' with rfl|rfl|rfl|rfl|rfl|rfl<;>simp
  rw[this]at h;exact h
 have kF:=kF _ _ _ _ _ _ rfl
 have jT:KK false->J true:=fun h=>hJ true (by dsimp only;rw[if_pos rfl];exact h)
 refine qI p.Classes (·.Name) (J true) (fun R i m x hi hx h1 h2=>?_) (fun R m hd1=>?_) (fun hd=>jT (kF (.inl (decide_eq_false hd))))
 ·simp only[aH hi,Int.toNat_natCast,hx,hi,WO,and_self,true_and,if_true];exact ifk h1 (fun hc=>h2 (by simpa using hc) hl1)
 rw[if_neg (by simp)];intro hl2;refine qI p.Externs (·.Name) (J true) (fun R i m x hi hx h1 h2=>?_) (fun R m hd2=>?_) (fun hd=>jT (kF (.inr (.inl (decide_eq_false hd)))))
 ·simp only[aH hi,Int.toNat_natCast,hx,hi,WO,and_self,true_and,if_true];exact ifk h1 (fun hc=>h2 (by simpa using hc) hl2)
 rw[if_neg (by simp)];intro hl3;refine qI p.Funcs (·.Name) (J true) (fun R i m x hi hx h1 h2=>?_) (fun R m hd3=>?_) (fun hd=>jT (kF (.inr (.inr (.inl (decide_eq_false hd))))))
 ·simp only[aH hi,Int.toNat_natCast,hx,hi,WO,and_self,true_and,if_true];exact ifk h1 (fun hc=>h2 (by simpa using hc) hl3)
 rw[if_neg (by simp)];refine hJ _ ?_;dsimp only;refine ifk (fun hc=>kF (.inr (.inr (.inr (.inl (by simpa using hc)))))) (fun hc hl4=>?_);refine cd p.Classes (fun c=>dg p c.Fields) (p.Funcs.all fun f=>jc p f.Result&&dg p (f.Params++f.Vars)) KK (fun R i x hi hx _ ih hf=>?_) (fun R h=>?_) ?_
 ·simp only[aH hi,Int.toNat_natCast,hx,hi,WO,and_self,true_and,if_true]
  grind
 ·rw[if_neg (by simp)];intro hl5;refine cd p.Funcs (fun f=>jc p f.Result&&dg p (f.Params++f.Vars)) true KK (fun R i x hi hx hm ih hf=>?_) (fun R h=>?_) (by simpa using h)
  ·simp only[aH hi,Int.toNat_natCast,hx,hi,WO,and_self,true_and,if_true];have hb:=hp x hm
   intro J1 hJ1;have j1:J1 (x.Params++x.Vars):=hJ1 _ (by
    dsimp only;intro J2 hJ2;have j2:=hJ2 (!(jc p x.Result&&dg p (x.Params++x.Vars))) (by
     dsimp only;refine ifk (fun hc=>hf (by rw[XE]at hc;exact hc)) (fun hc=>ih hl5 (by simpa using hc)))
    grind)
   have z:(([]:List Lt.Var).length+x.Params.length<=4611686018427387904/\(([]:List Lt.Var).length+x.Params.length)*32<=140737488355328)/\(x.Params.length+x.Vars.length<=4611686018427387904/\(x.Params.length+x.Vars.length)*32<=140737488355328)/\J1 (x.Params++x.Vars):=by
    refine⟨⟨?_,?_⟩,⟨?_,?_⟩,j1⟩<;>(try simp only[WQ])<;>omega
   exact z
  ·rw[if_neg (by simp)];exact h
 ·have e:il p=((p.Classes.all fun c=>dg p c.Fields)&&p.Funcs.all fun f=>jc p f.Result&&dg p (f.Params++f.Vars)):=by
   unfold il;rw[show j5 (p.Classes.map (·.Name))=true from decide_eq_true hd1,show j5 (p.Externs.map (·.Name))=true from decide_eq_true hd2,show j5 (p.Funcs.map (·.Name))=true from decide_eq_true hd3,show dg p p.Globals=true from by simpa using hc];rfl
  rw[<- e];exact h
theorem OO(f:Lt.Func)(t:Lt.Term)(KK:Bool->Prop)(h:KK (Dp f t)):MX f t KK:=by
 unfold MX;unfold Dp at h;simp only[decide_eq_true_eq];by_cases h1:t.Kind=1
 ·simpa[h1]using h
 by_cases h2:t.Kind=2
 ·cases ho:(cR f t.A).2<;>simpa[h2,ho]using h
 by_cases h3:t.Kind=3
 ·cases ho:(cR f t.A).2<;>simpa[h3,ho]using h
 by_cases h4:t.Kind=4
 ·simpa[h4]using h
 ·simpa[h1,h2,h3,h4]using h
theorem Ly(q:Lt.asked)(a d:List UInt8)(KK:Bool->Prop)(h:KK (lb q a d)):Im q a d KK:=by
 unfold Im;intro hl;refine cd q.args (fun x=>decide (x=a)) (decide (q.dst=d)) KK (fun R i x hi hx _ ih hf=>?_) (fun R h=>?_) h
 ·simp only[aH hi,Int.toNat_natCast,hx,hi,WO,and_self,true_and,if_true]
  grind
 ·rw[if_neg (by simp)];exact h
theorem FE(q:Lt.asked)(KK:Bool->Prop)(h:KK (Ap q)):A3 q KK:=by
 unfold A3;intro J hJ;unfold Ap at h;have:=hJ _ h
 have e:∀l:List Lt.Class,(Lt.fnd (·.Name) q.i.Name l).2=true->(Lt.fnd (·.Name) q.i.Name l).1.Name=q.i.Name:=by
  intro l;induction l with
  |nil=>intro h;cases h
  |cons x r ih=>unfold Lt.fnd;split<;>simp_all
 have e:=e q.p.Classes
 have e0:decide ((q.args.length:Int)=0)=decide (q.args.length=0):=by rw[decide_eq_decide];omega
 rw[e0];unfold bd at *
 grind
theorem CM(q:Lt.asked)(hp:Gh q)(KK:Lt.Var×Bool->Prop)(h:KK (gr q)):xz q KK:=by
 unfold xz;unfold gr at h;obtain⟨h1,h2⟩:=hp;refine⟨⟨by omega,by omega⟩,ifk (fun hc=>?_) (fun hc=>⟨⟨by omega,h1⟩,?_⟩)⟩
 ·rw[if_neg (by simpa using hc)]at h;exact h
 ·rw[if_pos (by simpa using hc)]at h;exact h
theorem zz(q:Lt.asked)(hp:Gi q)(KK:Bool->Prop)(h:KK (qG q)):tX q KK:=by
 unfold tX;unfold qG at h;unfold Gi at hp
 grind
end Go.Am
end

section
namespace Go.Am
open Go
open Lt (nmB toB Gd Rc)
def ro(l:List Bool):Nat:=(l.filter fun b=>!b).length
theorem uK:∀(l:List Bool)(k:Nat),l.getD k true=false->ro (l.set k true)+1=ro l
 |[],k,h=>by simp at h
 |b::r,0,h=>by
  have h:b=false:=h
  subst h;simp[ro]
 |b::r,k+1,h=>by
  have:=uK r k (by simpa using h)
  unfold ro at this⊢;cases b<;>simp_all
theorem qb{α:Type}{body:(α->Prop)->α->Prop}(P:α->Prop)(μ:α->Nat)(hs:∀R x,P x->(∀y,P y->μ y<μ x->R y)->body R x)(x:α)(h:P x):ac body x:=by
 have key:∀n x,P x->μ x<n->mI body n x:=by
  intro n;induction n with
  |zero=>intro x _ h;omega
  |succ n ih=>intro x hx hm;exact hs _ x hx (fun y hy hlt=>ih y hy Z1)
 exact⟨_,key (μ x+1) x h Z1⟩
theorem dj{n:Int}(h1:-9223372036854775808<=n)(h2:n < 9223372036854775808):i64.wrap n=n:=by
 simp only[IntKind.wrap,IntKind.signed,IntKind.bits];simp;omega
theorem r6{l:List Bool}{k:Nat}(h:k<l.length)(b d:Bool):(l.set k b).getD k d=b:=by
 rw[List.getD,W5 h];rfl
theorem dO{l:List Bool}{i:Nat}(h:i<l.length)(k:Nat):(l.set i true).getD k false=(decide (k=i)||l.getD k false):=by
 by_cases e:k=i
 ·subst e;rw[r6 h];simp
 ·rw[List.getD,W2 (fun e'=>e e'.symm),decide_eq_false e];rfl
structure CI (B:List Lt.Block) (out:List Bool) (todo:List Int) (j:Nat):Prop where
 ol:out.length=B.length
 td:∀k∈todo,0<=k/\k < (B.length:Int)/\out.getD k.toNat false=true
 o0:out.getD 0 false=true
 sd:∀k,out.getD k false=true->Rc B k
 cl:∀i,i<B.length->i≠j->out.getD i false=true->(i:Int)∈todo\/∀k,k<B.length->nmB B k∈toB B i->out.getD k false=true
theorem CI.mark{B:List Lt.Block}{out:List Bool}{todo:List Int}{j t:Nat}(h:CI B out todo j)(ht:t<B.length)(hr:Rc B t):CI B (out.set t true) (todo++[(t:Int)]) j:=by
 have hl:t<out.length:=by rw[h.ol];exact ht
 refine⟨by rw[List.length_set];exact h.ol,fun k hk=>?_,?_,fun k hk=>?_,fun i hi hij hm=>?_⟩
 ·rw[dO hl];rcases WX.1 hk with hk|hk
  ·obtain⟨a,b,c⟩:=h.td k hk;exact⟨a,b,by rw[c];simp⟩
  ·obtain rfl:=WU.1 hk;exact⟨by omega,by omega,by simp⟩
 ·rw[dO hl,h.o0];simp
 ·rw[dO hl]at hk;by_cases e:k=t
  ·subst e;exact hr
  ·rw[decide_eq_false e,XG]at hk;exact h.sd k hk
 ·rw[dO hl]at hm;by_cases e:i=t
  ·exact .inl (by rw[e];simp)
  ·rw[decide_eq_false e,XG]at hm;rcases h.cl i hi hij hm with h1|h1
   ·exact .inl (Xr _ h1)
   ·exact .inr fun k hk hmem=>by rw[dO hl,h1 k hk hmem];simp
theorem SG{m:List (List UInt8×Bool)}{K:List (List UInt8)}(h:∀s,(am (β:=Bool) .s m s).getD (dflt .bo)=decide (s∈K))(x:List UInt8):∀s,(am (β:=Bool) .s (br .s m x true) s).getD (dflt .bo)=decide (s∈K++[x]):=fun s=>by
 rw[kI];by_cases e:x=s
 ·rw[if_pos e];subst e;simp
 ·rw[if_neg e,h s,decide_eq_decide];simp only[WX,WU];exact⟨.inl,fun h=>h.elim id fun h=>absurd h.symm e⟩
theorem CE(f:Lt.Func)(hp:Pq f)(KK:Bool->Prop)(h:KK (iq f)):xu f KK:=by
 unfold xu;obtain⟨hn,hto⟩:=hp;have kF:¬ Gd f.Blocks->KK false:=fun hg=>by unfold iq at h;rw[Fa hg]at h;exact h
 have kT:Gd f.Blocks->KK true:=fun hg=>by unfold iq at h;rw[rF hg]at h;exact h
 dsimp only;intro _;refine ifk (fun e=>kF fun g=>by have:=of_decide_eq_true e;have:=g.ps;omega) (fun hne=>?_);have hps:0<f.Blocks.length:=by
  rcases W7 f.Blocks.length with e|e
  ·rw[e]at hne;simp at hne
  ·exact e
 intro _ _;refine az _ f.Blocks.length (fun i v=>v.1=(i:Int)/\(∀k,k<i->am (β:=Int) .s v.2 (nmB f.Blocks k)=some (k:Int))/\(∀s,(∀k,k<i->nmB f.Blocks k≠s)->am (β:=Int) .s v.2 s=none)/\∀a b,a<i->b<i->nmB f.Blocks a=nmB f.Blocks b->a=b) (fun R i v hi⟨e,h1,h2,h3⟩ih=>?_) (fun R v⟨e,h1,h2,hnd⟩=>?_) _ ⟨rfl,fun k hk=>by omega,fun _ _=>rfl,fun a b ha=>by omega⟩
 ·obtain⟨v1,L⟩:=v;dsimp only at e h1 h2⊢;subst e;rw[if_pos (aH hi)];refine⟨ob hi,?_⟩;rw[Int.toNat_natCast];by_cases hx:∃k,k<i/\nmB f.Blocks k=nmB f.Blocks i
  ·obtain⟨k,hk,e⟩:=hx;rw[if_pos]
   ·exact kF fun g=>by have:=g.nd k i Z1 hi e;omega
   ·have:=h1 k hk
    rw[e]at this;rw[show am (β:=Int) .s L (f.Blocks.getD i default).Name=some (k:Int)from this];rfl
  ·have hx:∀k,k<i->nmB f.Blocks k≠nmB f.Blocks i:=fun k hk e=>hx ⟨k,hk,e⟩
   have hno:am (β:=Int) .s L (nmB f.Blocks i)=none:=h2 _ hx
   rw[if_neg (by rw[show am (β:=Int) .s L (f.Blocks.getD i default).Name=none from hno];simp)];refine ih _ ⟨ao Z1,fun k hk=>?_,fun s hs=>?_,fun a b ha hb e=>?_⟩
   ·dsimp only;rw[kI];by_cases e:k=i
    ·subst e;rw[if_pos rfl]
    ·rw[if_neg (fun e'=>hx k Z1 e'.symm)];exact h1 k Z1
   ·dsimp only;rw[kI,if_neg (hs i Z1)];exact h2 s fun k hk=>hs k Z1
   ·rcases W4 a i with h'|h'<;>rcases W4 b i with h''|h''
    ·exact h3 a b h' h'' e
    ·obtain rfl:b=i:=by omega
     exact absurd e (hx a h')
    ·obtain rfl:a=i:=by omega
     exact absurd e.symm (hx b h'')
    ·omega
 obtain⟨v1,L⟩:=v;dsimp only at e h1 h2⊢;subst e;rw[if_neg (by simp)];intro _;have hL:∀s t,am (β:=Int) .s L s=some t->∃k,k<f.Blocks.length/\nmB f.Blocks k=s/\t=(k:Int):=fun s t e=>by
  by_cases hx:∃k,k<f.Blocks.length/\nmB f.Blocks k=s
  ·obtain⟨k,hk,rfl⟩:=hx;rw[h1 k hk]at e;exact⟨k,hk,rfl,(Option.some.inj e).symm⟩
  ·rw[h2 s fun k hk e=>hx ⟨k,hk,e⟩]at e;cases e
 refine az _ f.Blocks.length (fun i v=>v=(i:Int)/\∀a,a<i->(toB f.Blocks a).Nodup/\∀s∈toB f.Blocks a,∃k,k<f.Blocks.length/\k≠0/\nmB f.Blocks k=s) (fun R i v hi⟨e,hok⟩ih=>?_) (fun R v⟨e,hok⟩=>?_) _ ⟨rfl,fun a ha=>by omega⟩
 ·subst e;rw[if_pos (aH hi)];refine⟨ob hi,fun _=>?_⟩;dsimp +instances only [Int.toNat_natCast]
  have hln:=hto _ (bt _ hi)
  have gtn:Gd f.Blocks->(f.Blocks.getD i default).End.To.Nodup:=fun g=>g.tn i hi
  have gtr:Gd f.Blocks->∀s∈(f.Blocks.getD i default).End.To,∃k,k<f.Blocks.length/\k≠0/\nmB f.Blocks k=s:=fun g=>g.tr i hi
  have goal:∀T:List (List UInt8),T=(f.Blocks.getD i default).End.To->(T.Nodup/\∀s∈T,∃k,k<f.Blocks.length/\k≠0/\nmB f.Blocks k=s)->R (i64.wrap ((i:Int)+1)):=fun T e hT=>ih _ ⟨ao Z1,fun a ha=>by
   rcases W4 a i with h'|h'
   ·exact hok a h'
   ·obtain rfl:a=i:=by omega
    subst e;exact hT⟩
  generalize(f.Blocks.getD i default).End.To=T at gtn gtr hln goal;refine az _ T.length (fun k v=>v.1=(k:Int)/\(∀s,(am (β:=Bool) .s v.2 s).getD (dflt .bo)=decide (s∈T.take k))/\(T.take k).Nodup/\∀s∈T.take k,∃k,k<f.Blocks.length/\k≠0/\nmB f.Blocks k=s) (fun R5 k v hk⟨e,hm,hd,hq⟩ih5=>?_) (fun R5 v⟨e,hm,hd,hq⟩=>?_) _ ⟨rfl,fun s=>by simp[am,dflt],by simp,fun s hs=>by simp at hs⟩
  ·obtain⟨v1,m⟩:=v;dsimp only at e hm⊢;subst e;rw[if_pos (aH hk)];dsimp +instances only [Int.toNat_natCast]
   refine⟨ob hk,fun J hJ=>?_⟩;have eg:T.getD k default=T[k]:=by rw[List.getD,WH hk];rfl
   have hmem:T.getD k default∈T:=by rw[eg];exact Xj hk
   have jF:¬ Gd f.Blocks->J true:=fun hg=>hJ true (by dsimp only;rw[if_pos rfl];exact kF hg)
   refine ifk (fun hc=>jF fun g=>?_) (fun hc=>ifk (fun hz=>jF fun g=>?_) (fun hz=>?_))
   ·obtain⟨t,t1,t2,t3⟩:=gtr g _ hmem;have:=h1 t t1
    rw[t3]at this;rw[this]at hc;simp at hc
   ·obtain⟨t,t1,t2,t3⟩:=gtr g _ hmem;have:=h1 t t1
    rw[t3]at this;rw[this]at hz;have hz:=of_decide_eq_true hz
    simp only[Xb]at hz;omega
   ·have hsome:∃t,am (β:=Int) .s L (T.getD k default)=some t:=by
     cases hl:am (β:=Int) .s L (T.getD k default)with
     |none=>rw[hl]at hc;simp at hc
     |some t=>exact⟨t,rfl⟩
    obtain⟨t,ht⟩:=hsome;obtain⟨q,q1,q2,rfl⟩:=hL _ _ ht;refine hJ _ ?_;dsimp only;rw[hm];refine ifk (fun hin=>kF fun g=>?_) (fun hin=>ih5 _ ⟨ao Z1,?_,?_,?_⟩)
    ·have hin:=of_decide_eq_true hin
     have:=gtn g
     rw[<- XX k T,dw T hk]at this;exact(Yb.1 this).2.2 _ hin _ (XK) rfl
    ·rw[bg T hk];exact SG hm _
    ·have hin:T.getD k default ∉ T.take k:=fun h'=>hin (decide_eq_true h')
     rw[bg T hk,Yb];exact⟨hd,by simp,fun a ha b hb e=>by obtain rfl:=WU.1 hb;subst e;exact hin ha⟩
    ·intro s hs;rw[bg T hk]at hs;rcases WX.1 hs with hs|hs
     ·exact hq s hs
     ·obtain rfl:=WU.1 hs;rw[ht]at hz;exact⟨q,q1,fun e=>hz (by subst e;simp),q2⟩
  ·obtain⟨v1,m⟩:=v;dsimp only at e hm⊢;subst e;rw[if_neg (by simp)];rw[Xz]at hd hq;exact goal T rfl ⟨hd,hq⟩
 subst e;rw[if_neg (by simp),if_neg (by simp)];have gd:(∀k,k<f.Blocks.length->Rc f.Blocks k)->Gd f.Blocks:=fun hre=>⟨hps,hnd,fun i hi=>(hok i hi).1,fun i hi=>(hok i hi).2,hre⟩
 have htr:∀i,i<f.Blocks.length->∀s∈toB f.Blocks i,∃k,k<f.Blocks.length/\k≠0/\nmB f.Blocks k=s:=fun i hi=>(hok i hi).2
 have hz:(f.Blocks.length:Int).toNat=f.Blocks.length:=Int.toNat_natCast _
 intro _;rw[hz];have hr:(List.replicate f.Blocks.length (dflt .bo):List Bool).length=f.Blocks.length:=XO
 refine⟨⟨by omega,by omega,by omega⟩,⟨by omega,by rw[hr];omega⟩,by rw[hr];exact hps,?_⟩;have hc0:ro ((List.replicate f.Blocks.length (dflt .bo):List Bool).set 0 true)<=f.Blocks.length:=by
  unfold ro;exact Xo (XY _ _) (by rw[List.length_set,hr];exact WN _)
 have hfin:∀out,CI f.Blocks out [] f.Blocks.length->∀k,Rc f.Blocks k->out.getD k false=true:=fun out hci k hrc=>by
  induction hrc with
  |first _=>exact hci.o0
  |next i k _ hi hk hm ih=>
   rcases hci.cl i hi Z1 ih with h'|h'
   ·cases h'
   ·exact h' k hk hm
 have hstart:CI f.Blocks ((List.replicate f.Blocks.length (dflt .bo):List Bool).set 0 true) [0] f.Blocks.length:=by
  have h00:∀i,i≠0->((List.replicate f.Blocks.length (dflt .bo):List Bool).set 0 true).getD i false=true->False:=fun i e hm=>by
   rw[List.getD,W2 (fun e'=>e e'.symm),List.getElem?_replicate]at hm;split at hm
   ·exact absurd hm (by show ¬ (default:Bool)=true;decide)
   ·simp at hm
  refine⟨by rw[List.length_set,hr],fun k hk=>?_,r6 (by rw[hr];exact hps) _ _,fun k hk=>?_,fun i hi hne hm=>?_⟩
  ·obtain rfl:=WU.1 hk;exact⟨by omega,by omega,r6 (by rw[hr];exact hps) _ _⟩
  ·by_cases e:k=0
   ·subst e;exact .first hps
   ·exact(h00 k e hk).elim
  ·by_cases e:i=0
   ·exact .inl (by rw[e];simp)
   ·exact(h00 i e hm).elim
 refine qb (fun v=>CI f.Blocks v.1 v.2 f.Blocks.length/\2*ro v.1+v.2.length<=3000000) (fun v=>2*ro v.1+v.2.length) (fun R9 v⟨hci,hms⟩ih9=>?_) _ ⟨hstart,by simp only[WL,WQ];omega⟩;obtain⟨out,todo⟩:=v;dsimp only at hci hms ih9⊢;intro htl;refine ifk (fun hpos=>?_) (fun hemp=>?_)
 rotate_left
 ·have ht0:todo=[]:=Xw (by simp at hemp;simp[hemp])
  subst ht0;have all:=hfin out hci
  intro _;refine az _ out.length (fun i v=>v=(i:Int)/\∀a,a<i->out.getD a false=true) (fun R i v hi⟨e,ha⟩ih=>?_) (fun R v⟨e,ha⟩=>?_) _ ⟨rfl,fun a ha=>by omega⟩
  ·subst e;rw[if_pos (aH hi)];refine⟨⟨by omega,by omega⟩,?_⟩;rw[Int.toNat_natCast];have hi2:i<f.Blocks.length:=by rw[<- hci.ol];exact hi
   refine ifk (fun hc=>kF fun g=>?_) (fun hc=>ih _ ⟨ao (by have:=hci.ol;omega),fun a ha'=>?_⟩)
   ·have h5:=all i (g.re i hi2)
    have h6:out.getD i default=false:=by simpa using hc
    have:(false:Bool)=true:=by rw[<- h6];exact h5
    cases this
   ·rcases W4 a i with h'|h'
    ·exact ha a h'
    ·obtain rfl:a=i:=by omega
     simpa using hc
  ·subst e;rw[if_neg (by simp)];exact kT (gd fun k hk=>hci.sd k (ha k (by rw[hci.ol];exact hk)))
 have hpos:0<todo.length:=by have:=of_decide_eq_true hpos;omega
 have hw:i64.wrap ((todo.length:Int) - 1)=((todo.length - 1:Nat):Int):=by
  rw[dj Z1 Z1];omega
 rw[hw];dsimp +instances only [Int.toNat_natCast]
 generalize hmm:todo.length - 1=m;have hsplit:todo=todo.take m++[todo.getD m default]:=by
  have:=bg todo (i:=m) Z1
  rw[List.take_of_length_le Z1]at this;exact this
 have hjm:todo.getD m default∈todo:=bt _ Z1
 generalize todo.getD m default=j at hsplit hjm;obtain⟨j1,j2,j3⟩:=hci.td j hjm;intro J hJ _;have goJ:J (f.Blocks.getD j.toNat default):=hJ _ ?_
 ·have z1:((0:Int)<=j/\j.toNat<f.Blocks.length)/\J (f.Blocks.getD j.toNat default):=⟨⟨j1,by omega⟩,goJ⟩
  exact⟨⟨by omega,by omega⟩,⟨z1,z1⟩,⟨z1,z1⟩,z1⟩
 dsimp only;intro _;refine⟨⟨by omega,by omega⟩,fun _=>?_⟩;have hjn:j.toNat<f.Blocks.length:=by omega
 have htr:∀s∈(f.Blocks.getD j.toNat default).End.To,∃k,k<f.Blocks.length/\k≠0/\nmB f.Blocks k=s:=htr _ hjn
 have hsuc:∀k,nmB f.Blocks k∈toB f.Blocks j.toNat->nmB f.Blocks k∈(f.Blocks.getD j.toNat default).End.To:=fun k h=>h
 have hrcj:∀k,k<f.Blocks.length->nmB f.Blocks k∈(f.Blocks.getD j.toNat default).End.To->Rc f.Blocks k:=fun k hk hm=>.next j.toNat k (hci.sd _ j3) hjn hk hm
 have hln:=hto _ (bt _ hjn)
 have htl1:(todo.take m).length+1=todo.length:=by rw[Xk];omega
 have hci0:CI f.Blocks out (todo.take m) j.toNat:=by
  refine⟨hci.ol,fun k hk=>hci.td k (Yc hk),hci.o0,hci.sd,fun i hi hij hm=>?_⟩;rcases hci.cl i hi Z1 hm with h'|h'
  ·rw[hsplit]at h';rcases WX.1 h' with h'|h'
   ·exact .inl h'
   ·have:=WU.1 h'
    exact absurd this Z1
  ·exact .inr h'
 generalize(f.Blocks.getD j.toNat default).End.To=T at htr hsuc hln hrcj;refine az _ T.length (fun k v=>v.2.2=(k:Int)/\CI f.Blocks v.1 v.2.1 j.toNat/\(∀q,q<k->∀u,u<f.Blocks.length->nmB f.Blocks u=T.getD q default->v.1.getD u false=true)/\2*ro v.1+v.2.1.length+1<=2*ro out+todo.length) (fun R13 k v hk⟨e,hc,hq,hmu⟩ih13=>?_) (fun R13 v⟨e,hc,hq,hmu⟩=>?_) _ ⟨rfl,hci0,fun q hq=>by omega,by dsimp only;omega⟩
 ·obtain⟨o3,t3,v3⟩:=v;dsimp only at e hc hq hmu⊢;subst e;rw[if_pos (aH hk)];dsimp +instances only [Int.toNat_natCast]
  obtain⟨t,t1,t2,t4⟩:=htr (T.getD k default) (bt _ hk);have el:=h1 t t1
  rw[t4]at el;rw[el];intro J15 hJ15;have ol:=hc.ol
  refine⟨ob hk,⟨by simp,by simp only[Xb];omega⟩,?_⟩;simp only[Xb,Int.toNat_natCast];have hto3:t<o3.length:=by omega
  have on:∀o' t',CI f.Blocks o' t' j.toNat->o'.getD t false=true->(∀u,o3.getD u false=true->o'.getD u false=true)->2*ro o'+t'.length<=2*ro o3+t3.length->J15 (o',t'):=fun o' t' a1 a2 a3 a4=>by
   refine hJ15 _ (ih13 _ ⟨ao Z1,a1,fun q hq' u hu e=>?_,by dsimp only;omega⟩);rcases W4 q k with h'|h'
   ·exact a3 u (hq q h' u hu e)
   ·obtain rfl:q=k:=by omega
    have:u=t:=hnd u t hu t1 (e.trans t4.symm)
    subst this;exact a2
  refine ifk (fun hf=>?_) (fun hf=>?_)
  ·have hf0:o3.getD t true=false:=by
    rw[List.getD,WH hto3]at hf⊢;simpa using hf
   have hcn:=uK o3 t hf0
   refine⟨⟨by omega,by omega⟩,hto3,⟨by simp only[WL,WQ];omega,by simp only[WL,WQ];omega⟩,on _ _ (hc.mark t1 (hrcj t t1 (by rw[t4];exact bt _ hk))) ?_ (fun u hu=>?_) ?_⟩
   ·rw[dO hto3];simp
   ·rw[dO hto3,hu];simp
   ·simp only[WM,WL,WQ];omega
  ·have hf1:o3.getD t default=true:=by simpa using hf
   exact on _ _ hc hf1 (fun _ h=>h) (WN _)
 ·obtain⟨o3,t3,v3⟩:=v;dsimp only at e hc hq hmu⊢;subst e;rw[if_neg (by simp)];refine ih9 _ ⟨⟨hc.ol,hc.td,hc.o0,hc.sd,fun i hi _ hm=>?_⟩,by dsimp only;omega⟩ (by dsimp only;omega);by_cases e:i=j.toNat
  ·subst e;refine .inr fun k hk hmem=>?_
   obtain⟨q,hq1,hq2⟩:=X0.1 (hsuc k hmem);exact hq q hq1 k hk (by rw[<- hq2,List.getD,WH hq1];rfl)
  ·exact hc.cl i hi e hm
end Go.Am
end

section
namespace Go.Am
open Go
theorem CG(f:Lt.Func)(s:List UInt8)(KK:Int×Bool->Prop)(h:KK (ir f s)):xw f s KK:=by
 unfold xw;intro hl;unfold ir at h;refine az _ f.Blocks.length (fun i x=>x=(i:Int)/\KK (jH s (f.Blocks.drop i) (i:Int))) (fun R i x hi hx ih=>?_) (fun R x hx=>?_) 0 ⟨rfl,h⟩
 ·obtain⟨rfl,h⟩:=hx;rw[dw _ hi]at h;rw[if_pos (aH hi)];refine⟨ob hi,?_⟩;simp only[Int.toNat_natCast];unfold jH at h;refine ifk (fun hp=>?_) (fun hp=>?_)
  ·rw[if_pos (by simpa using hp)]at h;exact h
  ·rw[if_neg (by simpa using hp)]at h;exact ih _ ⟨ao Z1,h⟩
 ·obtain⟨rfl,h⟩:=hx;rw[if_neg (by simp)];rw[XM]at h;exact h
theorem Lk(l:List Int)(v:Int)(KK:Int->Prop)(h:KK (Cv l v)):G8 l v KK:=by
 unfold G8;intro hl;unfold Cv at h;refine az _ l.length (fun i x=>x=(i:Int)/\KK (wM v (l.drop i) (i:Int))) (fun R i x hi hx ih=>?_) (fun R x hx=>?_) 0 ⟨rfl,h⟩
 ·obtain⟨rfl,h⟩:=hx;rw[dw _ hi]at h;rw[if_pos (aH hi)];refine⟨ob hi,?_⟩;simp only[Int.toNat_natCast];unfold wM at h;refine ifk (fun hp=>?_) (fun hp=>?_)
  ·rw[if_pos (by simpa using hp)]at h;exact h
  ·rw[if_neg (by simpa using hp)]at h;exact ih _ ⟨ao Z1,h⟩
 ·obtain⟨rfl,h⟩:=hx;rw[if_neg (by simp)];rw[XM]at h;exact h
theorem Ll(l:List (List UInt8))(v:List UInt8)(KK:Int->Prop)(h:KK (Cw l v)):G9 l v KK:=by
 unfold G9;intro hl;unfold Cw at h;refine az _ l.length (fun i x=>x=(i:Int)/\KK (wM v (l.drop i) (i:Int))) (fun R i x hi hx ih=>?_) (fun R x hx=>?_) 0 ⟨rfl,h⟩
 ·obtain⟨rfl,h⟩:=hx;rw[dw _ hi]at h;rw[if_pos (aH hi)];refine⟨ob hi,?_⟩;simp only[Int.toNat_natCast];unfold wM at h;refine ifk (fun hp=>?_) (fun hp=>?_)
  ·rw[if_pos (by simpa using hp)]at h;exact h
  ·rw[if_neg (by simpa using hp)]at h;exact ih _ ⟨ao Z1,h⟩
 ·obtain⟨rfl,h⟩:=hx;rw[if_neg (by simp)];rw[XM]at h;exact h
theorem Fi(l:List Int)(v:Int)(KK:Bool->Prop)(h:KK (uZ l v)):MO l v KK:=h
theorem Fj(l:List (List UInt8))(v:List UInt8)(KK:Bool->Prop)(h:KK (rE l v)):MP l v KK:=h
theorem u7{α:Type}[DecidableEq α](v:α):∀(l:List α)(i:Int),0<=i->(0<=wM v l i ↔ v∈l)
 |[],i,h=>by simp[wM]
 |x::r,i,h=>by
  unfold wM;by_cases e:v=x
  ·rw[if_pos e];simp[e,h]
  ·rw[if_neg e,u7 v r (i+1) Z1];simp[e]
theorem K8(l:List Int)(v:Int):uZ l v=decide (v∈l):=by
 unfold uZ Cv;rw[decide_eq_decide];exact u7 v l 0 Z1
theorem K9(l:List (List UInt8))(v:List UInt8):rE l v=decide (v∈l):=by
 unfold rE Cw;rw[decide_eq_decide];exact u7 v l 0 Z1
theorem bY{α:Type}(l:List α){i:Nat}(h:i<l.length)(k:Nat)(x d:α):(l.set i x).getD k d=if k=i then x else l.getD k d:=by
 by_cases e:k=i
 ·subst e;rw[if_pos rfl,List.getD,W5 h];rfl
 ·rw[if_neg e,List.getD,W2 (fun e'=>e e'.symm)];rfl
theorem uP{α:Type}(d:α){l m:List α}(h:l.length=m.length)(h2:∀k,k<l.length->l.getD k d=m.getD k d):l=m:=by
 refine List.ext_getElem h fun k h1 h3=>?_
 have:=h2 k h1
 rw[List.getD,List.getD,WH h1,WH h3]at this;exact this
theorem p9{α β:Type}[Inhabited α](g:α->β)(l:List α){k:Nat}(h:k<l.length)(d:β):(l.map g).getD k d=g (l.getD k default):=by
 rw[List.getD,List.getD,WK,WH h];rfl
theorem qt{α:Type}(n k:Nat)(d:α):(List.replicate n d).getD k d=d:=by
 rw[List.getD,List.getElem?_replicate];split<;>rfl
theorem om{α β:Type}(g:α->Option β)(l:List α):(l.filterMap g).length<=l.length:=List.length_filterMap_le _ _
theorem OH(f:Lt.Func)(hp:qg f)(KK:List (List Int)->Prop)(h:KK (gM f)):MN f KK:=by
 unfold MN;obtain⟨hn,hto⟩:=hp;dsimp only;have hz:(f.Blocks.length:Int).toNat=f.Blocks.length:=Int.toNat_natCast _
 intro _;rw[hz];refine⟨⟨by omega,by omega,by omega⟩,fun _=>?_⟩;refine az _ f.Blocks.length (fun i v=>v.2=(i:Int)/\v.1.length=f.Blocks.length/\(∀k,i<=k->v.1.getD k []=[])/\∀k,k<i->v.1.getD k []=(Lt.toB f.Blocks k).filterMap (fX f)) (fun R i v hi⟨e,h1,h2,h3⟩ih=>?_) (fun R v⟨e,h1,h2,h3⟩=>?_) _ ⟨rfl,by simp,fun k _=>qt _ _ _,fun k hk=>by omega⟩
 ·obtain⟨out,v2⟩:=v;dsimp only at e h1 h2 h3⊢;subst e;rw[if_pos (aH hi)];refine⟨ob hi,fun _=>?_⟩;dsimp +instances only [Int.toNat_natCast]
  have hln:=hto _ (bt _ hi)
  have goal:∀T:List (List UInt8),T=Lt.toB f.Blocks i->∀o:List (List Int),o.length=f.Blocks.length->(∀k,k≠i->o.getD k []=out.getD k [])->o.getD i []=T.filterMap (fX f)->R (o,i64.wrap ((i:Int)+1)):=fun T e o o1 o2 o3=>ih _ ⟨ao Z1,o1,fun k hk=>by rw[o2 k Z1];exact h2 k Z1,fun k hk=>by
   rcases W4 k i with h'|h'
   ·rw[o2 k Z1];exact h3 k h'
   ·obtain rfl:k=i:=by omega
    rw[o3,e]⟩
  have hln:(f.Blocks.getD i default).End.To.length<=1000000:=hln
  have goal:=goal (f.Blocks.getD i default).End.To rfl
  generalize(f.Blocks.getD i default).End.To=T at hln goal;refine az _ T.length (fun j v=>v.2=(j:Int)/\v.1.length=f.Blocks.length/\(∀k,k≠i->v.1.getD k []=out.getD k [])/\v.1.getD i []=(T.take j).filterMap (fX f)) (fun R3 j v hj⟨e,g1,g2,g3⟩ih3=>?_) (fun R3 v⟨e,g1,g2,g3⟩=>?_) _ ⟨rfl,h1,fun _ _=>rfl,by rw[h2 i (WN _)];rfl⟩
  ·obtain⟨o,v4⟩:=v;dsimp only at e g1 g2 g3⊢;subst e;rw[if_pos (aH hj)];intro J hJ;refine⟨ob hj,?_⟩;dsimp +instances only [Int.toNat_natCast]
   have hlo:(o.getD i []).length<=1000000:=by
    rw[g3];exact Xo (om _ _) (Xo (List.length_take_le _ _) Z1)
   have hio:i<o.length:=by omega
   refine ifk (fun hc=>?_) (fun hc=>hJ _ (ih3 _ ⟨ao Z1,g1,g2,?_⟩))
   ·have hm:fX f (T.getD j default)=some (ir f (T.getD j default)).1:=by unfold fX;rw[if_pos hc]
    refine⟨⟨by omega,by omega⟩,⟨by simp only[WL,WQ];omega,by simp only[WL,WQ];omega⟩,⟨by omega,by omega⟩,hio,rfl,hJ _ (ih3 _ ⟨ao Z1,by dsimp only;rw[List.length_set];exact g1,fun k hk=>?_,?_⟩)⟩
    ·dsimp only;rw[bY _ hio,if_neg hk];exact g2 k hk
    ·dsimp only;rw[bY _ hio,if_pos rfl,g3,bg T hj,List.filterMap_append];simp only[List.filterMap_cons,hm,List.filterMap_nil]
   ·have hm:fX f (T.getD j default)=none:=by unfold fX;rw[if_neg hc]
    dsimp only;rw[g3,bg T hj,List.filterMap_append];simp only[List.filterMap_cons,hm,List.filterMap_nil,X4]
  ·obtain⟨o,v4⟩:=v;dsimp only at e g1 g2 g3⊢;subst e;rw[if_neg (by simp)];rw[Xz]at g3;exact goal o g1 g2 g3
 ·obtain⟨out,v2⟩:=v;dsimp only at e h1 h2 h3⊢;subst e;rw[if_neg (by simp)];have:out=gM f:=uP [] (by rw[h1];unfold gM;rw[WJ]) fun k hk=>by
   rw[h3 k Z1];unfold gM;rw[p9 _ _ Z1]
  rw[this];exact h
theorem PJ(p:Nat->Bool)(i:Nat):(List.range (i+1)).filter p=(List.range i).filter p++(if p i=true then [i]else []):=by
 rw[List.range_succ,Yj];cases h:p i<;>simp[h]
theorem CD(g:List (List Int))(hp:qh g)(KK:List (List Int)->Prop)(h:KK (fA g)):xt g KK:=by
 unfold xt;obtain⟨hn,hto⟩:=hp;dsimp only;have hz:(g.length:Int).toNat=g.length:=Int.toNat_natCast _
 intro _;rw[hz];refine⟨⟨by omega,by omega,by omega⟩,fun _=>?_⟩
 let pr:Nat->Nat->List Int:=fun i k=>((List.range i).filter fun i=>decide ((k:Int)∈g.getD i [])).map fun(i:Nat)=>(i:Int)
 have pl:∀i k,(pr i k).length<=i:=fun i k=>by
  show(List.map _ _).length<=i
  rw[WJ];exact Xo (XY _ _) (by rw[X1];exact WN _)
 have pn:∀i k,(i:Int) ∉ pr i k:=fun i k hm=>by
  obtain⟨a,ha,e⟩:=Xa.1 hm;have:=Yi.1 (X5.1 ha).1
  omega
 have ps:∀i k,pr (i+1) k=pr i k++(if(k:Int)∈g.getD i []then [(i:Int)]else []):=fun i k=>by
  show List.map _ _=List.map _ _++_
  rw[PJ,XC];by_cases e:(k:Int)∈g.getD i []
  ·rw[if_pos e,if_pos (decide_eq_true e)];rfl
  ·rw[if_neg e,if_neg (by simpa using e)];rfl
 refine az _ g.length (fun i v=>v.2=(i:Int)/\v.1.length=g.length/\∀k,k<g.length->v.1.getD k []=pr i k) (fun R i v hi⟨e,h1,h2⟩ih=>?_) (fun R v⟨e,h1,h2⟩=>?_) _ ⟨rfl,by simp,fun k _=>qt _ _ _⟩
 ·obtain⟨out,v2⟩:=v;dsimp only at e h1 h2⊢;subst e;rw[if_pos (aH hi)];refine⟨ob hi,fun _=>?_⟩;dsimp +instances only [Int.toNat_natCast]
  have hln:=hto _ (by rw[List.getD,WH hi];exact Xj hi:g.getD i []∈g)
  have goal:∀T:List Int,T=g.getD i []->∀o:List (List Int),o.length=g.length->(∀k,k<g.length->o.getD k []=pr i k++(if(k:Int)∈T then [(i:Int)]else []))->R (o,i64.wrap ((i:Int)+1)):=fun T e o o1 o2=>ih _ ⟨ao Z1,o1,fun k hk=>by rw[ps,<- e];exact o2 k hk⟩
  have goal:=goal (g.getD i []) rfl
  generalize g.getD i []=T at hln goal;refine az _ T.length (fun j v=>v.2=(j:Int)/\v.1.length=g.length/\∀k,k<g.length->v.1.getD k []=pr i k++(if(k:Int)∈T.take j then [(i:Int)]else [])) (fun R3 j v hj⟨e,g1,g2⟩ih3=>?_) (fun R3 v⟨e,g1,g2⟩=>?_) _ ⟨rfl,h1,fun k hk=>by rw[h2 k hk];simp⟩
  ·obtain⟨o,v4⟩:=v;dsimp only at e g1 g2⊢;subst e;rw[if_pos (aH hj)];intro J hJ;refine⟨ob hj,fun J7 hJ7=>?_⟩;dsimp +instances only [Int.toNat_natCast]at hJ7⊢
   have tk:=bg T hj
   generalize T.getD j default=z at hJ7 tk⊢;have stay:¬ (0<=z/\z < (g.length:Int))\/z∈T.take j->J o:=fun hh=>hJ _ (ih3 _ ⟨ao Z1,g1,fun k hk=>by
    dsimp only;rw[g2 k hk,tk];have:(k:Int)∈T.take j++[z] ↔ (k:Int)∈T.take j:=by
     rw[WX,WU];exact⟨fun h=>h.elim id fun e=>hh.elim (fun hh=>absurd ⟨by omega,by omega⟩ hh) (fun hh=>by rw[e];exact hh),.inl⟩
    simp only[this]⟩)
   refine ifk (fun h0=>ifk (fun h1'=>?_) (fun h1'=>?_)) (fun h0=>?_)
   ·have h0:=of_decide_eq_true h0
    have h1':=of_decide_eq_true h1'
    have hzo:z.toNat<o.length:=by omega
    have ez:((z.toNat:Nat):Int)=z:=by omega
    have eg:=g2 z.toNat Z1
    rw[ez]at eg;have hb:(o.getD z.toNat []).length<=1000001:=by
     rw[eg,WM];have:=pl i z.toNat
     split<;>simp only[WL,WQ]<;>omega
    have hin:uZ (o.getD z.toNat []) (i:Int)=decide (z∈T.take j):=by
     rw[K8,decide_eq_decide,eg,WX];have:=pn i z.toNat
     by_cases e:z∈T.take j
     ·rw[if_pos e];simp[e]
     ·rw[if_neg e];simp[e,this]
    refine⟨⟨by omega,by omega⟩,trivial,hJ7 _ ?_⟩;rw[hin];refine ifk (fun hc=>?_) (fun hc=>stay (.inr (by simpa using hc)));have hc:z ∉ T.take j:=by simpa using hc
    refine⟨⟨by omega,by omega⟩,⟨by simp only[WL,WQ];omega,by simp only[WL,WQ];omega⟩,⟨by omega,by omega⟩,hzo,rfl,hJ _ (ih3 _ ⟨ao Z1,by dsimp only;rw[List.length_set];exact g1,fun k hk=>?_⟩)⟩;dsimp only;rw[bY _ hzo,tk];by_cases e:k=z.toNat
    ·have e':(k:Int)=z:=by omega
     rw[if_pos e,eg,e',if_neg hc,if_pos (by simp),e];simp
    ·rw[if_neg e,g2 k hk];have:(k:Int)∈T.take j++[z] ↔ (k:Int)∈T.take j:=by
      rw[WX,WU];exact⟨fun h=>h.elim id fun e'=>by omega,.inl⟩
     simp only[this]
   ·refine hJ7 _ ?_;rw[if_neg (by simp)];exact stay (.inl fun h'=>h1' (by simpa using h'.2))
   ·refine hJ7 _ ?_;rw[if_neg (by simp)];exact stay (.inl fun h'=>h0 (by simpa using h'.1))
  ·obtain⟨o,v4⟩:=v;dsimp only at e g1 g2⊢;subst e;rw[if_neg (by simp)];rw[Xz]at g2;exact goal o g1 g2
 ·obtain⟨out,v2⟩:=v;dsimp only at e h1 h2⊢;subst e;rw[if_neg (by simp)];have:out=fA g:=uP [] (by rw[h1];unfold fA;rw[WJ,X1]) fun k hk=>by
   rw[h2 k Z1];unfold fA;rw[p9 _ _ (by rw[X1];omega),List.getD,List.getElem?_range Z1];rfl
  rw[this];exact h
abbrev VM:=List (List UInt8×Bool)
def VMo(m:VM):Prop:=(m.map (·.1)).Nodup/\∀x∈m,x.2=true
theorem iS(k:List UInt8)(v:Bool):∀m:VM,(br .s m k v).map (·.1)=if k∈m.map (·.1)then m.map (·.1)else m.map (·.1)++[k]
 |[]=>by simp[br]
 |x::l=>by
  have ih:=iS k v l
  simp only[br,gX];by_cases e:x.1=k
  ·rw[decide_eq_true e,if_pos (by simp[e])];simp[e]
  ·rw[decide_eq_false e];simp only[List.map_cons,ih,WR];have e':¬ k=x.1:=fun h=>e h.symm
   by_cases h:k∈l.map (·.1)
   ·rw[if_pos h,if_pos (.inr h)]
   ·rw[if_neg h,if_neg (by simp only[e',h,or_self,not_false_eq_true])];rfl
theorem Cr(k:List UInt8):∀m:VM,(∀x∈m,x.2=true)->∀x∈br .s m k true,x.2=true
 |[],h,x,hx=>by
  simp only[br,WU]at hx;rw[hx]
 |y::l,h,x,hx=>by
  simp only[br,gX]at hx;by_cases e:y.1=k
  ·rw[decide_eq_true e]at hx;rcases WR.1 hx with hx|hx
   ·rw[hx]
   ·exact h x (WV _ hx)
  ·rw[decide_eq_false e]at hx;rcases WR.1 hx with hx|hx
   ·rw[hx];exact h y (XK)
   ·exact Cr k l (fun z hz=>h z (WV _ hz)) x hx
theorem VMo.ins{m:VM}(h:VMo m)(k:List UInt8):VMo (br .s m k true):=by
 refine⟨?_,Cr k m h.2⟩;rw[iS];split
 ·exact h.1
 ·rename_i hk;rw[Yb];exact⟨h.1,by simp,fun a ha b hb e=>by obtain rfl:=WU.1 hb;subst e;exact hk ha⟩
theorem VMo.nil:VMo []:=⟨List.nodup_nil,fun x h=>by cases h⟩
theorem C2:∀{m:VM},(∀x∈m,x.2=true)->∀v,(am (β:=Bool) .s m v).getD false=decide (v∈m.map (·.1))
 |[],_,v=>by simp[am]
 |x::l,h,v=>by
  simp only[am,gX];by_cases e:x.1=v
  ·rw[decide_eq_true e];simp[h x (XK),e]
  ·rw[decide_eq_false e];show(am (β:=Bool) .s l v).getD false=_
   rw[C2 (fun z hz=>h z (WV _ hz)) v,decide_eq_decide];have e':¬ v=x.1:=fun h=>e h.symm
   simp[e']
def okU(U:List (List UInt8))(s:Lt.Vs):Prop:=∃m,s=some m/\VMo m/\∀v∈m.map (·.1),v∈U
theorem gl{m:VM}(h:VMo m)(v:List UInt8):aT (some m) v=decide (v∈m.map (·.1)):=C2 h.2 v
theorem okU.len{U:List (List UInt8)}{s:Lt.Vs}(h:okU U s):(s.getD []).length<=U.length:=by
 obtain⟨m,rfl,h1,h2⟩:=h;have:=List.Nodup.length_le_of_subset h1.1 (l₂:=U) h2
 simpa using this
theorem okU.isS{U:List (List UInt8)}{s:Lt.Vs}(h:okU U s):s.isSome=true:=by obtain⟨m,rfl,_⟩:=h;rfl
theorem okU.nil(U:List (List UInt8)):okU U (some []):=⟨[],rfl,.nil,fun v h=>by cases h⟩
theorem okU.le{U:List (List UInt8)}{s t:Lt.Vs}(hs:okU U s)(ht:okU U t)(h:∀v,aT s v=true->aT t v=true):(s.getD []).length<=(t.getD []).length:=by
 obtain⟨m,rfl,h1,_⟩:=hs;obtain⟨n,rfl,g1,_⟩:=ht;have:=List.Nodup.length_le_of_subset h1.1 (l₂:=n.map (·.1)) fun v hv=>by
  have:=h v (by rw[gl h1];exact decide_eq_true hv)
  rw[gl g1]at this;exact of_decide_eq_true this
 simpa using this
theorem okU.same{U:List (List UInt8)}{s t:Lt.Vs}(hs:okU U s)(ht:okU U t)(h:∀v,aT s v=true->aT t v=true)(e:(s.getD []).length=(t.getD []).length):∀v,aT t v=true->aT s v=true:=by
 obtain⟨m,rfl,h1,_⟩:=hs;obtain⟨n,rfl,g1,_⟩:=ht;intro v hv;rw[gl g1]at hv;have hv:=of_decide_eq_true hv
 rw[gl h1];refine decide_eq_true (Classical.byContradiction fun hn=>?_);have:=List.Nodup.length_le_of_subset (l₁:=v::m.map (·.1)) (Xl.2 ⟨hn,h1.1⟩) (l₂:=n.map (·.1)) fun u hu=>by
  rcases WR.1 hu with rfl|hu
  ·exact hv
  ·have:=h u (by rw[gl h1];exact decide_eq_true hu)
   rw[gl g1]at this;exact of_decide_eq_true this
 simp only[WL,WJ]at this;simp only[Xb]at e;omega
theorem Ck(m:VM)(k v:List UInt8):aT (some (br .s m k true)) v=(decide (k=v)||aT (some m) v):=by
 unfold aT;simp only[Xb];rw[kI];by_cases e:k=v
 ·rw[if_pos e,decide_eq_true e];rfl
 ·rw[if_neg e,decide_eq_false e];rfl
theorem B9:∀(l:List (List UInt8))(m:VM)v,aT (some (l.foldl (fun m v=>br .s m v true) m)) v=(aT (some m) v||decide (v∈l))
 |[],m,v=>by simp
 |k::r,m,v=>by
  rw[List.foldl_cons,B9 r,Ck];by_cases e:k=v
  ·simp[e]
  ·have e':¬ v=k:=fun h=>e h.symm
   simp[e,e']
theorem tB(s:Lt.Vs)(l:List (List UInt8))(v:List UInt8):aT (w6 s l) v=(aT s v||decide (v∈l)):=by
 unfold w6;rw[B9];rfl
theorem IY{U:List (List UInt8)}:∀(l:List (List UInt8))(m:VM),okU U (some m)->(∀v∈l,v∈U)->okU U (some (l.foldl (fun m v=>br .s m v true) m))
 |[],m,h,_=>h
 |k::r,m,h,hl=>by
  rw[List.foldl_cons];refine IY r _ ?_ fun v hv=>hl v (WV _ hv)
  obtain⟨m',e,h1,h2⟩:=h;obtain rfl:=Option.some.inj e;refine⟨_,rfl,h1.ins k,fun v hv=>?_⟩;rw[iS]at hv;split at hv
  ·exact h2 v hv
  ·rcases WX.1 hv with hv|hv
   ·exact h2 v hv
   ·rw[WU.1 hv];exact hl k (XK)
theorem okU.put{U:List (List UInt8)}{s:Lt.Vs}(h:okU U s){l:List (List UInt8)}(hl:∀v∈l,v∈U):okU U (w6 s l):=by
 obtain⟨m,rfl,h1,h2⟩:=h;exact IY l m ⟨m,rfl,h1,h2⟩ hl
theorem vS{α:Type}[Inhabited α]{body:(Int×VM->Prop)->Int×VM->Prop}(l:List α)(nm:α->List (List UInt8))(m:VM)(KK:Lt.Vs->Prop)
  (hs:∀R(i:Nat)m,i<l.length->(l.length<=4611686018427387904->R (i64.wrap ((i:Int)+1),(nm (l.getD i default)).foldl (fun m v=>br .s m v true) m))->body R ((i:Int),m))
  (he:∀R m,KK (some m)->body R ((l.length:Int),m)) (h:KK (w6 (some m) (l.flatMap nm))):ac body (0,m):=by
 refine fW l (fun m i=>(i,m)) (fun r m=>KK (w6 (some m) (r.flatMap nm))) (fun R m i x r hi hx _ ih h=>hs R i m hi fun hl=>ih hl _ ?_) (fun R m h=>he R m h) m h;rw[hx];unfold w6 at h⊢;rw[Xe,List.foldl_append]at h;exact h
theorem B8{α:Type}(g:α->List UInt8)(l:List α):l.flatMap (fun x=>[g x])=l.map g:=by
 induction l with
 |nil=>rfl
 |cons x r ih=>rw[Xe,ih];rfl
theorem zx(f:Lt.Func)(KK:Lt.Vs->Prop)(h:KK (Bw f)):tV f KK:=by
 unfold tV;intro hl;refine vS f.Params (fun x=>[x.Name]) [] KK (fun R i m hi ih=>?_) (fun R m h=>?_) (by rw[B8];exact h)
 ·rw[if_pos (aH hi)];exact⟨ob hi,ih hl⟩
 ·rw[if_neg (by simp)];exact h
theorem Ff(s:Lt.Vs)(b:Lt.Block)(hp:sN s b)(KK:Lt.Vs->Prop)(h:KK (jQ s b)):AH s b KK:=by
 unfold AH;refine⟨hp,fun hl=>?_⟩;have es:some (s.getD [])=s:=by unfold sN at hp;cases s with|none=>simp at hp|some m=>rfl
 refine vS b.Phis (fun x=>[x.Dst]) (s.getD []) KK (fun R i m hi ih=>?_) (fun R m h=>?_) (by rw[B8,es];exact h)
 ·rw[if_pos (aH hi)];exact⟨ob hi,ih hl⟩
 ·rw[if_neg (by simp)];exact h
theorem Rn{α:Type}(g:α->List UInt8)(l:List α):l.flatMap (fun x=>if g x=[]then []else [g x])=(l.map g).filter fun d=>!decide (d=[]):=by
 induction l with
 |nil=>rfl
 |cons x r ih=>
  rw[Xe,ih,List.map_cons,Yr];by_cases e:g x=[]
  ·rw[if_pos e,if_neg (by simp[e])];rfl
  ·rw[if_neg e,if_pos (by simp[e])];rfl
theorem Fe(s:Lt.Vs)(b:Lt.Block)(hp:sN s b)(KK:Lt.Vs->Prop)(h:KK (fP s b)):AG s b KK:=by
 unfold AG;refine⟨hp,fun hl=>?_⟩;have es:some (s.getD [])=s:=by unfold sN at hp;cases s with|none=>simp at hp|some m=>rfl
 refine vS b.Code (fun x=>if x.Dst=[]then []else [x.Dst]) (s.getD []) KK (fun R i m hi ih=>?_) (fun R m h=>?_) (by rw[Rn,es];exact h)
 ·rw[if_pos (aH hi)];intro J hJ;dsimp +instances only [Int.toNat_natCast]at hJ ih⊢
  refine⟨ob hi,?_⟩;have ih:=ih hl
  by_cases e:(b.Code.getD i default).Dst=[]
  ·rw[if_neg (by rw[decide_eq_true e];simp)];rw[if_pos e]at ih;exact hJ _ ih
  ·rw[if_pos (by rw[decide_eq_false e];rfl)];rw[if_neg e]at ih;exact hJ _ ih
 ·rw[if_neg (by simp)];exact h
theorem qa{α:Type}:∀(l:List α)(i:Nat)(hi:i<l.length)(d:α)x,x∈l ↔ x=l.getD i d\/x∈l.eraseIdx i
 |[],i,hi,d,x=>by simp at hi
 |y::l,0,hi,d,x=>by simp
 |y::l,i+1,hi,d,x=>by
  have:=qa l i (by simpa using hi) d x
  simp only[List.eraseIdx_cons_succ,WR,List.getD_cons_succ];rw[this];exact⟨fun h=>h.elim (fun h=>.inr (.inl h)) fun h=>h.elim .inl fun h=>.inr (.inr h),fun h=>h.elim (fun h=>.inr (.inl h)) fun h=>h.elim .inl fun h=>.inr (.inr h)⟩
theorem Fg(a b:Lt.Vs)(hp:Jm a b)(KK:Lt.Vs->Prop)(h:∀y,Dj a b y->KK y):AJ a b KK:=by
 unfold AJ;refine ifk (fun ha=>h b ⟨fun _=>rfl,fun hn=>absurd (by simpa using ha) hn⟩) (fun ha=>?_);obtain⟨A,rfl⟩:∃A,a=some A:=by cases a with|none=>simp at ha|some A=>exact⟨A,rfl⟩
 have hA:VMo A:=by
  rcases hp with hp|⟨n,l,e,h1,h2,_⟩
  ·cases hp
  ·obtain rfl:=Option.some.inj e;exact⟨h1,h2⟩
 refine qb (fun v=>VMo v.1/\(∀x∈v.2,x∈A)/\(∀u,u∈v.1.map (·.1)->u∈A.map (·.1)/\aT b u=true)/\∀u,u∈A.map (·.1)->aT b u=true->u∈v.1.map (·.1)\/u∈v.2.map (·.1)) (fun v=>v.2.length) (fun R v⟨h1,h2,h3,h4⟩ih=>⟨fun e=>h _ ⟨fun e=>(by cases e),fun _=>⟨fun n hn=>?_,fun u=>?_⟩⟩,fun i hi=>?_⟩) _ ⟨.nil,fun x hx=>hx,fun u hu=>(by cases hu),fun u hu _=>.inr hu⟩
 ·obtain⟨l,e',g1,g2,g3⟩:=hn;obtain rfl:=Option.some.inj e';refine⟨v.1,rfl,h1.1,h1.2,?_⟩;have:=List.Nodup.length_le_of_subset h1.1 (l₂:=A.map (·.1)) fun u hu=>(h3 u hu).1
  simp only[WJ]at this;omega
 ·rw[gl h1,gl hA];rw[e]at h4;by_cases g:u∈v.1.map (·.1)
  ·rw[decide_eq_true g,decide_eq_true (h3 u g).1,(h3 u g).2];rfl
  ·rw[decide_eq_false g];by_cases g2:u∈A.map (·.1)
   ·rw[decide_eq_true g2,Xn];cases hb:aT b u with
    |false=>rfl
    |true=>exact absurd ((h4 u g2 hb).resolve_right (by simp)) g
   ·rw[decide_eq_false g2];rfl
 ·obtain⟨acc,rest⟩:=v;dsimp only at h1 h2 h3 h4 ih hi⊢;have hm:=qa rest i hi default
  have hlen:(rest.eraseIdx i).length<rest.length:=by rw[List.length_eraseIdx];split<;>omega
  have hx:rest.getD i default∈A:=h2 _ ((hm _).2 (.inl rfl))
  generalize rest.getD i default=x at hm hx;have hb:∀w,(am (β:=Bool) .s (b.getD []) w).getD (dflt .bo)=aT b w:=fun w=>rfl
  rw[hb];refine ifk (fun hc=>ih _ ⟨h1.ins _,fun y hy=>h2 y ((hm y).2 (.inr hy)),fun u hu=>?_,fun u hu hub=>?_⟩ hlen) (fun hc=>ih _ ⟨h1,fun y hy=>h2 y ((hm y).2 (.inr hy)),h3,fun u hu hub=>?_⟩ hlen)
  ·dsimp only at hu;rw[iS]at hu;split at hu
   ·exact h3 u hu
   ·rcases WX.1 hu with hu|hu
    ·exact h3 u hu
    ·rw[WU.1 hu];exact⟨Xg hx,hc⟩
  ·dsimp only;have hk:u∈(br .s acc x.1 true).map (·.1) ↔ u∈acc.map (·.1)\/u=x.1:=by
    rw[iS];split
    ·rename_i g;exact⟨.inl,fun h=>h.elim id fun e=>by rw[e];exact g⟩
    ·rw[WX,WU]
   rw[hk];rcases h4 u hu hub with g|g
   ·exact .inl (.inl g)
   ·obtain⟨y,hy,e⟩:=Xa.1 g;rcases(hm y).1 hy with rfl|hy
    ·exact .inl (.inr e.symm)
    ·exact .inr (Xa.2 ⟨y,hy,e⟩)
  ·dsimp only;rcases h4 u hu hub with g|g
   ·exact .inl g
   ·obtain⟨y,hy,e⟩:=Xa.1 g;rcases(hm y).1 hy with rfl|hy
    ·rw[e]at hc;exact absurd hub hc
    ·exact .inr (Xa.2 ⟨y,hy,e⟩)
def xr(a0_g:List (List Int))(KK:(List Int)->Prop):Prop:=
 aa (α:=List Int) (fun J1=>(a0_g.length<=4611686018427387904->((0:Int)<=(a0_g.length:Int)/\(a0_g.length:Int)<=4611686018427387904/\1*(a0_g.length:Int).toNat<=281474976710656)/\(a0_g.length<=4611686018427387904->if(decide ((a0_g.length:Int)=0))=true then(J1 [])else(((0:Int)<=0/\0 < (((List.replicate (a0_g.length:Int).toNat (dflt .bo)).length:Nat):Int))/\0 < (List.replicate (a0_g.length:Int).toNat (dflt .bo)).length/\ac (α:=List Bool×List Int×List Lt.step) (fun R3 v4=>have z3:=(i64.wrap ((v4.2.2.length:Int) - 1));have z1:=(v4.2.2.getD z3.toNat default);have z6:=a0_g.getD (z1.at_).toNat [];have z4:=v4.2.2.set z3.toNat (Lt.step.mk (z1.at_) (i64.wrap ((z1.next)+1)));have z2:=z6.getD (z1.next).toNat default;have z7:=([(Lt.step.mk z2 0)]:List Lt.step);(v4.2.2.length<=4611686018427387904->if(decide (0 < (v4.2.2.length:Int)))=true then((v4.2.2.length<=4611686018427387904->((0:Int)<=z3/\z3 < ((v4.2.2.length:Nat):Int))/\((0:Int)<=z1.at_/\(z1.at_).toNat<a0_g.length)/\(z6.length<=4611686018427387904->if(decide (z1.next=(z6.length:Int)))=true then((v4.2.1.length+([z1.at_]:List Int).length<=4611686018427387904/\(v4.2.1.length+([z1.at_]:List Int).length)*8<=140737488355328)/\(v4.2.2.length<=4611686018427387904->((0:Int)<=z3/\z3.toNat<=v4.2.2.length)/\R3 (v4.1,(v4.2.1++([z1.at_]:List Int)),(v4.2.2.take z3.toNat))))else(((0:Int)<=z1.at_/\(z1.at_).toNat<a0_g.length)/\((0:Int)<=z1.next/\(z1.next).toNat<z6.length)/\z3.toNat<v4.2.2.length/\aa (α:=Bool) (fun J5=>if(decide (0<=z2))=true then(if(decide (z2 < (a0_g.length:Int)))=true then(((0:Int)<=z2/\z2 < ((v4.1.length:Nat):Int))/\J5 (!(v4.1.getD z2.toNat default)))else(J5 false))else(J5 false)) (fun v6=>if v6=true then(((0:Int)<=z2/\z2 < ((v4.1.length:Nat):Int))/\z2.toNat<v4.1.length/\(z4.length+z7.length<=4611686018427387904/\(z4.length+z7.length)*16<=140737488355328)/\R3 ((v4.1.set z2.toNat true),v4.2.1,(z4++z7)))else(R3 (v4.1,v4.2.1,z4)))))))else(J1 v4.2.1))) (((List.replicate (a0_g.length:Int).toNat (dflt .bo)).set 0 true),[],[(Lt.step.mk 0 0)]))))) (fun v2=>(v2.length<=4611686018427387904->ac (α:=Int×Int×List Int) (fun R7 v8=>have z5:=v8.2.2.set v8.1.toNat (v8.2.2.getD v8.2.1.toNat default);if(decide (v8.1<v8.2.1))=true then(((0:Int)<=v8.2.1/\v8.2.1 < ((v8.2.2.length:Nat):Int))/\((0:Int)<=v8.1/\v8.1 < ((v8.2.2.length:Nat):Int))/\((0:Int)<=v8.1/\v8.1 < ((v8.2.2.length:Nat):Int))/\v8.1.toNat<v8.2.2.length/\((0:Int)<=v8.2.1/\v8.2.1 < ((z5.length:Nat):Int))/\v8.2.1.toNat<z5.length/\R7 ((i64.wrap (v8.1+1)),(i64.wrap (v8.2.1 - 1)),(z5.set v8.2.1.toNat (v8.2.2.getD v8.1.toNat default))))else(KK v8.2.2)) (0,(i64.wrap ((v2.length:Int) - 1)),v2)))
def PrF(g:List (List Int)):List Int->List Int->Prop
 |_,[]=>True
 |seen,x::r=>(x≠0->∃y∈seen,x∈g.getD y.toNat [])/\PrF g (x::seen) r
theorem PrF.mono{g:List (List Int)}:∀{r s t:List Int},PrF g s r->(∀x∈s,x∈t)->PrF g t r
 |[],s,t,_,_=>trivial
 |x::r,s,t,h,hs=>⟨fun e=>by obtain⟨y,hy,h'⟩:=h.1 e;exact⟨y,hs y hy,h'⟩,h.2.mono fun y hy=>by
   rcases WR.1 hy with rfl|hy
   ·exact XK
   ·exact WV _ (hs y hy)⟩
theorem yM{g:List (List Int)}:∀{a b s:List Int},PrF g s (a++b) ↔ PrF g s a/\PrF g (a.reverse++s) b
 |[],b,s=>by simp[PrF]
 |x::a,b,s=>by
  rw[Xu,List.reverse_cons,Xm];show((x≠0->∃y∈s,x∈g.getD y.toNat [])/\PrF g (x::s) (a++b)) ↔ ((x≠0->∃y∈s,x∈g.getD y.toNat [])/\PrF g (x::s) a)/\PrF g (a.reverse++(x::s)) b
  rw[yM (a:=a),and_assoc]
theorem PrF.at{g:List (List Int)}:∀{r s:List Int},PrF g s r->∀i,i<r.length->r.getD i 0≠0->(∃y∈s,r.getD i 0∈g.getD y.toNat [])\/∃j,j<i/\r.getD i 0∈g.getD (r.getD j 0).toNat []
 |[],s,h,i,hi,_=>by simp at hi
 |x::r,s,h,0,hi,e=>.inl (h.1 e)
 |x::r,s,h,i+1,hi,e=>by
  rcases h.2.at i (by simpa using hi) e with⟨y,hy,h'⟩|⟨j,hj,h'⟩
  ·rcases WR.1 hy with rfl|hy
   ·exact .inr ⟨0,by omega,h'⟩
   ·exact .inl ⟨y,hy,h'⟩
  ·exact .inr ⟨j+1,by omega,h'⟩
def atS(S:List Lt.step):List Int:=S.map (·.at_)
def wkS(g:List (List Int))(S:List Lt.step):Nat:=(S.map fun s=>(g.getD s.at_.toNat []).length-s.next.toNat+1).sum
structure DF (g:List (List Int)) (mk:List Bool) (out:List Int) (S:List Lt.step):Prop where
 ol:mk.length=g.length
 lt:∀k∈atS S++out.reverse,0<=k/\k < (g.length:Int)
 mv:∀k:Nat,k<g.length->(mk.getD k false=true ↔ (k:Int)∈atS S++out.reverse)
 z:(0:Int)∈atS S++out.reverse
 nd:(atS S++out.reverse).Nodup
 pr:PrF g [] (atS S++out.reverse)
 nx:∀s∈S,0<=s.next/\s.next.toNat<=(g.getD s.at_.toNat []).length
 co:∀k∈out,∀s∈g.getD k.toNat [],s∈atS S++out.reverse
 cs:∀s∈S,∀j,j<s.next.toNat->(g.getD s.at_.toNat []).getD j default∈atS S++out.reverse
theorem DF.len{g:List (List Int)}{mk:List Bool}{out:List Int}{S:List Lt.step}(h:DF g mk out S):S.length+out.length<=g.length:=by
 have:=List.Nodup.length_le_of_subset h.nd (l₂:=(List.range g.length).map fun(i:Nat)=>(i:Int)) fun k hk=>by
  obtain⟨a,b⟩:=h.lt k hk;exact Xa.2 ⟨k.toNat,Yi.2 Z1,by omega⟩
 simp only[atS,WM,WJ,List.length_reverse,X1]at this;exact this
theorem DF.od{g:List (List Int)}{mk:List Bool}{out:List Int}(h:DF g mk out [])(hg:∀l∈g,∀k∈l,0<=k/\k < (g.length:Int)):Lt.Od g out.reverse:=by
 have e:atS []++out.reverse=out.reverse:=rfl
 refine⟨h.lt,fun k hk=>?_,h.nd,fun i hi hne=>?_⟩
 ·induction hk with
  |first=>exact h.z
  |next i k _ hk ih=>exact h.co _ (List.mem_reverse.1 ih) _ (by rw[Int.toNat_natCast];exact hk)
 ·rcases h.pr.at i hi hne with⟨y,hy,_⟩|h'
  ·cases hy
  ·exact h'
theorem DF.pop{g:List (List Int)}{mk:List Bool}{out:List Int}{S:List Lt.step}{t:Lt.step}(h:DF g mk out (S++[t]))(ht:t.next.toNat=(g.getD t.at_.toNat []).length):DF g mk (out++[t.at_]) S:=by
 have e:atS S++(out++[t.at_]).reverse=atS (S++[t])++out.reverse:=by simp[atS]
 refine⟨h.ol,by rw[e];exact h.lt,by rw[e];exact h.mv,by rw[e];exact h.z,by rw[e];exact h.nd,by rw[e];exact h.pr,fun s hs=>h.nx s (Xr _ hs),fun k hk s hs=>?_,fun s hs j hj=>by rw[e];exact h.cs s (Xr _ hs) j hj⟩;rw[e];rcases WX.1 hk with hk|hk
 ·exact h.co k hk s hs
 ·obtain rfl:=WU.1 hk;obtain⟨j,hj,e2⟩:=X0.1 hs;have:=h.cs t (Xs _ (WU.2 rfl)) j Z1
  rw[List.getD,WH hj]at this;rw[<- e2];exact this
theorem DF.on{g:List (List Int)}{mk:List Bool}{out:List Int}{S R:List Lt.step}{t:Lt.step}(h:DF g mk out (S++t::R))(ht:t.next.toNat < (g.getD t.at_.toNat []).length)(hm:(g.getD t.at_.toNat []).getD t.next.toNat default∈atS (S++t::R)++out.reverse):DF g mk out (S++Lt.step.mk t.at_ (t.next+1)::R):=by
 have e:atS (S++Lt.step.mk t.at_ (t.next+1)::R)=atS (S++t::R):=by simp[atS]
 have tm:t∈S++t::R:=Xs _ (XK)
 have tn:=(h.nx t tm).1
 have sp:∀s∈S++Lt.step.mk t.at_ (t.next+1)::R,s=Lt.step.mk t.at_ (t.next+1)\/s∈S++t::R:=fun s hs=>by
  rcases WX.1 hs with hs|hs
  ·exact .inr (Xr _ hs)
  ·rcases WR.1 hs with rfl|hs
   ·exact .inl rfl
   ·exact .inr (Xs _ (WV _ hs))
 refine⟨h.ol,by rw[e];exact h.lt,by rw[e];exact h.mv,by rw[e];exact h.z,by rw[e];exact h.nd,by rw[e];exact h.pr,fun s hs=>?_,by rw[e];exact h.co,fun s hs j hj=>?_⟩
 ·rcases sp s hs with rfl|hs
  ·dsimp only;omega
  ·exact h.nx s hs
 ·rw[e];rcases sp s hs with rfl|hs
  ·dsimp only at hj⊢;rcases W4 j t.next.toNat with h'|h'
   ·exact h.cs t tm j h'
   ·obtain rfl:j=t.next.toNat:=by omega
    exact hm
  ·exact h.cs s hs j hj
theorem DF.push{g:List (List Int)}{mk:List Bool}{out:List Int}{S:List Lt.step}{t:Lt.step}{z:Int}(h:DF g mk out (S++[t]))(hz:0<=z/\z < (g.length:Int))(hn:¬ mk.getD z.toNat false=true)(hm:z∈g.getD t.at_.toNat []):DF g (mk.set z.toNat true) out (S++[t]++[Lt.step.mk z 0]):=by
 have e:atS (S++[t]++[Lt.step.mk z 0])=atS (S++[t])++[z]:=by simp[atS]
 have hl:z.toNat<mk.length:=by rw[h.ol];omega
 have hni:z ∉ atS (S++[t])++out.reverse:=fun hi=>hn ((h.mv z.toNat Z1).2 (by rw[Int.toNat_of_nonneg hz.1];exact hi))
 have up:∀k,k∈atS (S++[t])++out.reverse->k∈atS (S++[t]++[Lt.step.mk z 0])++out.reverse:=fun k hk=>by
  rw[e];rcases WX.1 hk with hk|hk
  ·exact Xr _ (Xr _ hk)
  ·exact Xs _ hk
 have dn:∀k,k∈atS (S++[t]++[Lt.step.mk z 0])++out.reverse->k=z\/k∈atS (S++[t])++out.reverse:=fun k hk=>by
  rw[e]at hk;rcases WX.1 hk with hk|hk
  ·rcases WX.1 hk with hk|hk
   ·exact .inr (Xr _ hk)
   ·exact .inl (WU.1 hk)
  ·exact .inr (Xs _ hk)
 refine⟨by rw[List.length_set];exact h.ol,fun k hk=>?_,fun k hk=>?_,up _ h.z,?_,?_,fun s hs=>?_,fun k hk s hs=>up _ (h.co k hk s hs),fun s hs j hj=>?_⟩
 ·rcases dn k hk with rfl|hk
  ·exact hz
  ·exact h.lt k hk
 ·rw[dO hl];by_cases ek:k=z.toNat
  ·subst ek;refine⟨fun _=>?_,fun _=>by simp⟩;rw[Int.toNat_of_nonneg hz.1,e];exact Xr _ (Xs _ (WU.2 rfl))
  ·rw[decide_eq_false ek,XG,h.mv k hk];exact⟨up _,fun hk'=>(dn _ hk').resolve_left Z1⟩
 ·rw[e,Xm];have hnd:=h.nd
  rw[Yb]at hnd⊢;refine⟨hnd.1,Xl.2 ⟨fun hi=>hni (Xs _ hi),hnd.2.1⟩,fun a ha b hb eab=>?_⟩;rcases WR.1 hb with rfl|hb
  ·subst eab;exact hni (Xr _ ha)
  ·exact hnd.2.2 a ha b hb eab
 ·rw[e,Xm];have hp:=yM.1 h.pr
  refine yM.2 ⟨hp.1,fun _=>⟨t.at_,?_,hm⟩,hp.2.mono fun x hx=>WV _ hx⟩;simp[atS]
 ·rcases WX.1 hs with hs|hs
  ·exact h.nx s hs
  ·obtain rfl:=WU.1 hs;exact⟨Int.le_refl _,Xq _⟩
 ·rcases WX.1 hs with hs|hs
  ·exact up _ (h.cs s hs j hj)
  ·obtain rfl:=WU.1 hs;exact absurd hj (Nat.not_lt_zero j)
theorem PO{α:Type}(S:List α)(t x:α){m:Nat}(h:m=S.length):(S++[t]).set m x=S++[x]:=by
 subst h;rw[List.set_append_right _ _ (WN _)];simp
theorem CC(g:List (List Int))(hp:vN g)(KK:List Int->Prop)(h:∀y,yl g y->KK y):xr g KK:=by
 unfold xr;obtain⟨⟨hn,hto⟩,hps,hg⟩:=hp;dsimp only;intro J hJ hl;have hz:(g.length:Int).toNat=g.length:=Int.toNat_natCast _
 rw[hz];have hr:(List.replicate g.length (dflt .bo):List Bool).length=g.length:=XO
 refine⟨⟨by omega,by omega,by omega⟩,fun _=>?_⟩;rw[if_neg (by intro e;have:=of_decide_eq_true e;omega)];refine⟨⟨by omega,by rw[hr];omega⟩,by rw[hr];exact hps,?_⟩;have hfin:∀mk out,DF g mk out []->J out:=fun mk out hd=>by
  refine hJ out fun hlo=>?_
  have hlen:=hd.len
  simp only[WQ,Xy]at hlen;generalize hn':out.length=n at hlen hlo⊢;rw[dj Z1 Z1];refine qb (fun v=>∃i:Nat,v.1=(i:Int)/\v.2.1=(n:Int) - 1 - (i:Int)/\2*i<=n+1/\v.2.2.length=n/\∀k,k<n->v.2.2.getD k default=if k<i\/n<=k+i then out.getD (n - 1-k) default else out.getD k default) (fun v=>(v.2.1-v.1).toNat) (fun R v hv ih=>?_) _ ⟨0,rfl,by dsimp only;omega,by omega,hn',fun k hk=>by dsimp only;rw[if_neg Z1]⟩;obtain⟨v1,v2,l⟩:=v;obtain⟨i,e1,e2,h3,h4,h5⟩:=hv;dsimp only at e1 e2 h4 h5 ih⊢;subst e1 e2;refine ifk (fun hc=>?_) (fun hc=>?_)
  ·have hc:=of_decide_eq_true hc
   generalize hj:((n:Int) - 1 - (i:Int)).toNat=j;have hjn:j=n - 1-i:=by omega
   have hil:i<l.length:=by omega
   have hjl:j<l.length:=by omega
   rw[Int.toNat_natCast];refine⟨⟨by omega,by omega⟩,⟨by omega,by omega⟩,⟨by omega,by omega⟩,hil,⟨by omega,by rw[List.length_set];omega⟩,by rw[List.length_set];omega,?_⟩;rw[ao Z1,dj Z1 Z1];refine ih _ ⟨i+1,rfl,by dsimp only;omega,by omega,by dsimp only;rw[List.length_set,List.length_set];exact h4,fun k hk=>?_⟩ (by dsimp only;omega);dsimp only;rw[bY _ (by rw[List.length_set];exact hjl),bY _ hil];by_cases ej:k=j
   ·rw[if_pos ej,if_pos Z1,h5 i Z1,if_neg Z1,show n - 1-k=i by omega]
   ·rw[if_neg ej];by_cases ei:k=i
    ·rw[if_pos ei,if_pos Z1,h5 j Z1,if_neg Z1,show n - 1-k=j by omega]
    ·rw[if_neg ei,h5 k hk];by_cases hh:k<i\/n<=k+i
     ·rw[if_pos hh,if_pos Z1]
     ·rw[if_neg hh,if_neg Z1]
  ·have hc:¬ (i:Int) < (n:Int) - 1 - (i:Int):=by simpa using hc
   have:l=out.reverse:=uP default (by rw[List.length_reverse];omega) fun k hk=>by
    rw[h5 k Z1,List.getD,List.getD,List.getD,List.getElem?_reverse Z1,hn'];split
    ·rfl
    ·rw[show n - 1-k=k by omega]
   rw[this];exact h _ (hd.od hg)
 have hst:DF g ((List.replicate g.length (dflt .bo):List Bool).set 0 true) [] [Lt.step.mk 0 0]:=by
  refine⟨by rw[List.length_set,hr],fun k hk=>?_,fun k hk=>?_,by simp[atS],by simp[atS],⟨fun e=>absurd rfl e,trivial⟩,fun s hs=>?_,fun k hk=>(by cases hk),fun s hs j hj=>?_⟩
  ·obtain rfl:k=0:=by simpa[atS]using hk
   omega
  ·rw[dO (by rw[hr];exact hps),show(List.replicate g.length (dflt .bo):List Bool).getD k false=false from qt _ _ _];simp[atS]
  ·obtain rfl:=WU.1 hs;exact⟨Int.le_refl _,Xq _⟩
  ·obtain rfl:=WU.1 hs;exact absurd hj (Nat.not_lt_zero j)
 refine qb (fun v=>DF g v.1 v.2.1 v.2.2) (fun v=>1000002*ro v.1+wkS g v.2.2) (fun R v hd ih=>?_) _ hst;obtain⟨mk,out,S⟩:=v;dsimp only at hd ih⊢;have hlen:=hd.len
 intro _;refine ifk (fun hpos=>?_) (fun hemp=>?_)
 rotate_left
 ·have e0:S=[]:=Xw (by simp at hemp;simp[hemp])
  subst e0;exact hfin mk out hd
 have hpos:0<S.length:=by have:=of_decide_eq_true hpos;omega
 have hw:i64.wrap ((S.length:Int) - 1)=((S.length - 1:Nat):Int):=by
  rw[dj Z1 Z1];omega
 rw[hw];dsimp +instances only [Int.toNat_natCast]
 generalize hmm:S.length - 1=m;have hsplit:S=S.take m++[S.getD m default]:=by
  have:=bg S (i:=m) Z1
  rw[List.take_of_length_le Z1]at this;exact this
 have htl:(S.take m).length=m:=by rw[Xk];omega
 generalize S.getD m default=t at hsplit;generalize hT:S.take m=T at hsplit htl;have htm:t∈S:=by rw[hsplit];exact Xs _ (WU.2 rfl)
 have hat:=hd.lt t.at_ (Xr _ (Xa.2 ⟨t,htm,rfl⟩))
 obtain⟨hx0,hx1⟩:=hd.nx t htm;have hatn:t.at_.toNat<g.length:=by omega
 have hgm:g.getD t.at_.toNat []∈g:=by rw[List.getD,WH hatn];exact Xj hatn
 have hgl:=hto _ hgm
 have hgr:=hg _ hgm
 have hww:wkS g S=wkS g T+((g.getD t.at_.toNat []).length-t.next.toNat+1):=by rw[hsplit];simp[wkS]
 rw[hsplit]at hd;have hset:∀x,S.set m x=T++[x]:=fun x=>by rw[hsplit];exact PO T t x htl.symm
 intro _;refine⟨⟨by omega,by omega⟩,⟨hat.1,hatn⟩,fun _=>?_⟩;refine ifk (fun he=>?_) (fun hne=>?_)
 ·have he:=of_decide_eq_true he
  refine⟨⟨by simp only[WL,WQ];omega,by simp only[WL,WQ];omega⟩,fun _=>⟨⟨by omega,by omega⟩,?_⟩⟩;exact ih _ (hd.pop Z1) (by dsimp only;omega)
 ·have hne:¬ t.next=((g.getD t.at_.toNat []).length:Int):=by simpa using hne
  have hlt:t.next.toNat < (g.getD t.at_.toNat []).length:=by omega
  have hzm:(g.getD t.at_.toNat []).getD t.next.toNat default∈g.getD t.at_.toNat []:=bt _ hlt
  have hzr:=hgr _ hzm
  have hw2:i64.wrap (t.next+1)=t.next+1:=dj Z1 Z1
  rw[hset,hw2];have hon:=hd.on hlt
  have hwn:wkS g (T++[Lt.step.mk t.at_ (t.next+1)])+1=wkS g S:=by
   rw[hww];simp only[wkS,XC,List.map_cons,List.map_nil,List.sum_append,XR,List.sum_nil];omega
  refine⟨⟨hat.1,hatn⟩,⟨hx0,hlt⟩,by omega,fun J5 hJ5=>?_⟩;generalize hze:(g.getD t.at_.toNat []).getD t.next.toNat default=z at hzm hzr hon hJ5⊢;have hmk:=hd.mv z.toNat Z1
  rw[Int.toNat_of_nonneg hzr.1]at hmk;rw[if_pos (by simpa using hzr.1),if_pos (by simpa using hzr.2)];have hol:=hd.ol
  refine⟨⟨by omega,by omega⟩,hJ5 _ ?_⟩;refine ifk (fun hc=>?_) (fun hc=>?_)
  ·have hf:mk.getD z.toNat false=false:=by simpa using hc
   have hf0:mk.getD z.toNat true=false:=by
    have:z.toNat<mk.length:=by omega
    rw[List.getD,WH this]at hf⊢;exact hf
   have hcn:=uK mk z.toNat hf0
   have hz1:z.toNat<g.length:=by omega
   have hgz:(g.getD z.toNat []).length<=1000000:=hto _ (by rw[List.getD,WH hz1];exact Xj hz1)
   refine⟨⟨by omega,by omega⟩,by omega,⟨?_,?_⟩,?_⟩
   ·simp only[WM,WL,WQ];omega
   ·simp only[WM,WL,WQ];omega
   ·have hpu:=hd.push hzr (by rw[hf];simp) hzm
    rw[Xm]at hpu;have hq:=DF.on (S:=T) (R:=[Lt.step.mk z 0]) (t:=t) hpu hlt (by rw[hze];simp[atS])
    rw[show T++[Lt.step.mk t.at_ (t.next+1)]++[Lt.step.mk z 0]=T++Lt.step.mk t.at_ (t.next+1)::[Lt.step.mk z 0]by simp];refine ih _ hq ?_;have:wkS g (T++Lt.step.mk t.at_ (t.next+1)::[Lt.step.mk z 0])=wkS g (T++[Lt.step.mk t.at_ (t.next+1)])+((g.getD z.toNat []).length+1):=by
     simp[wkS];omega
    dsimp only;omega
  ·refine ih _ (hon (hmk.1 (by simpa using hc))) (by dsimp only;omega)
end Go.Am
end

section
namespace Go.Am
open Go
open Lt (nmB toB Gd Rc bkB phB dZ Bare aT)
theorem o6(s:List UInt8):∀(l:List Lt.Block)(i:Int),((jH s l i).2=true->∃k,k<l.length/\(jH s l i).1=i+(k:Int)/\(l.getD k default).Name=s)/\((∃k,k<l.length/\(l.getD k default).Name=s)->(jH s l i).2=true)
 |[],i=>⟨fun h=>(by cases h),fun⟨k,hk,_⟩=>absurd hk (Nat.not_lt_zero k)⟩
 |b::r,i=>by
  unfold jH;by_cases e:b.Name=s
  ·rw[if_pos e];exact⟨fun _=>⟨0,Nat.zero_lt_succ _,by simp,e⟩,fun _=>rfl⟩
  ·rw[if_neg e];obtain⟨h1,h2⟩:=o6 s r (i+1);refine⟨fun h=>?_,fun⟨k,hk,h⟩=>h2 ?_⟩
   ·obtain⟨k,hk,e1,e2⟩:=h1 h;exact⟨k+1,Nat.succ_lt_succ hk,by rw[e1];omega,e2⟩
   ·cases k with
    |zero=>exact absurd h e
    |succ k=>exact⟨k,Nat.lt_of_succ_lt_succ hk,h⟩
theorem fy(f:Lt.Func):(gM f).length=f.Blocks.length:=by unfold gM;rw[WJ]
theorem B6(f:Lt.Func){i:Nat}(hi:i<f.Blocks.length):(gM f).getD i []=(toB f.Blocks i).filterMap (fX f):=by
 unfold gM;rw[p9 _ _ hi]
theorem mN(f:Lt.Func)(s:List UInt8)(z:Int)(h:fX f s=some z):∃k:Nat,k<f.Blocks.length/\z=(k:Int)/\nmB f.Blocks k=s:=by
 unfold fX at h;split at h
 ·rename_i h2;obtain⟨k,hk,e1,e2⟩:=(o6 s f.Blocks 0).1 h2;refine⟨k,hk,?_,e2⟩;rw[<- Option.some.inj h];unfold ir;rw[e1];omega
 ·cases h
theorem pT{f:Lt.Func}(hg:Gd f.Blocks){i k:Nat}:(k:Int)∈(gM f).getD i [] ↔ i<f.Blocks.length/\k<f.Blocks.length/\nmB f.Blocks k∈toB f.Blocks i:=by
 constructor
 ·intro h;have hi:i<f.Blocks.length:=by
   rcases W4 i f.Blocks.length with h'|h'
   ·exact h'
   ·rw[List.getD,W8 (by rw[fy];exact h')]at h;cases h
  rw[B6 f hi]at h;obtain⟨s,hs,e⟩:=List.mem_filterMap.1 h;obtain⟨k',hk',e1,e2⟩:=mN f s _ e;obtain rfl:k=k':=by omega
  exact⟨hi,hk',by rw[e2];exact hs⟩
 ·rintro⟨hi,hk,hm⟩
  rw[B6 f hi];refine List.mem_filterMap.2 ⟨_,hm,?_⟩;have h2:(ir f (nmB f.Blocks k)).2=true:=(o6 _ f.Blocks 0).2 ⟨k,hk,rfl⟩
  have e:fX f (nmB f.Blocks k)=some (ir f (nmB f.Blocks k)).1:=by unfold fX;rw[if_pos h2]
  obtain⟨k',hk',e1,e2⟩:=mN f _ _ e;rw[e,e1,hg.nd k' k hk' hk e2]
theorem B7{f:Lt.Func}(hp:qg f):qh (gM f):=by
 refine⟨by rw[fy];exact hp.1,fun l hl=>?_⟩;unfold gM at hl;obtain⟨b,hb,rfl⟩:=Xa.1 hl;exact Xo (om _ _) (hp.2 b hb)
theorem Oh{f:Lt.Func}(hp:qg f)(hg:Gd f.Blocks):vN (gM f):=by
 refine⟨B7 hp,by rw[fy];exact hg.ps,fun l hl k hk=>?_⟩;unfold gM at hl;obtain⟨b,hb,rfl⟩:=Xa.1 hl;obtain⟨s,hs,e⟩:=List.mem_filterMap.1 hk;obtain⟨k',hk',e1,e2⟩:=mN f s _ e;rw[fy];omega
theorem LV{f:Lt.Func}(hg:Gd f.Blocks){k:Nat}(hk:k<f.Blocks.length)(z:Int):z∈(fA (gM f)).getD k [] ↔ ∃i:Nat,z=(i:Int)/\i<f.Blocks.length/\nmB f.Blocks k∈toB f.Blocks i:=by
 unfold fA;rw[p9 _ _ (by rw[X1,fy];exact hk),List.getD,List.getElem?_range (by rw[fy];exact hk)];show z∈zW (gM f) k ↔ _
 unfold zW;rw[Xa];refine⟨fun⟨i,hi,e⟩=>?_,fun⟨i,e,hi,hm⟩=>⟨i,X5.2 ⟨Yi.2 (by rw[fy];exact hi),decide_eq_true ((pT hg).2 ⟨hi,hk,hm⟩)⟩,e.symm⟩⟩;have:=of_decide_eq_true (X5.1 hi).2
 obtain⟨h1,h2,h3⟩:=(pT hg).1 this;exact⟨i,e.symm,h1,h3⟩
theorem L0{f:Lt.Func}(hg:Gd f.Blocks){k:Nat}(hk:k<f.Blocks.length):Lt.Gr (gM f) k:=by
 have:=hg.re k hk
 induction this with
 |first _=>exact .first
 |next i k _ hi hk hm ih=>exact .next i k (ih hi) ((pT hg).2 ⟨hi,hk,hm⟩)
def univ(f:Lt.Func):List (List UInt8):=f.Params.map (·.Name)++f.Blocks.flatMap fun b=>b.Phis.map (·.Dst)++b.Code.map (·.Dst)
theorem pU{α β:Type}(g:α->List β)(c:Nat):∀l:List α,(∀x∈l,(g x).length<=c)->(l.flatMap g).length<=l.length*c
 |[],_=>by simp
 |x::r,h=>by
  have:=pU g c r fun y hy=>h y (WV _ hy)
  have h1:=h x (XK)
  rw[Xe,WM,WL,Nat.succ_mul];omega
theorem PZ{f:Lt.Func}(hp:qf f):(univ f).length<=4000000000000:=by
 obtain⟨⟨h1,_⟩,_,h2,h3⟩:=hp;have:=pU (fun b:Lt.Block=>b.Phis.map (·.Dst)++b.Code.map (·.Dst)) 2000000 f.Blocks fun b hb=>by
  have:=h3 b hb
  simp only[WM,WJ];omega
 unfold univ;rw[WM,WJ];have h4:f.Blocks.length*2000000<=1000000*2000000:=Xv _ h1
 omega
theorem U3{f:Lt.Func}:∀v∈f.Params.map (·.Name),v∈univ f:=fun v hv=>Xr _ hv
theorem U2{f:Lt.Func}{k:Nat}(hk:k<f.Blocks.length):∀v∈phB f k,v∈univ f:=fun v hv=>Xs _ (List.mem_flatMap.2 ⟨_,bt _ hk,Xr _ hv⟩)
theorem U4{f:Lt.Func}{k:Nat}(hk:k<f.Blocks.length):∀v∈dZ (bkB f k),v∈univ f:=fun v hv=>Xs _ (List.mem_flatMap.2 ⟨_,bt _ hk,Xs _ (X5.1 hv).1⟩)
theorem okU.okV{U:List (List UInt8)}{s:Lt.Vs}(h:okU U s):Lt.okV s (s.getD []).length:=by
 obtain⟨m,rfl,h1,h2⟩:=h;exact⟨m,rfl,h1.1,h1.2,WN _⟩
theorem O9{U:List (List UInt8)}{a b y:Lt.Vs}(h:okU U a)(hy:Lt.okV y (a.getD []).length)(he:∀v,aT y v=(aT a v&&aT b v)):okU U y:=by
 obtain⟨l,rfl,h1,h2,_⟩:=hy;refine⟨l,rfl,⟨h1,h2⟩,fun v hv=>?_⟩;have e:=he v
 rw[gl ⟨h1,h2⟩,decide_eq_true hv]at e;have e:aT a v=true:=by cases h':aT a v with|false=>rw[h']at e;cases e|true=>rfl
 obtain⟨m,rfl,g1,g2⟩:=h;rw[gl g1]at e;exact g2 v (of_decide_eq_true e)
def szV(n:Nat)(s:Lt.Vs):Nat:=match s with|none=>n+1|some m=>m.length
def DO(n:Nat)(l:List Lt.Vs):Nat:=(l.map (szV n)).sum
theorem DP(n:Nat):∀(l:List Lt.Vs)(k:Nat)(s:Lt.Vs),k<l.length->DO n (l.set k s)+szV n (l.getD k none)=DO n l+szV n s
 |[],k,s,h=>by simp at h
 |x::l,0,s,h=>by simp[DO];omega
 |x::l,k+1,s,h=>by
  have:=DP n l k s (by simpa using h)
  simp only[DO,List.set_cons_succ,List.map_cons,XR,List.getD_cons_succ]at this⊢;omega
theorem Pg(s:Lt.Vs)(f:Lt.Func)(k:Nat)(v:List UInt8):aT (jQ s (bkB f k)) v=(aT s v||decide (v∈phB f k)):=tB s _ v
theorem kP(s:Lt.Vs)(b:Lt.Block)(v:List UInt8):aT (fP s b) v=(aT s v||decide (v∈dZ b)):=tB s _ v
theorem nO(s:Lt.Vs)(b:Lt.Block):fP s b≠default:=fun e=>by cases e
def mf(f:Lt.Func)(outs:List Lt.Vs)(k:Nat)(v:List UInt8):Prop:=(k=0->v∈f.Params.map (·.Name))/\∀i,i<f.Blocks.length->nmB f.Blocks k∈toB f.Blocks i->outs.getD i default≠default->aT (outs.getD i default) v=true
structure AI (f:Lt.Func) (ins outs:List Lt.Vs):Prop where
 li:ins.length=f.Blocks.length
 lo:outs.length=f.Blocks.length
 no:∀k,k<f.Blocks.length->ins.getD k default=default->outs.getD k default=default
 ok:∀k,k<f.Blocks.length->ins.getD k default≠default->okU (univ f) (ins.getD k default)/\outs.getD k default=fP (ins.getD k default) (bkB f k)
 ov:∀k,k<f.Blocks.length->ins.getD k default≠default->∀v,¬ Bare f v k->aT (ins.getD k default) v=true
 tr:∀k,k<f.Blocks.length->ins.getD k default≠default->∀v,mf f outs k v\/v∈phB f k->aT (ins.getD k default) v=true
theorem AI.on{f:Lt.Func}{ins outs:List Lt.Vs}(h:AI f ins outs){k:Nat}(hk:k<f.Blocks.length)(ho:outs.getD k default≠default):ins.getD k default≠default:=fun e=>ho (h.no k hk e)
theorem AI.step{f:Lt.Func}{ins outs:List Lt.Vs}(h:AI f ins outs){k:Nat}(hk:k<f.Blocks.length){x:Lt.Vs}(hx:okU (univ f) x)(he:∀v,aT x v=true ↔ mf f outs k v\/v∈phB f k) :
  AI f (ins.set k x) (outs.set k (fP x (bkB f k)))/\(ins.getD k default≠default->∀v,aT x v=true->aT (ins.getD k default) v=true):=by
 have hki:k<ins.length:=by rw[h.li];exact hk
 have hko:k<outs.length:=by rw[h.lo];exact hk
 have less:ins.getD k default≠default->∀v,aT x v=true->aT (ins.getD k default) v=true:=fun hs v hv=>h.tr k hk hs v ((he v).1 hv)
 have xs:x≠default:=fun e=>by have:=hx.isS;rw[e]at this;cases this
 have mdn:∀j v,mf f (outs.set k (fP x (bkB f k))) j v->mf f outs j v:=fun j v hm=>by
  refine⟨hm.1,fun i hi hmem hs=>?_⟩;have h2:=hm.2 i hi hmem
  rw[bY _ hko]at h2;by_cases e:i=k
  ·subst e;rw[if_pos rfl]at h2;have h2:=h2 (nO _ _)
   have hin:=h.on hk hs
   rw[(h.ok i hk hin).2,kP];rw[kP]at h2;cases hxv:aT x v with
   |true=>rw[less hin v hxv];rfl
   |false=>rw[hxv,XG]at h2;rw[h2,Bool.or_true]
  ·rw[if_neg e]at h2;exact h2 hs
 refine⟨⟨by rw[List.length_set];exact h.li,by rw[List.length_set];exact h.lo,fun j hj hs=>?_,fun j hj hs=>?_,fun j hj hs v hv=>?_,fun j hj hs v hv=>?_⟩,less⟩
 ·rw[bY _ hki]at hs;rw[bY _ hko];by_cases e:j=k
  ·rw[if_pos e]at hs;exact absurd hs xs
  ·rw[if_neg e]at hs⊢;exact h.no j hj hs
 ·rw[bY _ hki]at hs⊢;rw[bY _ hko];by_cases e:j=k
  ·subst e;rw[if_pos rfl,if_pos rfl];exact⟨hx,rfl⟩
  ·rw[if_neg e]at hs⊢;rw[if_neg e];exact h.ok j hj hs
 ·rw[bY _ hki]at hs⊢;by_cases e:j=k
  ·subst e;rw[if_pos rfl];refine(he v).2 (Classical.or_iff_not_imp_right.2 fun hp=>⟨fun e0=>Classical.byContradiction fun hn=>hv (by subst e0;exact .first hn),fun i hi hmem hso=>Classical.byContradiction fun hn=>hv ?_⟩);have hin:=h.on hi hso
   rw[(h.ok i hi hin).2,kP]at hn;have n1:aT (ins.getD i default) v≠true:=fun e=>hn (by rw[e];rfl)
   have n2:v ∉ dZ (bkB f i):=fun e=>hn (by rw[decide_eq_true e,Bool.or_true])
   exact .next i j (Classical.byContradiction fun hb=>n1 (h.ov i hi hin v hb)) (fun hp=>n1 (h.tr i hi hin v (.inr hp))) n2 hi hj hmem
  ·rw[if_neg e]at hs⊢;exact h.ov j hj hs v hv
 ·rw[bY _ hki]at hs⊢;have hw:=hv.imp (mdn j v) id
  by_cases e:j=k
  ·subst e;rw[if_pos rfl];exact(he v).2 hw
  ·rw[if_neg e]at hs⊢;exact h.tr j hj hs v hw
theorem AI.fin{f:Lt.Func}{ins outs:List Lt.Vs}(h:AI f ins outs)(hs:∀k,k<f.Blocks.length->ins.getD k default≠default)(hx:∀k,k<f.Blocks.length->∀v,aT (ins.getD k default) v=true->mf f outs k v\/v∈phB f k):qe f ins:=by
 refine⟨h.li,fun k hk=>⟨(h.ok k hk (hs k hk)).1.isS,fun v=>⟨fun hv=>?_,fun hv=>hv.elim (h.ov k hk (hs k hk) v) fun hp=>h.tr k hk (hs k hk) v (.inr hp)⟩⟩⟩;refine Classical.or_iff_not_imp_right.2 fun hp hb=>?_
 have key:∀k,Bare f v k->k<f.Blocks.length->v ∉ phB f k->aT (ins.getD k default) v≠true:=fun k hb=>by
  induction hb with
  |first hn=>exact fun hk hp hv=>hn (((hx 0 hk v hv).resolve_right hp).1 rfl)
  |next i k _ h1 h2 hi hk' hm ih=>
   intro hk hp hv;have hso:=(h.ok i hi (hs i hi)).2
   have h3:=((hx k hk v hv).resolve_right hp).2 i hi hm (by rw[hso];exact nO _ _)
   rw[hso,kP,decide_eq_false h2,Bool.or_false]at h3;exact ih hi h1 h3
 exact key k hb hk hp hv
structure RI (f:Lt.Func) (y:List Int) (t0:Nat) (j:Nat) (ins outs:List Lt.Vs) (ch:Bool):Prop where
 ai:AI f ins outs
 dn:∀i,i<j->ins.getD (y.getD i default).toNat default≠default
 sz:DO (univ f).length ins<=t0
 s2:ch=true->DO (univ f).length ins<t0
 fx:ch=false->∀i,i<j->∀v,aT (ins.getD (y.getD i default).toNat default) v=true->mf f outs (y.getD i default).toNat v\/v∈phB f (y.getD i default).toNat
theorem RI.step{f:Lt.Func}{y:List Int}{t0 j:Nat}{ins outs:List Lt.Vs}{ch:Bool}(h:RI f y t0 j ins outs ch){k:Nat}(ek:y.getD j default=(k:Int))(hk:k<f.Blocks.length)(hy:∀i,i<j->(y.getD i default).toNat<f.Blocks.length){x:Lt.Vs}(hx:okU (univ f) x)(he:∀v,aT x v=true ↔ mf f outs k v\/v∈phB f k){c:Bool}
  (hc:c=(if(ins.getD k default).isNone=true then true else if(!decide ((((ins.getD k default).getD []).length:Int)=((x.getD []).length:Int)))=true then true else ch)) :
  RI f y t0 (j+1) (ins.set k x) (outs.set k (fP x (bkB f k))) c:=by
 obtain⟨ha,less⟩:=h.ai.step hk hx he;have hki:k<ins.length:=by rw[h.ai.li];exact hk
 have hko:k<outs.length:=by rw[h.ai.lo];exact hk
 have xs:x≠default:=fun e=>by have:=hx.isS;rw[e]at this;cases this
 have hsz:=DP (univ f).length ins k x hki
 have hxl:=hx.len
 obtain⟨mx,rfl⟩:∃mx,x=some mx:=by cases x with|none=>exact absurd rfl xs|some mx=>exact⟨mx,rfl⟩
 have s1:szV (univ f).length (some mx)=mx.length:=rfl
 simp only[Xb]at hxl hc;have ways:(ins.getD k default=none/\c=true)\/(∃m,ins.getD k default=some m/\mx.length<=m.length/\((mx.length<m.length/\c=true)\/(mx.length=m.length/\c=ch))):=by
  cases hi:ins.getD k default with
  |none=>rw[hi]at hc;exact .inl ⟨rfl,hc⟩
  |some m=>
   refine .inr ⟨m,rfl,?_⟩;have hne:ins.getD k default≠default:=by rw[hi];exact fun e=>by cases e
   have hl:=less hne
   have hok:=(h.ai.ok k hk hne).1
   rw[hi]at hl hok hc;have hle:=hx.le hok hl
   simp only[Xb]at hle hc;refine⟨hle,?_⟩;rw[if_neg (by simp)]at hc;by_cases e:mx.length=m.length
   ·rw[if_neg (by simp[e])]at hc;exact .inr ⟨e,hc⟩
   ·rw[if_pos (by simp;omega)]at hc;exact .inl ⟨by omega,hc⟩
 refine⟨ha,fun i hi=>?_,?_,fun ec=>?_,fun ec i hi v hv=>?_⟩
 ·rw[bY _ hki];split
  ·exact xs
  ·rename_i e;rcases W4 i j with h'|h'
   ·exact h.dn i h'
   ·obtain rfl:i=j:=by omega
    exact absurd (by rw[ek];rfl) e
 ·have:=h.sz
  rcases ways with⟨e,_⟩|⟨m,e,h1,_⟩
  ·have e2:szV (univ f).length (ins.getD k none)=(univ f).length+1:=by rw[show ins.getD k none=none from e];rfl
   omega
  ·have e2:szV (univ f).length (ins.getD k none)=m.length:=by rw[show ins.getD k none=some m from e];rfl
   omega
 ·have:=h.sz
  rcases ways with⟨e,_⟩|⟨m,e,h1,⟨h2,_⟩|⟨h2,h3⟩⟩
  ·have e2:szV (univ f).length (ins.getD k none)=(univ f).length+1:=by rw[show ins.getD k none=none from e];rfl
   omega
  ·have e2:szV (univ f).length (ins.getD k none)=m.length:=by rw[show ins.getD k none=some m from e];rfl
   omega
  ·have e2:szV (univ f).length (ins.getD k none)=m.length:=by rw[show ins.getD k none=some m from e];rfl
   have:=h.s2 (by rw[<- h3];exact ec)
   omega
 ·rcases ways with⟨_,e⟩|⟨m,e,h1,⟨_,h2⟩|⟨h2,h3⟩⟩
  ·rw[ec]at e;cases e
  ·rw[ec]at h2;cases h2
  ·have hne:ins.getD k default≠default:=by rw[e];exact fun e=>by cases e
   have hok:=(h.ai.ok k hk hne)
   have hsame:=hx.same hok.1 (less hne) (by rw[e];exact h2)
   have hiff:∀v,aT (some mx) v=aT (ins.getD k default) v:=fun v=>by
    cases h4:aT (ins.getD k default) v with
    |true=>exact hsame v h4
    |false=>
     cases h5:aT (some mx) v with
     |false=>rfl
     |true=>rw[less hne v h5]at h4;cases h4
   have mup:∀q v,mf f outs q v->mf f (outs.set k (fP (some mx) (bkB f k))) q v:=fun q v hm=>by
    refine⟨hm.1,fun i hi hmem hs=>?_⟩;rw[bY _ hko]at hs⊢;by_cases ei:i=k
    ·subst ei;rw[if_pos rfl];have:=hm.2 i hi hmem (by rw[hok.2];exact nO _ _)
     rw[hok.2,kP,<- hiff]at this;rw[kP];exact this
    ·rw[if_neg ei]at hs⊢;exact hm.2 i hi hmem hs
   rcases W4 i j with h'|h'
   ·have hv:aT (ins.getD (y.getD i default).toNat default) v=true:=by
     rw[bY _ hki]at hv;split at hv
     ·rename_i e5;rw[hiff]at hv;rw[e5];exact hv
     ·exact hv
    exact(h.fx (by rw[<- h3];exact ec) i h' v hv).imp (mup _ v) id
   ·obtain rfl:i=j:=by omega
    rw[ek,Int.toNat_natCast]at hv⊢;rw[bY _ hki,if_pos rfl]at hv;exact((he v).1 hv).imp (mup _ v) id
end Go.Am
end
