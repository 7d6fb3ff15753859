/-
  Part 11: AmLay · AmNiceM · AmNice14 · AmNice14b · AmNice14c · AmNice14d · AmG23 · AmG18c · AmG16 · AmG15 · AmG14 · AmLoopE · AmL20 · AmL21 · AmL22 · AmL23 · AmG17 · AmL24 · AmL25 · AmL26 · AmL27 · AmL20b · AmL28.
-/
import Derived.Test.YteooihiebpbaiaaGreatDoorVp10
import Derived.Shelf.Small.Strs
import Derived.Shelf.Small.Wraps
import Derived.Shelf.Strings.Cut
import Derived.Shelf.Strings.Split
import Derived.Test.YteooihiebpbaiaaGreatDoorProg
set_option linter.unusedSimpArgs false
set_option linter.unusedVariables false
set_option linter.unusedSectionVars false
set_option linter.unnecessarySimpa false
open Lt
open Go.Proofs.Tryz
open Go.IntKind (i64)
section
namespace Go.Proofs
open Go.Shelf
def Tryz.lays137_ren:Go.Shelf.Ren:=⟨λ|137=>255|217=>224|266=>241|n=>n,λ|9=>9|5=>5|3=>3|n=>n,λ|n=>n⟩
theorem Tryz.lays137:Go.Proofs.Lays.n137 prog Tryz.lays137_ren:={
 mixed:=by kernel_rfl
 f137:=func255.trans (congrArg some kQ0)
 f217:=func224.trans (congrArg some kQ0)
 f266:=func241.trans (congrArg some kQ0)
 t3:=underlying3
 a3:=isAgg3
 z3:=sizeOf3
 v3:=zeroValue3
 t5:=underlying5
 a5:=isAgg5
 z5:=sizeOf5
 v5:=zeroValue5
 t9:=underlying9
 a9:=isAgg9
 z9:=sizeOf9
 v9:=zeroValue9 }
open Go.RowKit in
theorem Tryz.strings_IndexByte(s:ByteArray)(c:Int)(w:World) :
  Calls prog 255 #[.string s,.int .u8 c] w λe w'=>e=.returned (.int .i64 (Lib.indexByte s.data.toList c.toNat.toUInt8))/\w'=w:=Any.strings_IndexByte Tryz.lays137 s c w
def Tryz.lays103_ren:Go.Shelf.Ren:=⟨λ|103=>254|210=>267|206=>274|n=>n,λ|9=>9|4=>4|24=>112|3=>3|n=>n,λ|n=>n⟩
theorem Tryz.lays103:Go.Proofs.Lays.n103 prog Tryz.lays103_ren:={
 mixed:=by kernel_rfl
 f103:=func254.trans (congrArg some kQ0)
 f206:=func274.trans (congrArg some kQ0)
 f210:=func267.trans (congrArg some kQ0)
 t3:=underlying3
 a3:=isAgg3
 z3:=sizeOf3
 v3:=zeroValue3
 t4:=underlying4
 a4:=isAgg4
 z4:=sizeOf4
 v4:=zeroValue4
 t9:=underlying9
 a9:=isAgg9
 z9:=sizeOf9
 v9:=zeroValue9
 t24:=underlying112
 a24:=isAgg112
 z24:=sizeOf112
 v24:=zeroValue112 }
open Go.RowKit in
theorem Tryz.strings_CutPrefix(s p:ByteArray)(w:World) :
  Calls prog 254 #[.string s,.string p] w λe w'=>e=.returned (.tuple #[.string ⟨(Lib.trimPrefix s.data.toList p.data.toList).toArray⟩,.bool (Lib.hasPrefix s.data.toList p.data.toList)])/\w'=w:=Any.strings_CutPrefix Tryz.lays103 s p w
def Tryz.lays145_ren:Go.Shelf.Ren:=⟨λ|145=>81|220=>123|219=>183|217=>224|225=>225|224=>226|267=>227|266=>241|314=>242|n=>n,λ|9=>9|4=>4|59=>143|3=>3|5=>5|46=>273|146=>290|51=>289|n=>n,λ|1=>1|n=>n⟩
theorem Tryz.lays145:Go.Proofs.Lays.n145 prog Tryz.lays145_ren:={
 mixed:=by kernel_rfl
 f145:=func81.trans (congrArg some kQ0)
 f217:=func224.trans (congrArg some kQ0)
 f219:=func183.trans (congrArg some kQ0)
 f220:=func123.trans (congrArg some kQ0)
 f224:=func226.trans (congrArg some kQ0)
 f225:=func225.trans (congrArg some kQ0)
 f266:=func241.trans (congrArg some kQ0)
 f267:=func227.trans (congrArg some kQ0)
 f314:=func242.trans (congrArg some kQ0)
 t3:=underlying3
 a3:=isAgg3
 z3:=sizeOf3
 v3:=zeroValue3
 t4:=underlying4
 a4:=isAgg4
 z4:=sizeOf4
 v4:=zeroValue4
 t5:=underlying5
 a5:=isAgg5
 z5:=sizeOf5
 v5:=zeroValue5
 t9:=underlying9
 a9:=isAgg9
 z9:=sizeOf9
 v9:=zeroValue9
 t46:=underlying273
 a46:=isAgg273
 z46:=sizeOf273
 v46:=zeroValue273
 t51:=underlying289
 a51:=isAgg289
 z51:=sizeOf289
 v51:=zeroValue289
 t59:=underlying143
 a59:=isAgg143
 z59:=sizeOf143
 v59:=zeroValue143
 t146:=underlying290
 a146:=isAgg290
 z146:=sizeOf290
 v146:=zeroValue290
 g1:=by kernel_rfl }
open Go.RowKit Go.Lib in
theorem Tryz.strings_Cut(s sep:ByteArray)(m:Int)(w:World)(hs:s.size < 4294967281)(hm:w.cell? ⟨1,0,none⟩=some (.int .i64 m)) :
  Calls prog 81 #[.string s,.string sep] w λe w'=>e=.returned (.tuple #[.string ⟨(Lib.cut s.data.toList sep.data.toList).1.toArray⟩,.string ⟨(Lib.cut s.data.toList sep.data.toList).2.1.toArray⟩,.bool (Lib.cut s.data.toList sep.data.toList).2.2])/\∃n,w'=w.drewN n:=Any.strings_Cut Tryz.lays145 s sep m w hs hm
def Tryz.lays146_ren:Go.Shelf.Ren:=⟨λ|146=>80|221=>122|268=>180|138=>181|143=>182|195=>221|197=>222|218=>223|219=>183|260=>240|217=>224|225=>225|224=>226|267=>227|266=>241|314=>242|n=>n,λ|9=>9|31=>57|3=>3|4=>4|0=>0|105=>269|21=>21|5=>5|46=>273|119=>295|139=>298|138=>297|146=>290|51=>289|n=>n,λ|1=>1|3=>2|4=>3|n=>n⟩
theorem Tryz.lays146:Go.Proofs.Lays.n146 prog Tryz.lays146_ren:={
 mixed:=by kernel_rfl
 f138:=func181.trans (congrArg some kQ0)
 f143:=func182.trans (congrArg some kQ0)
 f146:=func80.trans (congrArg some kQ0)
 f195:=func221.trans (congrArg some kQ0)
 f197:=func222.trans (congrArg some kQ0)
 f217:=func224.trans (congrArg some kQ0)
 f218:=func223.trans (congrArg some kQ0)
 f219:=func183.trans (congrArg some kQ0)
 f221:=func122.trans (congrArg some kQ0)
 f224:=func226.trans (congrArg some kQ0)
 f225:=func225.trans (congrArg some kQ0)
 f260:=func240.trans (congrArg some kQ0)
 f266:=func241.trans (congrArg some kQ0)
 f267:=func227.trans (congrArg some kQ0)
 f268:=func180.trans (congrArg some kQ0)
 f314:=func242.trans (congrArg some kQ0)
 t0:=underlying0
 a0:=isAgg0
 z0:=sizeOf0
 v0:=zeroValue0
 t3:=underlying3
 a3:=isAgg3
 z3:=sizeOf3
 v3:=zeroValue3
 t4:=underlying4
 a4:=isAgg4
 z4:=sizeOf4
 v4:=zeroValue4
 t5:=underlying5
 a5:=isAgg5
 z5:=sizeOf5
 v5:=zeroValue5
 t9:=underlying9
 a9:=isAgg9
 z9:=sizeOf9
 v9:=zeroValue9
 t21:=underlying21
 a21:=isAgg21
 z21:=sizeOf21
 v21:=zeroValue21
 t31:=underlying57
 a31:=isAgg57
 z31:=sizeOf57
 v31:=zeroValue57
 t46:=underlying273
 a46:=isAgg273
 z46:=sizeOf273
 v46:=zeroValue273
 t51:=underlying289
 a51:=isAgg289
 z51:=sizeOf289
 v51:=zeroValue289
 t105:=underlying269
 a105:=isAgg269
 z105:=sizeOf269
 v105:=zeroValue269
 t119:=underlying295
 a119:=isAgg295
 z119:=sizeOf295
 t138:=underlying297
 a138:=isAgg297
 z138:=sizeOf297
 v138:=zeroValue297
 t139:=underlying298
 a139:=isAgg298
 z139:=sizeOf298
 v139:=zeroValue298
 t146:=underlying290
 a146:=isAgg290
 z146:=sizeOf290
 v146:=zeroValue290
 g1:=by kernel_rfl
 g3:=by kernel_rfl
 g4:=by kernel_rfl }
open Go.RowKit Go.Lib in
theorem Tryz.strings_Split(s sep:ByteArray)(m:Int)(w:World)(hs:s.size < 4294967281)(hm:w.cell? ⟨1,0,none⟩=some (.int .i64 m))(h1:1<=sep.size) :
  Calls prog 80 #[.string s,.string sep] w λe w'=>e=.returned (.slice (some ⟨w.heap.size,0,none⟩) (Lib.countB s sep+1) (Lib.countB s sep+1))/\w'=w.alloc (.cells ((Lib.splitB sep 0 (Lib.countB s sep) s).map Value.string).toArray 9):=Any.strings_Split Tryz.lays146 kQ0 s sep m w hs hm h1
end Go.Proofs
end

section
namespace Lt
open Go
def jw:Bool->List a8->a8
 |_,[]=>[]
 |b,w::r=>(if b then [32]else [])++w++jw true r
def uH(c:Int):Bool:=(((decide (97<=c))&&(decide (c<=122)))||((decide (65<=c))&&(decide (c<=90))))||(decide (c=95))
def letter(c:UInt8):Bool:=uH ((c.toNat:Nat):Int)
def kE(c:UInt8):Bool:=(decide (48<=((c.toNat:Nat):Int)))&&(decide (((c.toNat:Nat):Int)<=57))
def kept(s:a8):Bool:=((decide (s=[110,117,108,108]))||(decide (s=[105,110,116])))||(decide (s=[102,108,111,97,116]))
def iq(c:UInt8):Bool:=letter c||kE c
def Name(s:a8):Bool:=(!decide (s=[])&&decide (s.length<=16)&&letter (s.getD 0 0)&&!kept s)&&s.all iq
def kind(s:a8):Bool:=((decide (s=[105,110,116]))||(decide (s=[102,108,111,97,116])))||Name s
def typed(l:List Var)(most:Int):Bool:=decide ((l.length:Int)<=most)&&l.all λv=>Name v.Name&&kind v.Type_
def Plain(n:Int):Int:=if (decide ((i64.wrap ((BitVec.ofInt i64.bits n &&& BitVec.ofInt i64.bits 9218868437227405312).toNat:Nat))=9218868437227405312))&&(!decide ((i64.wrap ((BitVec.ofInt i64.bits n &&& BitVec.ofInt i64.bits 4503599627370495).toNat:Nat))=0))then 9221120237041090560 else n
def bE(a:Arg):Bool:=
 if a.Kind=1 then Name a.S&&decide (a.N=0)
 else if a.Kind=2 then decide (a.S=[])
 else if a.Kind=3 then decide (a.S=[])&&decide (Plain a.N=a.N)
 else if a.Kind=4 then decide (a.S=[])&&decide (a.N=0)
 else if a.Kind=5 then(decide (a.S=[])&&decide (0<=a.N))&&decide (a.N<=999)
 else false
def bb(objs:Bool)(a:Arg):Bool:=bE a&&!(decide (a.Kind=5)&&!objs)
def bH(l:List Arg)(objs:Bool):Bool:=l.all (bb objs)
def iN(b:Bind):Bool:=Name b.Name&&bb true b.A
def frame(f:Frame):Bool:=(Name f.Func&&Name f.Block&&decide (0<=f.At)&&decide (f.At<=1024)&&decide (f.Vars.length<=16))&&f.Vars.all iN
def virt(o:Virt):Bool:=Name o.Class&&decide (o.Vals.length<=8)&&bH o.Vals true
def Uc(l:a8):Nat->Int->Nat->Nat->a8
 |0,_,_,_=>[]
 |k+1,n,f,i=>
  if i<l.length then
   if(((l.getD i 0).toNat:Nat):Int)=32 then
    if i64.wrap (n - 1)=0 then(l.drop (f+1)).take (i - (f+1))else Uc l k (i64.wrap (n - 1)) i (i+1)
   else Uc l k n f (i+1)
  else []
def nth(l:a8)(n:Int):a8:=Uc l (l.length+1) n 0 1
def two:a8:=32::97::100::100::32::115::117::98::32::109::117::108::32::100::105::118::32::114::101::109::32::97::110::100::32::111::114::32::120::111::114::32::115::104::108::32::115::104::114::32::101::113::32::110::101::32::108::116::32::108::101::32::102::97::100::100::32::102::115::117::98::32::102::109::117::108::32::102::100::105::118::32::102::101::113::32::102::108::116::32::102::108::101::32::[]
def Of(op:Int):Form×Bool:=
 if 1<=op/\op<=21 then(⟨nth two op,true,false,2,2⟩,true)
 else if 22<=op/\op<=24 then(⟨nth [32,105,116,111,102,32,102,116,111,105,32,109,111,118,32] (i64.wrap (op - 21)),true,false,1,1⟩,true)
 else if op=25 then(⟨[110,101,119],true,true,0,8⟩,true)
 else if op=26 then(⟨[108,111,97,100],true,true,1,1⟩,true)
 else if op=27 then(⟨[115,116,111,114,101],false,true,2,2⟩,true)
 else if op=28 then(⟨[115,97,109,101],true,false,2,2⟩,true)
 else if op=29 then(⟨[103,108,111,97,100],true,true,0,0⟩,true)
 else if op=30 then(⟨[103,115,116,111,114,101],false,true,1,1⟩,true)
 else if op=31 then(⟨[99,97,108,108],true,true,0,8⟩,true)
 else if op=32 then(⟨[101,120,116],true,true,0,8⟩,true)
 else if op=33 then(⟨[111,117,116],false,false,1,1⟩,true)
 else if op=34 then(⟨[103,117,97,114,100],false,false,0,0⟩,true)
 else(⟨[],false,false,0,0⟩,false)
def instr(i:Instr):Bool:=
 ((Of i.Op).2&&((Of i.Op).1.Dst==!decide (i.Dst=[]))&&((Of i.Op).1.Named==!decide (i.Name=[]))&&!((Of i.Op).1.Dst&&!Name i.Dst)&&!((Of i.Op).1.Named&&!Name i.Name))
 && (decide ((Of i.Op).1.Least<=(i.Args.length:Int))&&decide ((i.Args.length:Int)<=(Of i.Op).1.Most)&&bH i.Args false&&decide (i.Frames.length<=16)&&decide (i.Objs.length<=99))
 && (if i.Op≠31/\i.Op≠34 then decide (i.Frames=[])&&decide (i.Objs=[])else i.Frames.all frame&&i.Objs.all virt)
def oG(i:In):Bool:=Name i.Block&&bb false i.A
def phi(x:Phi):Bool:=(Name x.Dst&&!decide (x.Ins=[])&&decide (x.Ins.length<=256))&&x.Ins.all oG
def DP(a:Arg):Bool:=decide (a=⟨0,[],0⟩)
def fh(t:Term):Bool:=t.To.all Name &&
 (if t.Kind=1 then DP t.A&&decide (t.To.length=1)&&decide (t.N=0)
  else if t.Kind=2 then bb false t.A&&decide (t.To.length=2)&&decide (t.N=0)
  else if t.Kind=3 then bb false t.A&&decide (t.To.length=0)&&decide (t.N=0)
  else if t.Kind=4 then DP t.A&&decide (t.To.length=0)
  else false)
def block(b:Block):Bool:=(Name b.Name&&fh b.End)&&(b.Phis.all phi&&b.Code.all instr)
def blocks:List Block->Nat->Bool
 |[],_=>true
 |b::r,long=>(decide (long+(b.Phis.length+b.Code.length)<=1024)&&block b)&&blocks r (long+(b.Phis.length+b.Code.length))
def aJ(f:Func):Bool:=(Name f.Name&&kind f.Result&&typed f.Params 6&&typed f.Vars 1024&&!decide (f.Blocks=[])&&decide (f.Blocks.length<=256))&&blocks f.Blocks 0
def cV(c:Class):Bool:=Name c.Name&&typed c.Fields 8
def cP(x:Extern):Bool:=Name x.Name&&decide (0<=x.N)&&decide (x.N<=8)
def bt(p:Program):Bool:=
 (decide (p.Classes.length<=8)&&decide (p.Externs.length<=8)&&decide (p.Funcs.length<=8)&&typed p.Globals 8) &&
 (p.Classes.all cV&&(p.Externs.all cP&&p.Funcs.all aJ))
def digs(n:Nat):a8:=if n < 10 then [UInt8.ofNat (48+n)]else digs (n / 10)++[UInt8.ofNat (48+n % 10)]
def be(n:Int):a8:=(if n < 0 then [45]else [])++digs n.natAbs
abbrev plus(n:Int)(k:Nat):Int:=i64.wrap (n+(k:Int))
def upto(most n k:Int):Int:=if n<=most then i64.wrap (n+k)else n
def zG(most:Int):List Var->Int->Int
 |[],n=>n
 |v::r,n=>if n<=most then(let m:=plus n v.Name.length;zG most r (if m<=most then plus m v.Type_.length else m))else n
def dc(l:List Var)(most:Int):Int:=if most < (l.length:Int)then i64.wrap (most+1)else zG most l (l.length:Int)
def zF(most:Int):List Arg->Int->Int
 |[],n=>n
 |a::r,n=>if n<=most then zF most r (plus n a.S.length)else n
def fL(l:List Arg)(most:Int):Int:=if most < (l.length:Int)then i64.wrap (most+1)else zF most l (l.length:Int)
def pM(most:Int):List Bind->Int->Int
 |[],n=>n
 |b::r,n=>if n<=most then(let m:=plus (i64.wrap (n+1)) b.Name.length;pM most r (if m<=most then plus m b.A.S.length else m))else n
def lR(most:Int):List Frame->Int->Int
 |[],n=>n
 |f::r,n=>if n<=most then(let m:=plus n f.Func.length;lR most r (pM most f.Vars (if m<=most then plus m f.Block.length else m)))else n
def uj(most:Int):List Virt->Int->Int
 |[],n=>n
 |o::r,n=>if n<=most then(let m:=plus n o.Class.length;uj most r (if m<=most then i64.wrap (m+fL o.Vals most)else m))else n
def gE(x:Instr)(most:Int):Int:=
 if(decide (most < (x.Frames.length:Int)))||(decide (most < (x.Objs.length:Int)))then i64.wrap (most+1)
 else
  uj most x.Objs (lR most x.Frames (upto most (upto most (plus (plus (plus 1 x.Dst.length) x.Frames.length) x.Objs.length) (x.Name.length:Int)) (fL x.Args most)))
def cTo(most:Int):List a8->Int->Int
 |[],n=>n
 |t::r,n=>if n<=most then cTo most r (plus (i64.wrap (n+1)) t.length)else n
def IR(most:Int):List In->Int->Int
 |[],n=>n
 |b::r,n=>if n<=most then(let m:=plus (i64.wrap (n+1)) b.Block.length;IR most r (if m<=most then plus m b.A.S.length else m))else n
def uk(most:Int):List Phi->Int->Int
 |[],n=>n
 |x::r,n=>if n<=most then uk most r (IR most x.Ins (plus (i64.wrap (n+1)) x.Dst.length))else n
def r6(most:Int):List Instr->Int->Int
 |[],n=>n
 |x::r,n=>if n<=most then r6 most r (i64.wrap (n+gE x most))else n
def gD(b:Block)(most:Int):Int:=
 if(decide (most < (b.Phis.length:Int)))||(decide (most < (b.Code.length:Int)))||(decide (most < (b.End.To.length:Int)))then i64.wrap (most+1)
 else
  r6 most b.Code (uk most b.Phis (cTo most b.End.To (upto most (plus 1 b.Name.length) (b.End.A.S.length:Int))))
def oe(most:Int):List Block->Int->Int
 |[],n=>n
 |x::r,n=>if n<=most then oe most r (i64.wrap (n+gD x most))else n
def nX(f:Func)(most:Int):Int:=
 if most < (f.Blocks.length:Int)then i64.wrap (most+1)
 else
  oe most f.Blocks (upto most (upto most (upto most (plus 1 f.Name.length) (f.Result.length:Int)) (dc f.Params most)) (dc f.Vars most))
def kN(most:Int):List Class->Int->Int
 |[],n=>n
 |c::r,n=>if n<=most then(let m:=plus n c.Name.length;kN most r (if m<=most then i64.wrap (m+dc c.Fields most)else m))else n
def jr(most:Int):List Extern->Int->Int
 |[],n=>n
 |x::r,n=>if n<=most then jr most r (plus (i64.wrap (n+1)) x.Name.length)else n
def og(most:Int):List Func->Int->Int
 |[],n=>n
 |x::r,n=>if n<=most then og most r (i64.wrap (n+nX x most))else n
def Few(p:Program)(most:Int):Bool:=
 if(decide (50 < (p.Classes.length:Int)))||(decide (50 < (p.Externs.length:Int)))||(decide (50 < (p.Funcs.length:Int)))then false
 else decide (og most p.Funcs (jr most p.Externs (kN most p.Classes (dc p.Globals most)))<=most)
def inR(n:Int):Prop:=-9223372036854775808<=n/\n < 9223372036854775808
def Arg.ok(a:Arg):Prop:=inR a.N
def vU(l:List Arg):Prop:=∀a∈l,a.ok
def Bind.ok(b:Bind):Prop:=b.A.ok
def Frame.ok(f:Frame):Prop:=f.Vars.length<=4611686018427387904/\∀b∈f.Vars,b.ok
def Virt.ok(o:Virt):Prop:=vU o.Vals
def Instr.ok(i:Instr):Prop:=vU i.Args/\(∀f∈i.Frames,f.ok)/\(∀o∈i.Objs,o.ok)
def In.ok(i:In):Prop:=i.A.ok
def Phi.ok(x:Phi):Prop:=x.Ins.length<=4611686018427387904/\∀i∈x.Ins,i.ok
def Term.ok(t:Term):Prop:=t.A.ok/\inR t.N
def Block.ok(b:Block):Prop:=(∀x∈b.Phis,x.ok)/\(∀i∈b.Code,i.ok)/\b.End.ok
def Func.ok(f:Func):Prop:=∀b∈f.Blocks,b.ok
def Program.ok(p:Program):Prop:=∀f∈p.Funcs,f.ok
def room:Nat:=1099511627776
def ir(n:Int):Prop:=inR n
def fC(a:Arg):Prop:=a.ok
def afH(x:Instr)(most:Int):Prop:=x.ok/\most<=4611686018427387904
def afG(b:Block)(most:Int):Prop:=b.ok/\most<=4611686018427387904
def afI(f:Func)(most:Int):Prop:=f.ok/\most<=4611686018427387904
def Ox(p:Program)(most:Int):Prop:=p.ok/\most<=4611686018427387904
def La(n:Int):Int:=if n < 0 then IntKind.u64.wrap (0 - (IntKind.u64.wrap n))else IntKind.u64.wrap n
def iY(n:Int):a8:=be n
def F6(n:Int):Bool:=decide (9218868437227405312 < (Int.tmod (IntKind.u64.wrap n) 9223372036854775808))
def dL(n:Int):Int:=if F6 n=true then 9221120237041090560 else n
def XE(x:Int):UInt8:=UInt8.ofNat (IntKind.u8.wrap ((IntKind.u8.wrap (Int.tmod x 16))+(if IntKind.u8.wrap (Int.tmod x 16) < 10 then 48 else 87))).toNat
def rU:Nat->Int->a8->a8
 |0,_,l=>l
 |k+1,x,l=>rU k (IntKind.u64.wrap (Int.tdiv x 16)) (XE x::l)
def pm(n:Int):a8:=[48,102]++rU 16 (IntKind.u64.wrap (dL n)) []
def wJ(i:Nat)(c:UInt8):Bool:=!((((!(((decide (48<=((c.toNat:Nat):Int)))&&(decide (((c.toNat:Nat):Int)<=57)))&&(decide (0 < (i:Int)))))&&(!decide (((c.toNat:Nat):Int)=95)))&&((decide (((c.toNat:Nat):Int) < 65))||(decide (90 < ((c.toNat:Nat):Int)))))&&((decide (((c.toNat:Nat):Int) < 97))||(decide (122 < ((c.toNat:Nat):Int)))))
def cj(s:a8):Bool:=((List.range s.length).all λi=>wJ i (s.getD i 0)) &&
 (((((decide (1<=(s.length:Int)))&&(decide ((s.length:Int)<=16)))&&(!decide (s=[110,117,108,108])))&&(!decide (s=[105,110,116])))&&(!decide (s=[102,108,111,97,116])))
def jQ(a:Arg):Bool:=
 if a.Kind=1 then cj a.S&&decide (a.N=0)
 else if ((decide (a.Kind < 1))||(decide (5<a.Kind)))||(!decide (a.S=[]))then false
 else(((decide (a.Kind=2))||((decide (a.Kind=3))&&(decide ((dL a.N)=a.N))))||((decide (a.Kind=4))&&(decide (a.N=0))))||(((decide (a.Kind=5))&&(decide (0<=a.N)))&&(decide (a.N<=999)))
def bh(a:Arg):a8:=
 if jQ a then
  if a.Kind=1 then a.S else if a.Kind=2 then iY a.N else if a.Kind=3 then pm a.N else if a.Kind=4 then [110,117,108,108]else 35::iY a.N
 else []
def rOf(op:Int):RForm×Bool:=
 if op < 1\/34<op then(⟨[],false,false,0,0⟩,false)
 else(⟨Go.Am.gw.getD op.toNat default,(((!decide (op=27))&&(!decide (op=30)))&&(!decide (op=33)))&&(!decide (op=34)),(((decide (op=25))||(decide (op=26)))||(decide (op=27)))||((decide (29<=op))&&(decide (op<=32))),
  if op=22\/op=23\/op=24\/op=26\/op=30\/op=33 then 1 else if op=25\/op=31\/op=32\/op=29\/op=34 then 0 else 2,
  if op=22\/op=23\/op=24\/op=26\/op=30\/op=33 then 1 else if op=25\/op=31\/op=32 then 8 else if op=29\/op=34 then 0 else 2⟩,true)
def lnT(w:List a8):a8:=jw false w++[10]
def iD(out:List UInt8)(l:List a8):a8:=out++lnT l
def qu(out first:List UInt8)(l:List Var):a8:=out++l.flatMap λv=>lnT [first,v.Name,v.Type_]
def xG(l:List a8)(a:List Arg):List a8:=l++a.map bh
def sk(x:Instr):List a8:=(if(rOf x.Op).1.Dst then [x.Dst,[61]]else [])++[(rOf x.Op).1.Word]
def i7(x:Instr):List a8:=
 if(x.Op=26\/x.Op=27)/\x.Args≠[]then sk x++(x.Args.take 1).map bh++[x.Name]++(x.Args.drop 1).map bh
 else sk x++(if(rOf x.Op).1.Named then [x.Name]else [])++x.Args.map bh
def fQ(f:Frame):List a8:=[[97,116],f.Func,f.Block,iY f.At]++f.Vars.flatMap λb=>[b.Name,bh b.A]
def i6(o:Virt):List a8:=[[111,98,106],o.Class]++o.Vals.map bh
def jP(x:Instr):a8:=lnT (i7 x)++(x.Frames.flatMap λf=>lnT (fQ f))++(x.Objs.flatMap λo=>lnT (i6 o))
def YX(out:List UInt8)(x:Instr):a8:=out++jP x
def Bk(t:Term):List a8:=[([[],[106,117,109,112],[98,114,97,110,99,104],[114,101,116],[116,114,97,112]]:List a8).getD t.Kind.toNat default]++(if t.Kind=2\/t.Kind=3 then [bh t.A]else [])++t.To++(if t.Kind=4 then [iY t.N]else [])
def vb(t:Term):a8:=if t.Kind < 1\/4<t.Kind then []else lnT (Bk t)
def YZ(out:List UInt8)(t:Term):a8:=out++vb t
def nJ(x:Phi):List a8:=[[112,104,105],x.Dst]++x.Ins.flatMap λi=>[i.Block,bh i.A]
def iw(b:Block):a8:=lnT [[98,108,111,99,107],b.Name]++(b.Phis.flatMap λx=>lnT (nJ x))++b.Code.flatMap jP++vb b.End
def iZ(first:List UInt8)(l:List Var):a8:=l.flatMap λv=>lnT [first,v.Name,v.Type_]
def lm(f:Func):a8:=lnT [[102,117,110,99],f.Name,f.Result]++iZ [112,97,114,97,109] f.Params++iZ [118,97,114] f.Vars++f.Blocks.flatMap iw
def ix(c:Class):a8:=lnT [[99,108,97,115,115],c.Name]++iZ [102,105,101,108,100] c.Fields
def jA(x:Extern):a8:=lnT [[101,120,116,101,114,110],x.Name,iY x.N]
def gJ(p:Program):a8:=(if p.SSA then lnT [[115,115,97]]else [])++p.Classes.flatMap ix++iZ [103,108,111,98,97,108] p.Globals++p.Externs.flatMap jA++p.Funcs.flatMap lm
def bM(out:List UInt8)(l:List a8):Prop:=out.length+(lnT l).length<=room
def dB(out first:List UInt8)(l:List Var):Prop:=out.length+(iZ first l).length<=room
def qs(l:List a8)(a:List Arg):Prop:=vU a/\l.length+a.length<=room+room
def K7(out:List UInt8)(x:Instr):Prop:=x.ok/\(∀f∈x.Frames,inR f.At)/\out.length+(jP x).length<=room
def A9(out:List UInt8)(t:Term):Prop:=t.ok/\out.length+(vb t).length<=room
def nH(p:Program):Prop:=p.ok/\(∀e∈p.Externs,inR e.N)/\(∀f∈p.Funcs,∀b∈f.Blocks,∀i∈b.Code,∀r∈i.Frames,inR r.At)/\(gJ p).length<=room
def Xw(s:a8)(c:UInt8):Int:=Go.Lib.indexByte s c
def ae5(s p:a8):a8×Bool:=(Go.Lib.trimPrefix s p,Go.Lib.hasPrefix s p)
def ai4(s p:a8):a8×a8×Bool:=Go.Lib.cut s p
def E1(s p:a8):List a8:=(Go.Lib.splitB ⟨p.toArray⟩ 0 (Go.Lib.countB ⟨s.toArray⟩ ⟨p.toArray⟩) ⟨s.toArray⟩).map (·.data.toList)
def ahQ(s p:a8):Prop:=s.length < 4294967281
def YM(s p:a8):Prop:=s.length < 4294967281/\1<=p.length
def fnd{α:Type}[Inhabited α](nm:α->a8)(s:a8):List α->α×Bool
 |[]=>(default,false)
 |x::r=>if nm x=s then(x,true)else fnd nm s r
def az(p:Program)(s:a8):Class×Bool:=fnd (·.Name) s p.Classes
def ll(p:Program)(s:a8):Func×Bool:=fnd (·.Name) s p.Funcs
def gm(p:Program)(s:a8):Extern×Bool:=fnd (·.Name) s p.Externs
def rX(l:List Var)(s:a8):Var×Bool:=fnd (·.Name) s l
def fD(p:Program)(s:a8):Var×Bool:=rX p.Globals s
def oQ(p:Program)(c s:a8):Var×Bool:=rX (az p c).1.Fields s
def dN(f:Func)(s:a8):Var×Bool:=if(rX f.Params s).2=true then((rX f.Params s).1,true)else rX f.Vars s
def cw(f:Func)(a:Arg):a8×Bool:=
 if a.Kind=1 then((dN f a.S).1.Type_,(dN f a.S).2)
 else if a.Kind=2 then([105,110,116],true)
 else if a.Kind=3 then([102,108,111,97,116],true)
 else if a.Kind=4 then([110,117,108,108],true)
 else([],false)
def gX(t:List UInt8):Bool:=!decide (t=[105,110,116])&&!decide (t=[102,108,111,97,116])
def bB(h w:a8):Bool:=decide (h=w)||(decide (h=[110,117,108,108])&&gX w)
def gI:List a8->List Var->Bool
 |[],[]=>true
 |t::l,x::v=>bB t x.Type_&&gI l v
 |_,_=>false
def xF(f:Func)(t:Term):Bool:=decide (t.Kind=1)||(decide (t.Kind=2)&&(cw f t.A).2&&decide ((cw f t.A).1=[105,110,116]))||(decide (t.Kind=3)&&(cw f t.A).2&&bB (cw f t.A).1 f.Result)||(decide (t.Kind=4)&&decide (10<=t.N))
def mJ(l:List a8):Bool:=decide l.Nodup
def gN(p:Program)(t:List UInt8):Bool:=!gX t||(az p t).2
def cH(p:Program)(l:List Var):Bool:=(l.all λx=>gN p x.Type_)&&mJ (l.map (·.Name))
def iv(p:Program):Bool:=
 mJ (p.Classes.map (·.Name))&&mJ (p.Externs.map (·.Name))&&mJ (p.Funcs.map (·.Name))&&cH p p.Globals&&(p.Classes.all λc=>cH p c.Fields) &&
 p.Funcs.all λf=>gN p f.Result&&cH p (f.Params++f.Vars)
def jy(p:Program):Prop:=∀f∈p.Funcs,f.Params.length+f.Vars.length<=1000000
def LC(a b:a8):Bool:=gX a&&(gX b&&(decide (a=b)||(decide (a=[110,117,108,108])||decide (b=[110,117,108,108]))))
def af3(l:List a8)(t:List UInt8):Bool:=l.all λx=>decide (x=t)
def lA(q:asked)(a d:a8):Bool:=af3 q.args a&&decide (q.dst=d)
def BL(q:asked):Bool:=(az q.p q.i.Name).2&&(decide (q.dst=q.i.Name)&&(decide (q.args.length=0)||gI q.args (az q.p q.i.Name).1.Fields))
def Oz(q:asked):Prop:=0<q.args.length/\q.args.length=q.i.Args.length
def OA(q:asked):Prop:=q.i.Op≠29->0<q.args.length
def gy(q:asked):Var×Bool:=if(q.i.Args.getD 0 default).Kind=1 then oQ q.p (q.args.getD 0 default) q.i.Name else(default,false)
def nS(q:asked):Bool:=if q.i.Op=29 then(fD q.p q.i.Name).2&&decide ((fD q.p q.i.Name).1.Type_=q.dst)else(fD q.p q.i.Name).2&&bB (q.args.getD 0 default) (fD q.p q.i.Name).1.Type_
def vC(q:asked):Bool:=
 if q.i.Op<=14 then lA q [105,110,116] [105,110,116]
 else if q.i.Op<=18 then lA q [102,108,111,97,116] [102,108,111,97,116]
 else if q.i.Op<=21 then lA q [102,108,111,97,116] [105,110,116]
 else if q.i.Op=22 then lA q [105,110,116] [102,108,111,97,116]
 else if q.i.Op=23 then lA q [102,108,111,97,116] [105,110,116]
 else if q.i.Op=24 then bB (q.args.getD 0 default) q.dst
 else if q.i.Op=25 then BL q
 else if q.i.Op=26 then(gy q).2&&decide ((gy q).1.Type_=q.dst)
 else if q.i.Op=27 then(gy q).2&&bB (q.args.getD 1 default) (gy q).1.Type_
 else if q.i.Op=28 then decide (q.dst=[105,110,116])&&LC (q.args.getD 0 default) (q.args.getD 1 default)
 else if q.i.Op=29\/q.i.Op=30 then nS q
 else if q.i.Op=31 then(ll q.p q.i.Name).2&&(gI q.args (ll q.p q.i.Name).1.Params&&decide (q.dst=(ll q.p q.i.Name).1.Result))
 else if q.i.Op=32 then(gm q.p q.i.Name).2&&(decide ((q.args.length:Int)=(gm q.p q.i.Name).1.N)&&lA q [105,110,116] [105,110,116])
 else if q.i.Op=33 then !gX (q.args.getD 0 default)
 else true
def Bb(q:asked):Prop:=(Of q.i.Op).2=true/\q.args.length=q.i.Args.length/\(Of q.i.Op).1.Least<=(q.args.length:Int)/\(q.args.length:Int)<=(Of q.i.Op).1.Most
def iR(f:Func)(i:Instr):Bool:=(Of i.Op).2&&(decide ((Of i.Op).1.Least<=(i.Args.length:Int))&&(decide ((i.Args.length:Int)<=(Of i.Op).1.Most)&&(!(Of i.Op).1.Dst||(dN f i.Dst).2)))
def lQ(f:Func)(l:List Arg):List a8:=l.map λa=>(cw f a).1
def Jb(f:Func)(i:Instr):a8:=if(Of i.Op).1.Dst=true then(dN f i.Dst).1.Type_ else []
def oV(p:Program)(f:Func)(i:Instr):asked×Bool:=if(iR f i&&i.Args.all λa=>(cw f a).2)=true then(⟨p,i,Jb f i,lQ f i.Args⟩,true)else(default,false)
def uY(_:Program)(_:Func)(i:Instr):Prop:=i.Args.length<=1000000
def afL:=uY
def Oy:=uY
def jW(p:Program)(f:Func)(i:Instr):Bool:=(oV p f i).2&&vC (oV p f i).1
def YN(_:Program)(f:Func):Prop:=∀b∈f.Blocks,∀i∈b.Code,i.Args.length<=1000000
abbrev nmB(B:List Block)(i:Nat):a8:=(B.getD i default).Name
abbrev toB(B:List Block)(i:Nat):List a8:=(B.getD i default).End.To
inductive Rc (B:List Block):Nat->Prop
 |first:0<B.length->Rc B 0
 |next (i k:Nat):Rc B i->i<B.length->k<B.length->nmB B k∈toB B i->Rc B k
structure Gd (B:List Block):Prop where
 ps:0<B.length
 nd:∀i j,i<B.length->j<B.length->nmB B i=nmB B j->i=j
 tn:∀i,i<B.length->(toB B i).Nodup
 tr:∀i,i<B.length->∀s∈toB B i,∃k,k<B.length/\k≠0/\nmB B k=s
 re:∀k,k<B.length->Rc B k
noncomputable def Nc(P:Prop):Bool:=@decide P (Classical.propDecidable P)
variable{P:Prop}
theorem qa(h:P):Nc P=true:=@decide_eq_true P (Classical.propDecidable P) h
theorem As(h:¬ P):Nc P=false:=@decide_eq_false P (Classical.propDecidable P) h
theorem oJ:Nc P=true ↔ P:=@decide_eq_true_iff P (Classical.propDecidable P)
def YL(f:Func):Prop:=f.Blocks.length<=1000000/\∀b∈f.Blocks,b.End.To.length<=1000000
noncomputable def dF(f:Func):Bool:=Nc (Gd f.Blocks)
def je(s:a8):List Block->Int->Int×Bool
 |[],_=>(0,false)
 |b::r,i=>if b.Name=s then(i,true)else je s r (i+1)
def aK(f:Func)(s:a8):Int×Bool:=je s f.Blocks 0
def B4{α:Type}[DecidableEq α](v:α):List α->Int->Int
 |[],_=>-1
 |x::r,i=>if v=x then i else B4 v r (i+1)
def JP(l:List Int)(v:Int):Int:=B4 v l 0
def Al(l:List Int)(v:Int):Bool:=decide (0<=JP l v)
def JQ(l:List a8)(v:a8):Int:=B4 v l 0
def wo(l:List a8)(v:a8):Bool:=decide (0<=JQ l v)
def uZ(f:Func):Prop:=f.Blocks.length<=1000000/\∀b∈f.Blocks,b.End.To.length<=1000000
def oP(f:Func)(s:a8):Option Int:=if(aK f s).2=true then some (aK f s).1 else none
def ju(f:Func):List (List Int):=f.Blocks.map λb=>b.End.To.filterMap (oP f)
def u5(g:List (List Int)):Prop:=g.length<=1000000/\∀l∈g,l.length<=1000000
def QX(g:List (List Int))(k:Nat):List Int:=((List.range g.length).filter λi=>decide ((k:Int)∈g.getD i [])).map λ(i:Nat)=>(i:Int)
def ij(g:List (List Int)):List (List Int):=(List.range g.length).map (QX g)
def A8(g:List (List Int)):Prop:=u5 g/\0<g.length/\∀l∈g,∀k∈l,0<=k/\k < (g.length:Int)
inductive Gr (g:List (List Int)):Nat->Prop
 |first:Gr g 0
 |next (i k:Nat):Gr g i->(k:Int)∈g.getD i []->Gr g k
structure Od (g:List (List Int)) (l:List Int):Prop where
 lt:∀k∈l,0<=k/\k < (g.length:Int)
 all:∀k,Gr g k->(k:Int)∈l
 nd:l.Nodup
 pr:∀i,i<l.length->l.getD i 0≠0->∃j,j<i/\l.getD i 0∈g.getD (l.getD j 0).toNat []
def DW(g:List (List Int))(l:List Int):Prop:=Od g l
abbrev Vs:=Option (List (a8×Bool))
def bj(s:Vs)(v:a8):Bool:=((Go.Am.aw .s (s.getD []) v).getD false)
def okV(s:Vs)(n:Nat):Prop:=∃l,s=some l/\(l.map (·.1)).Nodup/\(∀x∈l,x.2=true)/\l.length<=n
def Cq(s:Vs)(l:List a8):Vs:=some (l.foldl (λm v=>Go.Am.bP .s m v true) (s.getD []))
def II(f:Func):Vs:=Cq (some []) (f.Params.map (·.Name))
def xE(s:Vs)(_:Block):Prop:=s.isSome=true
def my(s:Vs)(b:Block):Vs:=Cq s (b.Phis.map (·.Dst))
def bq(b:Block):List (List UInt8):=(b.Code.map (·.Dst)).filter λd=>!decide (d=[])
def iL(s:Vs)(b:Block):Vs:=Cq s (bq b)
def QV(a b:Vs):Prop:=a=none\/∃n,okV a n
def K4(a b y:Vs):Prop:=(a=none->y=b)/\(a≠none->(∀n,okV a n->okV y n)/\∀v,bj y v=(bj a v&&bj b v))
abbrev bkB(f:Func)(i:Nat):Block:=f.Blocks.getD i default
abbrev phB(f:Func)(i:Nat):List a8:=(bkB f i).Phis.map (·.Dst)
inductive Bare (f:Func) (v:a8):Nat->Prop
 |first:v ∉ f.Params.map (·.Name)->Bare f v 0
 |next (i k:Nat):Bare f v i->v ∉ phB f i->v ∉ bq (bkB f i)->i<f.Blocks.length->k<f.Blocks.length->nmB f.Blocks k∈toB f.Blocks i->Bare f v k
def uX(f:Func):Prop:=uZ f/\Gd f.Blocks/\f.Params.length<=1000000/\∀b∈f.Blocks,b.Phis.length<=1000000/\b.Code.length<=1000000
def uV(f:Func)(y:List Vs):Prop:=y.length=f.Blocks.length/\∀k,k<f.Blocks.length->(y.getD k none).isSome=true/\∀v,bj (y.getD k none) v=true ↔ (¬ Bare f v k\/v∈phB f k)
def pG(i:Instr)(v:a8):Prop:=(∃a∈i.Args,a.Kind=1/\a.S=v)\/(∃f∈i.Frames,∃b∈f.Vars,b.A.Kind=1/\b.A.S=v)\/∃o∈i.Objs,∃a∈o.Vals,a.Kind=1/\a.S=v
def Ej(i:Instr):Nat:=i.Args.length+(i.Frames.map λf=>f.Vars.length).sum+(i.Objs.map λo=>o.Vals.length).sum
def fP(i:Instr):Prop:=Ej i<=1000000
def lj(s:Vs):Prop:=s.isSome=true/\(s.getD []).length<=1000000
def uW(i:Instr)(l:List a8):Prop:=∀v,v∈l ↔ pG i v
def iW(s:Vs)(l:List a8):Prop:=∀v,v∈l ↔ v∈(s.getD []).map (·.1)
def lL(P:a8->Prop)(b:Block):Prop:=(∀j,j<b.Code.length->∀v,pG (b.Code.getD j default) v->P v\/v∈((b.Code.take j).map (·.Dst)).filter λd=>!decide (d=[]))/\((b.End.Kind=2\/b.End.Kind=3)->b.End.A.Kind=1->P b.End.A.S\/b.End.A.S∈bq b)
def YI(s:Vs)(b:Block):Prop:=s.isSome=true/\∀x∈b.Code,fP x
noncomputable def oa(s:Vs)(b:Block):Bool:=Nc (lL (λv=>bj s v=true) b)
def sW(a:a8)(s:a8):List Block->Bool
 |[]=>false
 |b::r=>if b.Name=s then wo b.End.To a else sW a s r
def yj(f:Func)(s a:a8):Bool:=sW a s f.Blocks
def qk(f:Func)(o:Option (List (a8×Vs)))(b:Block)(i:In):Bool:=!((Go.Am.aw .s (o.getD []) i.Block).isSome&&yj f i.Block b.Name)||(!decide (i.A.Kind=1)||bj ((Go.Am.aw .s (o.getD []) i.Block).getD none) i.A.S)
def zw(f:Func)(o:Option (List (a8×Vs))):Bool:=f.Blocks.all λb=>b.Phis.all λx=>x.Ins.all (qk f o b)
def FT(f:Func):Prop:=uX f/\∀b∈f.Blocks,∀x∈b.Code,fP x
def zn(f:Func)(k:Nat)(v:a8):Prop:=(¬ Bare f v k\/v∈phB f k)\/v∈bq (bkB f k)
def pz(f:Func):Prop:=∀b∈f.Blocks,∀x∈b.Phis,∀i∈x.Ins,∀k,k<f.Blocks.length->nmB f.Blocks k=i.Block->b.Name∈toB f.Blocks k->i.A.Kind=1->zn f k i.A.S
noncomputable def gr(f:Func):Bool:=Nc ((∀k,k<f.Blocks.length->lL (λv=>¬ Bare f v k\/v∈phB f k) (bkB f k))/\pz f)
def Un(p:Program):Prop:=jy p/\∀f∈p.Funcs,YN p f/\uZ f/\f.Params.length<=1000000/\(∀b∈f.Blocks,b.Phis.length<=1000000/\b.Code.length<=1000000)/\∀b∈f.Blocks,∀x∈b.Code,fP x
end Lt
end

section
namespace Go.Am
open Go
def xc(a:List Lt.Var)(b:Int)(KK:Int->Prop):Prop:=(a.length<=4611686018427387904->if decide (b < (a.length:Int))then(KK (i64.wrap (b+1)))else((a.length<=4611686018427387904->ab (α:=Int×Int) (λf c=>aa (α:=Bool) (λe=>(a.length<=4611686018427387904->if decide (c.2 < (a.length:Int))then(e (decide (c.1<=b)))else(e false))) (λv4=>if v4 then(aa (α:=Int) (λd=>(0<=c.2/\c.2.toNat<a.length)/\(((a.getD c.2.toNat default).Name).length<=4611686018427387904->if decide ((i64.wrap (c.1+(((a.getD c.2.toNat default).Name).length:Int)))<=b)then((0<=c.2/\c.2.toNat<a.length)/\(((a.getD c.2.toNat default).Type_).length<=4611686018427387904->d (i64.wrap ((i64.wrap (c.1+(((a.getD c.2.toNat default).Name).length:Int)))+(((a.getD c.2.toNat default).Type_).length:Int)))))else(d (i64.wrap (c.1+(((a.getD c.2.toNat default).Name).length:Int)))))) (λg=>f (g,(i64.wrap (c.2+1)))))else(KK c.1))) ((a.length:Int),0))))
def xb(a:List Lt.Arg)(b:Int)(KK:Int->Prop):Prop:=(a.length<=4611686018427387904->if decide (b < (a.length:Int))then(KK (i64.wrap (b+1)))else((a.length<=4611686018427387904->ab (α:=Int×Int) (λe c=>aa (α:=Bool) (λd=>(a.length<=4611686018427387904->if decide (c.2 < (a.length:Int))then(d (decide (c.1<=b)))else(d false))) (λv4=>if v4 then((0<=c.2/\c.2.toNat<a.length)/\(((a.getD c.2.toNat default).S).length<=4611686018427387904->e ((i64.wrap (c.1+(((a.getD c.2.toNat default).S).length:Int))),(i64.wrap (c.2+1)))))else(KK c.1))) ((a.length:Int),0))))
def tV(b:Lt.Instr)(a:Int)(KK:Int->Prop):Prop:=have t:=(i64.wrap ((i64.wrap ((i64.wrap (1+(b.Dst.length:Int)))+(b.Frames.length:Int)))+(b.Objs.length:Int)));aa (α:=Bool) (λy=>(b.Frames.length<=4611686018427387904->if decide (a < (b.Frames.length:Int))then(y true)else(y (decide (a < (b.Objs.length:Int)))))) (λB=>if B then(KK (i64.wrap (a+1)))else((b.Dst.length<=4611686018427387904->(b.Frames.length<=4611686018427387904->(b.Objs.length<=4611686018427387904->aa (α:=Int) (λx=>if decide (t<=a)then((b.Name.length<=4611686018427387904->x (i64.wrap (t+(b.Name.length:Int)))))else(x t)) (λv4=>aa (α:=Int) (λv=>if decide (v4<=a)then(v (i64.wrap (v4+(fL b.Args a))))else(v v4)) (λz=>ab (α:=Int×Int) (λC e=>have z4:=(0<=e.2/\e.2.toNat<b.Frames.length);have d:=b.Frames.getD e.2.toNat default;have s:=(i64.wrap (e.1+((d.Func).length:Int)));aa (α:=Bool) (λw=>(b.Frames.length<=4611686018427387904->if decide (e.2 < (b.Frames.length:Int))then(w (decide (e.1<=a)))else(w false))) (λq=>if q then(z4/\((d.Func).length<=4611686018427387904->aa (α:=Int) (λf=>if decide (s<=a)then(z4/\((d.Block).length<=4611686018427387904->f (i64.wrap (s+((d.Block).length:Int)))))else(f s)) (λo=>ab (α:=Int×Int) (λl c=>have k:=(d.Vars).getD c.2.toNat default;have z3:=(i64.wrap ((i64.wrap (c.1+1))+((k.Name).length:Int)));aa (α:=Bool) (λj=>z4/\((d.Vars).length<=4611686018427387904->if decide (c.2 < ((d.Vars).length:Int))then(j (decide (c.1<=a)))else(j false))) (λm=>if m then(aa (α:=Int) (λg=>z4/\(0<=c.2/\c.2.toNat < (d.Vars).length)/\((k.Name).length<=4611686018427387904->if decide (z3<=a)then(z4/\(0<=c.2/\c.2.toNat < (d.Vars).length)/\(((k.A).S).length<=4611686018427387904->g (i64.wrap (z3+(((k.A).S).length:Int)))))else(g z3))) (λu=>l (u,(i64.wrap (c.2+1)))))else(C (c.1,(i64.wrap (e.2+1)))))) (o,0))))else(ab (α:=Int×Int) (λr v20=>have p:=b.Objs.getD v20.2.toNat default;have z5:=(i64.wrap (v20.1+((p.Class).length:Int)));aa (α:=Bool) (λh=>(b.Objs.length<=4611686018427387904->if decide (v20.2 < (b.Objs.length:Int))then(h (decide (v20.1<=a)))else(h false))) (λn=>if n then(aa (α:=Int) (λi=>(0<=v20.2/\v20.2.toNat<b.Objs.length)/\((p.Class).length<=4611686018427387904->if decide (z5<=a)then((0<=v20.2/\v20.2.toNat<b.Objs.length)/\i (i64.wrap (z5+(fL (p.Vals) a))))else(i z5))) (λv24=>r (v24,(i64.wrap (v20.2+1)))))else(KK v20.1))) (e.1,0)))) (z,0))))))))
def tU(b:Lt.Block)(a:Int)(KK:Int->Prop):Prop:=have z5:=(i64.wrap (1+(b.Name.length:Int)));aa (α:=Bool) (λq=>(b.Phis.length<=4611686018427387904->if decide (a < (b.Phis.length:Int))then(q true)else(if decide (a < (b.Code.length:Int))then(q true)else(q (decide (a < (b.End.To.length:Int))))))) (λv=>if v then(KK (i64.wrap (a+1)))else((b.Name.length<=4611686018427387904->aa (α:=Int) (λs=>if decide (z5<=a)then((b.End.A.S.length<=4611686018427387904->s (i64.wrap (z5+(b.End.A.S.length:Int)))))else(s z5)) (λv4=>ab (α:=Int×Int) (λx e=>aa (α:=Bool) (λt=>(b.End.To.length<=4611686018427387904->if decide (e.2 < (b.End.To.length:Int))then(t (decide (e.1<=a)))else(t false))) (λu=>if u then((0<=e.2/\e.2.toNat<b.End.To.length)/\((b.End.To.getD e.2.toNat default).length<=4611686018427387904->x ((i64.wrap ((i64.wrap (e.1+1))+((b.End.To.getD e.2.toNat default).length:Int))),(i64.wrap (e.2+1)))))else(ab (α:=Int×Int) (λw d=>have z3:=(0<=d.2/\d.2.toNat<b.Phis.length);have f:=b.Phis.getD d.2.toNat default;aa (α:=Bool) (λg=>(b.Phis.length<=4611686018427387904->if decide (d.2 < (b.Phis.length:Int))then(g (decide (d.1<=a)))else(g false))) (λn=>if n then(z3/\((f.Dst).length<=4611686018427387904->ab (α:=Int×Int) (λk c=>have z4:=(f.Ins).getD c.2.toNat default;have p:=(i64.wrap ((i64.wrap (c.1+1))+((z4.Block).length:Int)));aa (α:=Bool) (λj=>z3/\((f.Ins).length<=4611686018427387904->if decide (c.2 < ((f.Ins).length:Int))then(j (decide (c.1<=a)))else(j false))) (λl=>if l then(aa (α:=Int) (λh=>z3/\(0<=c.2/\c.2.toNat < (f.Ins).length)/\((z4.Block).length<=4611686018427387904->if decide (p<=a)then(z3/\(0<=c.2/\c.2.toNat < (f.Ins).length)/\(((z4.A).S).length<=4611686018427387904->h (i64.wrap (p+(((z4.A).S).length:Int)))))else(h p))) (λr=>k (r,(i64.wrap (c.2+1)))))else(w (c.1,(i64.wrap (d.2+1)))))) ((i64.wrap ((i64.wrap (d.1+1))+((f.Dst).length:Int))),0)))else(ab (α:=Int×Int) (λo v20=>aa (α:=Bool) (λi=>(b.Code.length<=4611686018427387904->if decide (v20.2 < (b.Code.length:Int))then(i (decide (v20.1<=a)))else(i false))) (λm=>if m then((0<=v20.2/\v20.2.toNat<b.Code.length)/\(afH (b.Code.getD v20.2.toNat default) a)/\o ((i64.wrap (v20.1+(gE (b.Code.getD v20.2.toNat default) a))),(i64.wrap (v20.2+1))))else(KK v20.1))) (d.1,0)))) (e.1,0)))) (v4,0)))))
def CE(b:Lt.Func)(a:Int)(KK:Int->Prop):Prop:=have z3:=(i64.wrap (1+(b.Name.length:Int)));(b.Blocks.length<=4611686018427387904->if decide (a < (b.Blocks.length:Int))then(KK (i64.wrap (a+1)))else((b.Name.length<=4611686018427387904->aa (α:=Int) (λi=>if decide (z3<=a)then((b.Result.length<=4611686018427387904->i (i64.wrap (z3+(b.Result.length:Int)))))else(i z3)) (λe=>aa (α:=Int) (λk=>if decide (e<=a)then(k (i64.wrap (e+(dc b.Params a))))else(k e)) (λv4=>aa (α:=Int) (λg=>if decide (v4<=a)then(g (i64.wrap (v4+(dc b.Vars a))))else(g v4)) (λm=>ab (α:=Int×Int) (λl c=>have d:=b.Blocks.getD c.2.toNat default;have j:=Lt.Block.mk (d.Name) (d.Phis) (d.Code) (Lt.Term.mk ((d.End).Kind) ((d.End).A) ((d.End).To) ((d.End).N));aa (α:=Bool) (λh=>(b.Blocks.length<=4611686018427387904->if decide (c.2 < (b.Blocks.length:Int))then(h (decide (c.1<=a)))else(h false))) (λf=>if f then((0<=c.2/\c.2.toNat<b.Blocks.length)/\(afG j a)/\l ((i64.wrap (c.1+(gD j a))),(i64.wrap (c.2+1))))else(KK c.1))) (m,0)))))))
def aeL(a:Lt.Program)(b:Int)(KK:Bool->Prop):Prop:=aa (α:=Bool) (λl=>(a.Classes.length<=4611686018427387904->if decide (50 < (a.Classes.length:Int))then(l true)else(if decide (50 < (a.Externs.length:Int))then(l true)else(l (decide (50 < (a.Funcs.length:Int))))))) (λr=>if r then(KK false)else(ab (α:=Int×Int) (λo v4=>have k:=a.Classes.getD v4.2.toNat default;have j:=(i64.wrap (v4.1+((k.Name).length:Int)));aa (α:=Bool) (λm=>(a.Classes.length<=4611686018427387904->if decide (v4.2 < (a.Classes.length:Int))then(m (decide (v4.1<=b)))else(m false))) (λp=>if p then(aa (α:=Int) (λn=>(0<=v4.2/\v4.2.toNat<a.Classes.length)/\((k.Name).length<=4611686018427387904->if decide (j<=b)then((0<=v4.2/\v4.2.toNat<a.Classes.length)/\n (i64.wrap (j+(dc (k.Fields) b))))else(n j))) (λq=>o (q,(i64.wrap (v4.2+1)))))else(ab (α:=Int×Int) (λs d=>aa (α:=Bool) (λe=>(a.Externs.length<=4611686018427387904->if decide (d.2 < (a.Externs.length:Int))then(e (decide (d.1<=b)))else(e false))) (λi=>if i then((0<=d.2/\d.2.toNat<a.Externs.length)/\(((a.Externs.getD d.2.toNat default).Name).length<=4611686018427387904->s ((i64.wrap ((i64.wrap (d.1+1))+(((a.Externs.getD d.2.toNat default).Name).length:Int))),(i64.wrap (d.2+1)))))else(ab (α:=Int×Int) (λg c=>aa (α:=Bool) (λf=>(a.Funcs.length<=4611686018427387904->if decide (c.2 < (a.Funcs.length:Int))then(f (decide (c.1<=b)))else(f false))) (λh=>if h then((0<=c.2/\c.2.toNat<a.Funcs.length)/\(afI (a.Funcs.getD c.2.toNat default) b)/\g ((i64.wrap (c.1+(nX (a.Funcs.getD c.2.toNat default) b))),(i64.wrap (c.2+1))))else(KK (decide (c.1<=b))))) (d.1,0)))) (v4.1,0)))) ((dc a.Globals b),0)))
def GK(a:UInt8)(KK:Bool->Prop):Prop:=aa (α:=Bool) (λb=>if decide ((((97:UInt8).toNat:Nat):Int)<=((a.toNat:Nat):Int))then(if decide (((a.toNat:Nat):Int)<=(((122:UInt8).toNat:Nat):Int))then(b true)else(if decide ((((65:UInt8).toNat:Nat):Int)<=((a.toNat:Nat):Int))then(if decide (((a.toNat:Nat):Int)<=(((90:UInt8).toNat:Nat):Int))then(b true)else(b (decide (((a.toNat:Nat):Int)=(((95:UInt8).toNat:Nat):Int)))))else(b (decide (((a.toNat:Nat):Int)=(((95:UInt8).toNat:Nat):Int))))))else(if decide ((((65:UInt8).toNat:Nat):Int)<=((a.toNat:Nat):Int))then(if decide (((a.toNat:Nat):Int)<=(((90:UInt8).toNat:Nat):Int))then(b true)else(b (decide (((a.toNat:Nat):Int)=(((95:UInt8).toNat:Nat):Int)))))else(b (decide (((a.toNat:Nat):Int)=(((95:UInt8).toNat:Nat):Int)))))) (λc=>KK c)
def Vx(a:a8)(KK:Bool->Prop):Prop:=aa (α:=Bool) (λb=>if decide (a=[110,117,108,108])then(b true)else(if decide (a=[105,110,116])then(b true)else(b (decide (a=[102,108,111,97,116]))))) (λc=>KK c)
def xh(a:UInt8)(KK:Bool->Prop):Prop:=if decide ((((48:UInt8).toNat:Nat):Int)<=((a.toNat:Nat):Int))then(KK (decide (((a.toNat:Nat):Int)<=(((57:UInt8).toNat:Nat):Int))))else(KK false)
def Vr(a:a8)(KK:Bool->Prop):Prop:=aa (α:=Bool) (λb=>if decide (a=([]:List UInt8))then(b true)else(if decide (16 < (a.length:Int))then(b true)else(((0:Int)<=0/\0<a.length)/\if !(Lt.letter (a.getD 0 0))then(b true)else(b (Lt.kept a))))) (λf=>if f then(KK false)else((a.length<=4611686018427387904->ab (α:=Int) (λe v4=>if decide (v4 < (a.length:Int))then(aa (α:=Bool) (λc=>(0<=v4/\v4.toNat<a.length)/\if !(Lt.letter (a.getD v4.toNat 0))then((0<=v4/\v4.toNat<a.length)/\c (!(kE (a.getD v4.toNat 0))))else(c false)) (λd=>if d then(KK false)else(e (i64.wrap (v4+1)))))else(KK true)) 0)))
def Vy(a:a8)(KK:Bool->Prop):Prop:=aa (α:=Bool) (λb=>if decide (a=[105,110,116])then(b true)else(if decide (a=[102,108,111,97,116])then(b true)else(b (Lt.Name a)))) (λc=>KK c)
def PW(a:List Lt.Var)(b:Int)(KK:Bool->Prop):Prop:=(a.length<=4611686018427387904->if decide (b < (a.length:Int))then(KK false)else((a.length<=4611686018427387904->ab (α:=Int) (λe c=>if decide (c < (a.length:Int))then((0<=c/\c.toNat<a.length)/\aa (α:=Bool) (λd=>if !(Lt.Name ((a.getD c.toNat default).Name))then(d true)else(d (!(Lt.kind ((a.getD c.toNat default).Type_))))) (λv4=>if v4 then(KK false)else(e (i64.wrap (c+1)))))else(KK true)) 0)))
def Ps(a:Int)(KK:Int->Prop):Prop:=aa (α:=Bool) (λb=>if decide ((i64.wrap ((BitVec.ofInt i64.bits a &&& BitVec.ofInt i64.bits 9218868437227405312).toNat:Nat))=9218868437227405312)then(b (!decide ((i64.wrap ((BitVec.ofInt i64.bits a &&& BitVec.ofInt i64.bits 4503599627370495).toNat:Nat))=0)))else(b false)) (λc=>if c then(KK 9221120237041090560)else(KK a))
def xi(a:Lt.Arg)(KK:Bool->Prop):Prop:=if decide (a.Kind=1)then(if Lt.Name a.S then(KK (decide (a.N=0)))else(KK false))else(if decide (a.Kind=2)then(KK (decide (a.S=([]:List UInt8))))else(if decide (a.Kind=3)then(aa (α:=Bool) (λb=>if decide (a.S=([]:List UInt8))then((b (decide ((Lt.Plain a.N)=a.N)))/\(b (decide ((Lt.Plain a.N)=a.N))))else((b false)/\(b false))) (λd=>KK d))else(if decide (a.Kind=4)then(if decide (a.S=([]:List UInt8))then(KK (decide (a.N=0)))else(KK false))else(if decide (a.Kind=5)then(aa (α:=Bool) (λc=>if decide (a.S=([]:List UInt8))then(if decide (0<=a.N)then(c (decide (a.N<=999)))else(c false))else(c false)) (λv4=>KK v4))else(KK false)))))
def yX(a:List Lt.Arg)(b:Bool)(KK:Bool->Prop):Prop:=(a.length<=4611686018427387904->ab (α:=Int) (λe c=>if decide (c < (a.length:Int))then((0<=c/\c.toNat<a.length)/\aa (α:=Bool) (λd=>if !(bE (a.getD c.toNat default))then(d true)else(if decide ((a.getD c.toNat default).Kind=5)then(d (!b))else(d false))) (λv4=>if v4 then(KK false)else(e (i64.wrap (c+1)))))else(KK true)) 0)
def CX(a:Lt.Term)(KK:Bool->Prop):Prop:=(a.To.length<=4611686018427387904->ab (α:=Int) (λg b=>if decide (b < (a.To.length:Int))then((0<=b/\b.toNat<a.To.length)/\if !(Lt.Name (a.To.getD b.toNat default))then(KK false)else(g (i64.wrap (b+1))))else(if decide (a.Kind=1)then(aa (α:=Bool) (λd=>if decide (a.A.Kind=0)&&(decide (a.A.S=([]:List UInt8))&&decide (a.A.N=0))then(if decide ((a.To.length:Int)=1)then(d (decide (a.N=0)))else(d false))else(d false)) (λv4=>KK v4))else(if decide (a.Kind=2)then(aa (α:=Bool) (λc=>if bH [a.A] false then(if decide ((a.To.length:Int)=2)then(c (decide (a.N=0)))else(c false))else(c false)) (λh=>KK h))else(if decide (a.Kind=3)then(aa (α:=Bool) (λe=>if bH [a.A] false then(if decide ((a.To.length:Int)=0)then(e (decide (a.N=0)))else(e false))else(e false)) (λf=>KK f))else(if decide (a.Kind=4)then(if decide (a.A.Kind=0)&&(decide (a.A.S=([]:List UInt8))&&decide (a.A.N=0))then(KK (decide ((a.To.length:Int)=0)))else(KK false))else(KK false)))))) 0)
def aeN(a:Lt.Phi)(KK:Bool->Prop):Prop:=aa (α:=Bool) (λb=>if !(Lt.Name a.Dst)then(b true)else(if decide ((a.Ins.length:Int)=0)then(b true)else(b (decide (256 < (a.Ins.length:Int)))))) (λf=>if f then(KK false)else((a.Ins.length<=4611686018427387904->ab (α:=Int) (λe v4=>if decide (v4 < (a.Ins.length:Int))then((0<=v4/\v4.toNat<a.Ins.length)/\aa (α:=Bool) (λc=>if !(Lt.Name ((a.Ins.getD v4.toNat default).Block))then(c true)else(c (!(bH [((a.Ins.getD v4.toNat default).A)] false)))) (λd=>if d then(KK false)else(e (i64.wrap (v4+1)))))else(KK true)) 0)))
def aeM(a:a8)(c:Int)(KK:a8->Prop):Prop:=ab (α:=Int×Int×Int) (λe b=>(a.length<=4611686018427387904->if decide (b.2.2 < (a.length:Int))then(aa (α:=Int×Int) (λd=>(0<=b.2.2/\b.2.2.toNat<a.length)/\if !decide ((((a.getD b.2.2.toNat 0).toNat:Nat):Int)=(((32:UInt8).toNat:Nat):Int))then(d (b.1,b.2.1))else(if decide ((i64.wrap (b.1 - 1))=0)then((0:Int)<=(i64.wrap (b.2.1+1))/\(0:Int)<=b.2.2/\((i64.wrap (b.2.1+1)).toNat<=b.2.2.toNat/\b.2.2.toNat<=a.length)/\KK ((a.drop (i64.wrap (b.2.1+1)).toNat).take (b.2.2.toNat - (i64.wrap (b.2.1+1)).toNat)))else(d ((i64.wrap (b.1 - 1)),b.2.2)))) (λv4=>e (v4.1,v4.2,(i64.wrap (b.2.2+1)))))else(KK ([]:List UInt8)))) (c,0,1)
def aiA(a:Int)(KK:(Lt.Form×Bool)->Prop):Prop:=aa (α:=Bool) (λc=>if decide (1<=a)then(c (decide (a<=21)))else(c false)) (λd=>if d then(KK ((Lt.Form.mk (Lt.nth (32::97::100::100::32::115::117::98::32::109::117::108::32::100::105::118::32::114::101::109::32::97::110::100::32::111::114::32::120::111::114::32::115::104::108::32::115::104::114::32::101::113::32::110::101::32::108::116::32::108::101::32::102::97::100::100::32::102::115::117::98::32::102::109::117::108::32::102::100::105::118::32::102::101::113::32::102::108::116::32::102::108::101::32::([]:List UInt8)) a) true false 2 2),true))else(aa (α:=Bool) (λb=>if decide (22<=a)then(b (decide (a<=24)))else(b false)) (λv4=>if v4 then(KK ((Lt.Form.mk (Lt.nth [32,105,116,111,102,32,102,116,111,105,32,109,111,118,32] (i64.wrap (a - 21))) true false 1 1),true))else(if decide (a=25)then(KK ((Lt.Form.mk [110,101,119] true true 0 8),true))else(if decide (a=26)then(KK ((Lt.Form.mk [108,111,97,100] true true 1 1),true))else(if decide (a=27)then(KK ((Lt.Form.mk [115,116,111,114,101] false true 2 2),true))else(if decide (a=28)then(KK ((Lt.Form.mk [115,97,109,101] true false 2 2),true))else(if decide (a=29)then(KK ((Lt.Form.mk [103,108,111,97,100] true true 0 0),true))else(if decide (a=30)then(KK ((Lt.Form.mk [103,115,116,111,114,101] false true 1 1),true))else(if decide (a=31)then(KK ((Lt.Form.mk [99,97,108,108] true true 0 8),true))else(if decide (a=32)then(KK ((Lt.Form.mk [101,120,116] true true 0 8),true))else(if decide (a=33)then(KK ((Lt.Form.mk [111,117,116] false false 1 1),true))else(if decide (a=34)then(KK ((Lt.Form.mk [103,117,97,114,100] false false 0 0),true))else(KK ((Lt.Form.mk ([]:List UInt8) false false 0 0),false)))))))))))))))
def Pw(a:Lt.Frame)(KK:Bool->Prop):Prop:=aa (α:=Bool) (λb=>if !(Lt.Name a.Func)then(b true)else(if !(Lt.Name a.Block)then(b true)else(if decide (a.At < 0)then(b true)else(if decide (1024<a.At)then(b true)else(b (decide (16 < (a.Vars.length:Int)))))))) (λf=>if f then(KK false)else((a.Vars.length<=4611686018427387904->ab (α:=Int) (λe v4=>if decide (v4 < (a.Vars.length:Int))then((0<=v4/\v4.toNat<a.Vars.length)/\aa (α:=Bool) (λc=>if !(Lt.Name ((a.Vars.getD v4.toNat default).Name))then(c true)else(c (!(bH [((a.Vars.getD v4.toNat default).A)] true)))) (λd=>if d then(KK false)else(e (i64.wrap (v4+1)))))else(KK true)) 0)))
def Px(a:Lt.Instr)(KK:Bool->Prop):Prop:=aa (α:=Bool) (λc=>if !((Lt.Of a.Op).2)then(c true)else(if !(((Lt.Of a.Op).1).Dst==(!decide (a.Dst=([]:List UInt8))))then(c true)else(if !(((Lt.Of a.Op).1).Named==(!decide (a.Name=([]:List UInt8))))then(c true)else(if ((Lt.Of a.Op).1).Dst then(if !(Lt.Name a.Dst)then(c true)else(if ((Lt.Of a.Op).1).Named then(c (!(Lt.Name a.Name)))else(c false)))else(if ((Lt.Of a.Op).1).Named then(c (!(Lt.Name a.Name)))else(c false)))))) (λl=>if l then(KK false)else(aa (α:=Bool) (λf=>(a.Args.length<=4611686018427387904->if decide ((a.Args.length:Int) < ((Lt.Of a.Op).1).Least)then(f true)else(if decide (((Lt.Of a.Op).1).Most < (a.Args.length:Int))then(f true)else(if !(bH a.Args false)then(f true)else(if decide (16 < (a.Frames.length:Int))then(f true)else(f (decide (99 < (a.Objs.length:Int))))))))) (λv4=>if v4 then(KK false)else(aa (α:=Bool) (λi=>if !decide (a.Op=31)then(i (!decide (a.Op=34)))else(i false)) (λk=>if k then((a.Frames.length<=4611686018427387904->if decide ((a.Frames.length:Int)=0)then(KK (decide ((a.Objs.length:Int)=0)))else(KK false)))else((a.Frames.length<=4611686018427387904->ab (α:=Int) (λj e=>if decide (e < (a.Frames.length:Int))then((0<=e/\e.toNat<a.Frames.length)/\if !(Lt.frame (a.Frames.getD e.toNat default))then(KK false)else(j (i64.wrap (e+1))))else((a.Objs.length<=4611686018427387904->ab (α:=Int) (λm b=>have g:=a.Objs.getD b.toNat default;if decide (b < (a.Objs.length:Int))then((0<=b/\b.toNat<a.Objs.length)/\aa (α:=Bool) (λd=>if !(Lt.Name (g.Class))then(d true)else(if decide (8 < ((g.Vals).length:Int))then(d true)else(d (!(bH (g.Vals) true))))) (λh=>if h then(KK false)else(m (i64.wrap (b+1)))))else(KK true)) 0))) 0)))))))
def Pu(a:Lt.Block)(KK:Bool->Prop):Prop:=aa (α:=Bool) (λc=>if !(Lt.Name a.Name)then(c true)else(c (!(fh a.End)))) (λe=>if e then(KK false)else((a.Phis.length<=4611686018427387904->ab (α:=Int) (λd v4=>if decide (v4 < (a.Phis.length:Int))then((0<=v4/\v4.toNat<a.Phis.length)/\if !(Lt.phi (a.Phis.getD v4.toNat default))then(KK false)else(d (i64.wrap (v4+1))))else((a.Code.length<=4611686018427387904->ab (α:=Int) (λf b=>if decide (b < (a.Code.length:Int))then((0<=b/\b.toNat<a.Code.length)/\if !(Lt.instr (a.Code.getD b.toNat default))then(KK false)else(f (i64.wrap (b+1))))else(KK true)) 0))) 0)))
def pw(a:Lt.Func)(KK:Bool->Prop):Prop:=aa (α:=Bool) (λc=>if !(Lt.Name a.Name)then(c true)else(if !(Lt.kind a.Result)then(c true)else(if !(Lt.typed a.Params 6)then(c true)else(if !(Lt.typed a.Vars 1024)then(c true)else(if decide ((a.Blocks.length:Int)=0)then(c true)else(c (decide (256 < (a.Blocks.length:Int))))))))) (λj=>if j then(KK false)else((a.Blocks.length<=4611686018427387904->ab (α:=Int×Int) (λi v4=>have b:=a.Blocks.getD v4.2.toNat default;have e:=(i64.wrap (v4.1+(i64.wrap (((b.Phis).length:Int)+((b.Code).length:Int)))));if decide (v4.2 < (a.Blocks.length:Int))then((0<=v4.2/\v4.2.toNat<a.Blocks.length)/\aa (α:=Bool) (λd=>((b.Phis).length<=4611686018427387904->if decide (1024 < ((b.Phis).length:Int))then(d true)else(d (decide (1024 < ((b.Code).length:Int)))))) (λh=>if h then(KK false)else(((b.Phis).length<=4611686018427387904->((b.Code).length<=4611686018427387904->aa (α:=Bool) (λf=>if decide (1024<e)then(f true)else(f (!(Lt.block (Lt.Block.mk (b.Name) (b.Phis) (b.Code) (Lt.Term.mk ((b.End).Kind) ((b.End).A) ((b.End).To) ((b.End).N))))))) (λg=>if g then(KK false)else(i (e,(i64.wrap (v4.2+1))))))))))else(KK true)) (0,0))))
def xe(a:Lt.Program)(KK:Bool->Prop):Prop:=aa (α:=Bool) (λd=>(a.Classes.length<=4611686018427387904->if decide (8 < (a.Classes.length:Int))then(d true)else(if decide (8 < (a.Externs.length:Int))then(d true)else(if decide (8 < (a.Funcs.length:Int))then(d true)else(d (!(Lt.typed a.Globals 8))))))) (λm=>if m then(KK false)else((a.Classes.length<=4611686018427387904->ab (α:=Int) (λl v4=>if decide (v4 < (a.Classes.length:Int))then((0<=v4/\v4.toNat<a.Classes.length)/\aa (α:=Bool) (λi=>if !(Lt.Name ((a.Classes.getD v4.toNat default).Name))then(i true)else(i (!(Lt.typed ((a.Classes.getD v4.toNat default).Fields) 8)))) (λk=>if k then(KK false)else(l (i64.wrap (v4+1)))))else((a.Externs.length<=4611686018427387904->ab (α:=Int) (λj c=>have f:=a.Externs.getD c.toNat default;if decide (c < (a.Externs.length:Int))then((0<=c/\c.toNat<a.Externs.length)/\aa (α:=Bool) (λg=>if !(Lt.Name (f.Name))then(g true)else(if decide (f.N < 0)then(g true)else(g (decide (8<f.N))))) (λh=>if h then(KK false)else(j (i64.wrap (c+1)))))else((a.Funcs.length<=4611686018427387904->ab (α:=Int) (λe b=>if decide (b < (a.Funcs.length:Int))then((0<=b/\b.toNat<a.Funcs.length)/\if !(aJ (a.Funcs.getD b.toNat default))then(KK false)else(e (i64.wrap (b+1))))else(KK true)) 0))) 0))) 0)))
def Pt(a:Lt.Func)(KK:(List (Option (List (a8×Bool))))->Prop):Prop:=have z5:=(a.Blocks.length:Int);have q:=((0:Int)<=z5/\z5<=4611686018427387904/\8*z5.toNat<=281474976710656);(uZ a)/\(u5 (ju a))/\(A8 (ju a))/\(∀e:List Int,DW (ju a) e->(a.Blocks.length<=4611686018427387904->q/\(a.Blocks.length<=4611686018427387904->q/\ab (α:=List (Option (List (a8×Bool)))×List (Option (List (a8×Bool)))×Bool) (λr v3=>if v3.2.2 then((e.length<=4611686018427387904->ab (α:=List (Option (List (a8×Bool)))×List (Option (List (a8×Bool)))×Bool×Int) (λv v5=>have b:=e.getD v5.2.2.2.toNat default;have m:=((0:Int)<=b/\b < ((v5.1.length:Nat):Int));have k:=(ij (ju a)).getD b.toNat [];have z4:=a.Blocks.getD b.toNat default;have d:=Lt.Block.mk (z4.Name) (z4.Phis) (z4.Code) (Lt.Term.mk ((z4.End).Kind) ((z4.End).A) ((z4.End).To) ((z4.End).N));if decide (v5.2.2.2 < (e.length:Int))then((0<=v5.2.2.2/\v5.2.2.2.toNat<e.length)/\aa (α:=Option (List (a8×Bool))) (λp=>if decide (b=0)then(p (II a))else(p none)) (λt=>(0<=b/\b.toNat < (ij (ju a)).length)/\(k.length<=4611686018427387904->ab (α:=Option (List (a8×Bool))×Int) (λu v9=>have z3:=k.getD v9.2.toNat default;if decide (v9.2 < (k.length:Int))then(aa (α:=Option (List (a8×Bool))) (λi=>(0<=v9.2/\v9.2.toNat<k.length)/\((0:Int)<=z3/\z3 < ((v5.2.1.length:Nat):Int))/\if !(v5.2.1.getD z3.toNat default).isNone then(((0:Int)<=z3/\z3 < ((v5.2.1.length:Nat):Int))/\(QV v9.1 (v5.2.1.getD z3.toNat default))/\(∀f:Option (List (a8×Bool)),K4 v9.1 (v5.2.1.getD z3.toNat default) f->i f))else(i v9.1)) (λn=>u (n,(i64.wrap (v9.2+1)))))else(aa (α:=Option (List (a8×Bool))) (λh=>if v9.1.isNone then(h (some []))else(h v9.1)) (λc=>(0<=b/\b.toNat<a.Blocks.length)/\(xE c d)/\aa (α:=Bool) (λj=>aa (α:=Bool) (λg=>m/\if (v5.1.getD b.toNat default).isNone then(g true)else(m/\((v5.1.getD b.toNat default).getD []).length<=4611686018427387904/\((my c d).getD []).length<=4611686018427387904/\g (!decide ((((v5.1.getD b.toNat default).getD []).length:Int)=(((my c d).getD []).length:Int))))) (λo=>if o then(j true)else(j v5.2.2.1))) (λl=>(0<=b/\b.toNat<a.Blocks.length)/\(xE (my c d) d)/\m/\b.toNat<v5.1.length/\((0:Int)<=b/\b < ((v5.2.1.length:Nat):Int))/\b.toNat<v5.2.1.length/\v ((v5.1.set b.toNat (my c d)),(v5.2.1.set b.toNat (iL (my c d) d)),l,(i64.wrap (v5.2.2.2+1))))))) (t,0))))else(r (v5.1,v5.2.1,v5.2.2.1))) (v3.1,v3.2.1,false,0)))else(KK v3.1)) ((List.replicate z5.toNat (dflt (.mp .s .bo))),(List.replicate z5.toNat (dflt (.mp .s .bo))),true))))
def CH(a:Lt.Func)(KK:Bool->Prop):Prop:=(uX a)/\(∀d:List (Option (List (a8×Bool))),uV a d->(d.length<=4611686018427387904->ab (α:=Int×List (a8×(Option (List (a8×Bool))))) (λf v3=>have z4:=d.getD v3.1.toNat default;have z3:=(0<=v3.1/\v3.1.toNat<a.Blocks.length);have b:=a.Blocks.getD v3.1.toNat default;have c:=Lt.Block.mk (b.Name) (b.Phis) (b.Code) (Lt.Term.mk ((b.End).Kind) ((b.End).A) ((b.End).To) ((b.End).N));if decide (v3.1 < (d.length:Int))then(aa (α:=List (a8×(Option (List (a8×Bool))))) (λe=>(0<=v3.1/\v3.1.toNat<d.length)/\z3/\(YI z4 c)/\if !(oa z4 c)then(KK false)else(z3/\(z3/\(xE z4 c)/\e (bP .s v3.2 (b.Name) (iL z4 c)))/\((xE z4 c)/\z3/\e (bP .s v3.2 (b.Name) (iL z4 c))))) (λv5=>f ((i64.wrap (v3.1+1)),v5)))else(KK (zw a (some v3.2)))) (0,[])))
def CF(d:Option (List (a8×Bool)))(a:Lt.Block)(KK:Bool->Prop):Prop:=d.isSome=true/\(a.Code.length<=4611686018427387904->ab (α:=Int×List (a8×Bool)) (λj c=>have f:=a.Code.getD c.1.toNat default;if decide (c.1 < (a.Code.length:Int))then(aa (α:=List (a8×Bool)) (λi=>(0<=c.1/\c.1.toNat<a.Code.length)/\aa (α:=Bool) (λh=>(fP f)/\(∀e:List a8,uW f e->(e.length<=4611686018427387904->ab (α:=Int) (λl v9=>if decide (v9 < (e.length:Int))then((0<=v9/\v9.toNat<e.length)/\if !((aw (β:=Bool) .s c.2 (e.getD v9.toNat default)).getD (dflt .bo))then(h true)else(l (i64.wrap (v9+1))))else(h false)) 0))) (λk=>if k then(KK false)else(if !decide (f.Dst=([]:List UInt8))then(i (bP .s c.2 (f.Dst) true))else(i c.2)))) (λv4=>j ((i64.wrap (c.1+1)),v4)))else(aa (α:=Bool) (λb=>if !decide (a.End.Kind=2)then(if !decide (a.End.Kind=3)then(b true)else(if !decide (a.End.A.Kind=1)then(b true)else(b ((aw (β:=Bool) .s c.2 a.End.A.S).getD (dflt .bo)))))else(if !decide (a.End.A.Kind=1)then(b true)else(b ((aw (β:=Bool) .s c.2 a.End.A.S).getD (dflt .bo))))) (λg=>KK g))) (0,(d.getD [])))
def GI(a:Lt.Func)(b:Option (List (a8×(Option (List (a8×Bool))))))(KK:Bool->Prop):Prop:=(a.Blocks.length<=4611686018427387904->ab (α:=Int) (λi e=>have d:=a.Blocks.getD e.toNat default;if decide (e < (a.Blocks.length:Int))then((0<=e/\e.toNat<a.Blocks.length)/\((d.Phis).length<=4611686018427387904->ab (α:=Int) (λj v4=>have f:=((d.Phis).getD v4.toNat default).Ins;if decide (v4 < ((d.Phis).length:Int))then((0<=v4/\v4.toNat < (d.Phis).length)/\(f.length<=4611686018427387904->ab (α:=Int) (λk c=>have z4:=f.getD c.toNat default;have z3:=aw (β:=Option (List (a8×Bool))) .s (b.getD []) (z4.Block);if decide (c < (f.length:Int))then((0<=c/\c.toNat<f.length)/\aa (α:=Bool) (λg=>if z3.isSome then(if yj a (z4.Block) (d.Name)then(if !decide ((z4.A).Kind=1)then(g false)else(g (!((aw (β:=Bool) .s ((z3.getD (dflt (.mp .s .bo))).getD []) ((z4.A).S)).getD (dflt .bo)))))else(g false))else(g false)) (λh=>if h then(KK false)else(k (i64.wrap (c+1)))))else(j (i64.wrap (v4+1)))) 0))else(i (i64.wrap (e+1)))) 0))else(KK true)) 0)
def CG(a:Lt.Func)(b:a8)(c:a8)(KK:Bool->Prop):Prop:=(a.Blocks.length<=4611686018427387904->ab (α:=Int) (λe d=>if decide (d < (a.Blocks.length:Int))then((0<=d/\d.toNat<a.Blocks.length)/\if decide ((a.Blocks.getD d.toNat default).Name=b)then(KK (wo (((a.Blocks.getD d.toNat default).End).To) c))else(e (i64.wrap (d+1))))else(KK false)) 0)
def GL(a:Lt.Instr)(KK:(List a8)->Prop):Prop:=(a.Args.length<=4611686018427387904->ab (α:=Int×List (a8×Bool)) (λt e=>if decide (e.1 < (a.Args.length:Int))then(aa (α:=List (a8×Bool)) (λp=>(0<=e.1/\e.1.toNat<a.Args.length)/\if decide ((a.Args.getD e.1.toNat default).Kind=1)then(p (bP .s e.2 ((a.Args.getD e.1.toNat default).S) true))else(p e.2)) (λv4=>t ((i64.wrap (e.1+1)),v4)))else((a.Frames.length<=4611686018427387904->ab (α:=Int×List (a8×Bool)) (λq f=>have g:=(a.Frames.getD f.1.toNat default).Vars;if decide (f.1 < (a.Frames.length:Int))then((0<=f.1/\f.1.toNat<a.Frames.length)/\(g.length<=4611686018427387904->ab (α:=Int×List (a8×Bool)) (λr d=>if decide (d.1 < (g.length:Int))then(aa (α:=List (a8×Bool)) (λo=>(0<=d.1/\d.1.toNat<g.length)/\if decide (((g.getD d.1.toNat default).A).Kind=1)then(o (bP .s d.2 (((g.getD d.1.toNat default).A).S) true))else(o d.2)) (λn=>r ((i64.wrap (d.1+1)),n)))else(q ((i64.wrap (f.1+1)),d.2))) (0,f.2)))else((a.Objs.length<=4611686018427387904->ab (α:=Int×List (a8×Bool)) (λk c=>have j:=(a.Objs.getD c.1.toNat default).Vals;if decide (c.1 < (a.Objs.length:Int))then((0<=c.1/\c.1.toNat<a.Objs.length)/\(j.length<=4611686018427387904->ab (α:=Int×List (a8×Bool)) (λl b=>if decide (b.1 < (j.length:Int))then(aa (α:=List (a8×Bool)) (λi=>(0<=b.1/\b.1.toNat<j.length)/\if decide ((j.getD b.1.toNat default).Kind=1)then(i (bP .s b.2 ((j.getD b.1.toNat default).S) true))else(i b.2)) (λm=>l ((i64.wrap (b.1+1)),m)))else(k ((i64.wrap (c.1+1)),b.2))) (0,c.2)))else((lj (some c.2))/\(∀h:List a8,iW (some c.2) h->KK h))) (0,f.2)))) (0,e.2)))) (0,[]))
def CY(a:Lt.Func)(b:a8)(KK:(Int×Bool)->Prop):Prop:=(a.Blocks.length<=4611686018427387904->ab (α:=Int) (λd c=>if decide (c < (a.Blocks.length:Int))then((0<=c/\c.toNat<a.Blocks.length)/\if decide ((a.Blocks.getD c.toNat default).Name=b)then(KK (c,true))else(d (i64.wrap (c+1))))else(KK (0,false))) 0)
def Py(a:List Int)(c:Int)(KK:Int->Prop):Prop:=(a.length<=4611686018427387904->ab (α:=Int) (λd b=>if decide (b < (a.length:Int))then((0<=b/\b.toNat<a.length)/\if decide (c=(a.getD b.toNat default))then(KK b)else(d (i64.wrap (b+1))))else(KK (-1))) 0)
def Vv(a:List Int)(b:Int)(KK:Bool->Prop):Prop:=KK (decide (0<=(JP a b)))
def Pz(a:List a8)(c:a8)(KK:Int->Prop):Prop:=(a.length<=4611686018427387904->ab (α:=Int) (λd b=>if decide (b < (a.length:Int))then((0<=b/\b.toNat<a.length)/\if decide (c=(a.getD b.toNat default))then(KK b)else(d (i64.wrap (b+1))))else(KK (-1))) 0)
def Vw(a:List a8)(b:a8)(KK:Bool->Prop):Prop:=KK (decide (0<=(JQ a b)))
def Vu(a:Lt.Func)(KK:(List (List Int))->Prop):Prop:=have z3:=(a.Blocks.length:Int);(a.Blocks.length<=4611686018427387904->((0:Int)<=z3/\z3<=4611686018427387904/\24*z3.toNat<=281474976710656)/\(a.Blocks.length<=4611686018427387904->ab (α:=List (List Int)×Int) (λf b=>have c:=((a.Blocks.getD b.2.toNat default).End).To;if decide (b.2<z3)then((0<=b.2/\b.2.toNat<a.Blocks.length)/\(c.length<=4611686018427387904->ab (α:=List (List Int)×Int) (λh v4=>have d:=aK a (c.getD v4.2.toNat default);if decide (v4.2 < (c.length:Int))then(aa (α:=List (List Int)) (λe=>(0<=v4.2/\v4.2.toNat<c.length)/\if d.2 then(((0:Int)<=b.2/\b.2 < ((v4.1.length:Nat):Int))/\((v4.1.getD b.2.toNat []).length+([d.1]:List Int).length<=4611686018427387904/\((v4.1.getD b.2.toNat []).length+([d.1]:List Int).length)*8<=140737488355328)/\((0:Int)<=b.2/\b.2 < ((v4.1.length:Nat):Int))/\b.2.toNat<v4.1.length/\b.2.toNat=b.2.toNat/\e (v4.1.set b.2.toNat ((v4.1.getD b.2.toNat [])++([d.1]:List Int))))else(e v4.1)) (λg=>h (g,(i64.wrap (v4.2+1)))))else(f (v4.1,(i64.wrap (b.2+1))))) (b.1,0)))else(KK b.1)) ((List.replicate z3.toNat (dflt (.sl (.i .i64)))),0)))
def CM(a:List (List Int))(KK:(List (List Int))->Prop):Prop:=(a.length<=4611686018427387904->((0:Int)<=(a.length:Int)/\(a.length:Int)<=4611686018427387904/\24*(a.length:Int).toNat<=281474976710656)/\(a.length<=4611686018427387904->ab (α:=List (List Int)×Int) (λh c=>have z3:=a.getD c.2.toNat [];if decide (c.2 < (a.length:Int))then((0<=c.2/\c.2.toNat<a.length)/\(z3.length<=4611686018427387904->ab (α:=List (List Int)×Int) (λj v4=>have b:=z3.getD v4.2.toNat default;have d:=((0:Int)<=b/\b < ((v4.1.length:Nat):Int));if decide (v4.2 < (z3.length:Int))then(aa (α:=List (List Int)) (λf=>(0<=v4.2/\v4.2.toNat<z3.length)/\aa (α:=Bool) (λe=>if decide (0<=b)then(if decide (b < (a.length:Int))then(d/\True/\e (!(Al (v4.1.getD b.toNat []) c.2)))else(e false))else(e false)) (λg=>if g then(d/\((v4.1.getD b.toNat []).length+([c.2]:List Int).length<=4611686018427387904/\((v4.1.getD b.toNat []).length+([c.2]:List Int).length)*8<=140737488355328)/\d/\b.toNat<v4.1.length/\b.toNat=b.toNat/\f (v4.1.set b.toNat ((v4.1.getD b.toNat [])++([c.2]:List Int))))else(f v4.1))) (λk=>j (k,(i64.wrap (v4.2+1)))))else(h (v4.1,(i64.wrap (c.2+1))))) (c.1,0)))else(KK c.1)) ((List.replicate (a.length:Int).toNat (dflt (.sl (.i .i64)))),0)))
def yQ(a:Lt.Func)(KK:(Option (List (a8×Bool)))->Prop):Prop:=(a.Params.length<=4611686018427387904->ab (α:=Int×List (a8×Bool)) (λc b=>if decide (b.1 < (a.Params.length:Int))then((0<=b.1/\b.1.toNat<a.Params.length)/\c ((i64.wrap (b.1+1)),(bP .s b.2 ((a.Params.getD b.1.toNat default).Name) true)))else(KK (some b.2))) (0,[]))
def GG(b:Option (List (a8×Bool)))(a:Lt.Block)(KK:(Option (List (a8×Bool)))->Prop):Prop:=b.isSome=true/\(a.Phis.length<=4611686018427387904->ab (α:=Int×List (a8×Bool)) (λd c=>if decide (c.1 < (a.Phis.length:Int))then((0<=c.1/\c.1.toNat<a.Phis.length)/\d ((i64.wrap (c.1+1)),(bP .s c.2 ((a.Phis.getD c.1.toNat default).Dst) true)))else(KK (some c.2))) (0,(b.getD [])))
def GF(c:Option (List (a8×Bool)))(a:Lt.Block)(KK:(Option (List (a8×Bool)))->Prop):Prop:=c.isSome=true/\(a.Code.length<=4611686018427387904->ab (α:=Int×List (a8×Bool)) (λe b=>if decide (b.1 < (a.Code.length:Int))then(aa (α:=List (a8×Bool)) (λd=>(0<=b.1/\b.1.toNat<a.Code.length)/\if !decide ((a.Code.getD b.1.toNat default).Dst=([]:List UInt8))then(d (bP .s b.2 ((a.Code.getD b.1.toNat default).Dst) true))else(d b.2)) (λv4=>e ((i64.wrap (b.1+1)),v4)))else(KK (some b.2))) (0,(c.getD [])))
def GH(b:Option (List (a8×Bool)))(c:Option (List (a8×Bool)))(KK:(Option (List (a8×Bool)))->Prop):Prop:=if b.isNone then(KK c)else(ab (α:=List (a8×Bool)×List (a8×Bool)) (λe a=>(a.2=[]->KK (some a.1))/\∀d:Nat,d<a.2.length->if (aw (β:=Bool) .s (c.getD []) ((a.2.getD d default).1)).getD (dflt .bo)then(e ((bP .s a.1 ((a.2.getD d default).1) true),(a.2.eraseIdx d)))else(e (a.1,(a.2.eraseIdx d)))) ([],(b.getD [])))
def CW(a:Lt.Func)(KK:Bool->Prop):Prop:=have h:=(a.Blocks.length:Int);(a.Blocks.length<=4611686018427387904->if decide (h=0)then(KK false)else((a.Blocks.length<=4611686018427387904->(a.Blocks.length<=4611686018427387904->ab (α:=Int×List (a8×Int)) (λx d=>if decide (d.1<h)then((0<=d.1/\d.1.toNat<a.Blocks.length)/\if (aw (β:=Int) .s d.2 ((a.Blocks.getD d.1.toNat default).Name)).isSome then(KK false)else(x ((i64.wrap (d.1+1)),(bP .s d.2 ((a.Blocks.getD d.1.toNat default).Name) d.1))))else((a.Blocks.length<=4611686018427387904->ab (α:=Int) (λt v4=>have z5:=((a.Blocks.getD v4.toNat default).End).To;if decide (v4<h)then((0<=v4/\v4.toNat<a.Blocks.length)/\(z5.length<=4611686018427387904->ab (α:=Int×List (a8×Bool)) (λw j=>have n:=z5.getD j.1.toNat default;if decide (j.1 < (z5.length:Int))then((0<=j.1/\j.1.toNat<z5.length)/\aa (α:=Bool) (λr=>if !((aw (β:=Int) .s d.2 n).isSome)then(r true)else(if decide (((aw (β:=Int) .s d.2 n).getD (dflt (.i .i64)))=0)then(r true)else(r ((aw (β:=Bool) .s j.2 n).getD (dflt .bo))))) (λu=>if u then(KK false)else(w ((i64.wrap (j.1+1)),(bP .s j.2 n true)))))else(t (i64.wrap (v4+1)))) (0,[])))else(if false then(KK false)else((a.Blocks.length<=4611686018427387904->((0:Int)<=h/\h<=4611686018427387904/\1*h.toNat<=281474976710656)/\((0:Int)<=0/\0 < (((List.replicate h.toNat (dflt .bo)).length:Nat):Int))/\0 < (List.replicate h.toNat (dflt .bo)).length/\ab (α:=List Bool×List Int) (λv c=>have z4:=(i64.wrap ((c.2.length:Int) - 1));have z3:=(a.Blocks.getD (c.2.getD z4.toNat default).toNat default);(c.2.length<=4611686018427387904->if decide (0 < (c.2.length:Int))then(aa (α:=Lt.Block) (λp=>have l:=(((0:Int)<=(c.2.getD z4.toNat default)/\(c.2.getD z4.toNat default).toNat<a.Blocks.length)/\p (Lt.Block.mk (z3.Name) (z3.Phis) (z3.Code) (Lt.Term.mk ((z3.End).Kind) ((z3.End).A) ((z3.End).To) ((z3.End).N))));(c.2.length<=4611686018427387904->((0:Int)<=z4/\z4 < ((c.2.length:Nat):Int))/\(l/\l)/\(l/\l)/\l)) (λg=>(c.2.length<=4611686018427387904->(0<=z4/\z4.toNat<=c.2.length)/\(g.End.To.length<=4611686018427387904->ab (α:=List Bool×List Int×Int) (λo b=>have f:=(aw (β:=Int) .s d.2 (g.End.To.getD b.2.2.toNat default)).getD (dflt (.i .i64));if decide (b.2.2 < (g.End.To.length:Int))then(aa (α:=List Bool×List Int) (λm=>(0<=b.2.2/\b.2.2.toNat<g.End.To.length)/\((0:Int)<=f/\f < ((b.1.length:Nat):Int))/\if !(b.1.getD f.toNat default)then(((0:Int)<=f/\f < ((b.1.length:Nat):Int))/\f.toNat<b.1.length/\(b.2.1.length+([f]:List Int).length<=4611686018427387904/\(b.2.1.length+([f]:List Int).length)*8<=140737488355328)/\m ((b.1.set f.toNat true),(b.2.1++([f]:List Int))))else(m (b.1,b.2.1))) (λk=>o (k.1,k.2,(i64.wrap (b.2.2+1)))))else(v (b.1,b.2.1))) (c.1,(c.2.take z4.toNat),0)))))else((c.1.length<=4611686018427387904->ab (α:=Int) (λq e=>if decide (e < (c.1.length:Int))then(((0:Int)<=e/\e < ((c.1.length:Nat):Int))/\if !(c.1.getD e.toNat default)then(KK false)else(q (i64.wrap (e+1))))else(KK true)) 0)))) (((List.replicate h.toNat (dflt .bo)).set 0 true),[0]))))) 0))) (0,[])))))
def Ia(a:Lt.Program)(b:a8)(KK:(Lt.Class×Bool)->Prop):Prop:=(a.Classes.length<=4611686018427387904->ab (α:=Int) (λd c=>if decide (c < (a.Classes.length:Int))then((0<=c/\c.toNat<a.Classes.length)/\if decide ((a.Classes.getD c.toNat default).Name=b)then(KK ((a.Classes.getD c.toNat default),true))else(d (i64.wrap (c+1))))else(KK ((Lt.Class.mk ([]:List UInt8) []),false))) 0)
def PT(a:Lt.Program)(b:a8)(KK:(Lt.Func×Bool)->Prop):Prop:=(a.Funcs.length<=4611686018427387904->ab (α:=Int) (λd c=>if decide (c < (a.Funcs.length:Int))then((0<=c/\c.toNat<a.Funcs.length)/\if decide ((a.Funcs.getD c.toNat default).Name=b)then(KK ((a.Funcs.getD c.toNat default),true))else(d (i64.wrap (c+1))))else(KK ((Lt.Func.mk ([]:List UInt8) ([]:List UInt8) [] [] []),false))) 0)
def C0(a:Lt.Program)(b:a8)(KK:(Lt.Var×Bool)->Prop):Prop:=(a.Globals.length<=4611686018427387904->ab (α:=Int) (λd c=>if decide (c < (a.Globals.length:Int))then((0<=c/\c.toNat<a.Globals.length)/\if decide ((a.Globals.getD c.toNat default).Name=b)then(KK ((a.Globals.getD c.toNat default),true))else(d (i64.wrap (c+1))))else(KK ((Lt.Var.mk ([]:List UInt8) ([]:List UInt8)),false))) 0)
def CZ(a:Lt.Program)(b:a8)(KK:(Lt.Extern×Bool)->Prop):Prop:=(a.Externs.length<=4611686018427387904->ab (α:=Int) (λd c=>if decide (c < (a.Externs.length:Int))then((0<=c/\c.toNat<a.Externs.length)/\if decide ((a.Externs.getD c.toNat default).Name=b)then(KK ((a.Externs.getD c.toNat default),true))else(d (i64.wrap (c+1))))else(KK ((Lt.Extern.mk ([]:List UInt8) 0),false))) 0)
def xg(a:Lt.Func)(b:a8)(KK:(Lt.Var×Bool)->Prop):Prop:=aa (α:=Bool×Lt.Var) (λd=>(a.Params.length<=4611686018427387904->ab (α:=Int) (λf v4=>if decide (v4 < (a.Params.length:Int))then((0<=v4/\v4.toNat<a.Params.length)/\if decide ((a.Params.getD v4.toNat default).Name=b)then(d (true,(a.Params.getD v4.toNat default)))else(f (i64.wrap (v4+1))))else(d (false,(Lt.Var.mk ([]:List UInt8) ([]:List UInt8))))) 0)) (λe=>if e.1 then(KK (e.2,true))else((a.Vars.length<=4611686018427387904->ab (α:=Int) (λg c=>if decide (c < (a.Vars.length:Int))then((0<=c/\c.toNat<a.Vars.length)/\if decide ((a.Vars.getD c.toNat default).Name=b)then(KK ((a.Vars.getD c.toNat default),true))else(g (i64.wrap (c+1))))else(KK ((Lt.Var.mk ([]:List UInt8) ([]:List UInt8)),false))) 0)))
def Ib(b:Lt.Program)(a:a8)(c:a8)(KK:(Lt.Var×Bool)->Prop):Prop:=if !((az b a).2)then(KK ((Lt.Var.mk ([]:List UInt8) ([]:List UInt8)),false))else(((((az b a).1).Fields).length<=4611686018427387904->ab (α:=Int) (λe d=>if decide (d < ((((az b a).1).Fields).length:Int))then((0<=d/\d.toNat < (((az b a).1).Fields).length)/\if decide (((((az b a).1).Fields).getD d.toNat default).Name=c)then(KK (((((az b a).1).Fields).getD d.toNat default),true))else(e (i64.wrap (d+1))))else(KK ((Lt.Var.mk ([]:List UInt8) ([]:List UInt8)),false))) 0))
def aeP(b:Lt.Func)(a:Lt.Arg)(KK:(a8×Bool)->Prop):Prop:=if decide (a.Kind=1)then(KK (((dN b a.S).1).Type_,(dN b a.S).2))else(if decide (a.Kind=2)then(KK ([105,110,116],true))else(if decide (a.Kind=3)then(KK ([102,108,111,97,116],true))else(if decide (a.Kind=4)then(KK ([110,117,108,108],true))else(KK (([]:List UInt8),false)))))
def VL(a:a8)(KK:Bool->Prop):Prop:=if !decide (a=[105,110,116])then(KK (!decide (a=[102,108,111,97,116])))else(KK false)
def PS(b:a8)(a:a8)(KK:Bool->Prop):Prop:=aa (α:=Bool) (λc=>if decide (b=a)then(c true)else(if decide (b=[110,117,108,108])then(c (gX a))else(c false))) (λd=>KK d)
def VK(a:List a8)(b:List Lt.Var)(KK:Bool->Prop):Prop:=(a.length<=4611686018427387904->(b.length<=4611686018427387904->if !decide ((a.length:Int)=(b.length:Int))then(KK false)else((a.length<=4611686018427387904->ab (α:=Int) (λd c=>if decide (c < (a.length:Int))then((0<=c/\c.toNat<a.length)/\(0<=c/\c.toNat<b.length)/\if !(bB (a.getD c.toNat default) ((b.getD c.toNat default).Type_))then(KK false)else(d (i64.wrap (c+1))))else(KK true)) 0))))
def If(b:Lt.Program)(a:a8)(KK:Bool->Prop):Prop:=aa (α:=Bool) (λc=>if decide (a=[105,110,116])then(c true)else(if decide (a=[102,108,111,97,116])then(c true)else(c ((az b a).2)))) (λd=>KK d)
def xf(c:Lt.Program)(a:List Lt.Var)(KK:Bool->Prop):Prop:=(a.length<=4611686018427387904->ab (α:=Int) (λd b=>if decide (b < (a.length:Int))then((0<=b/\b.toNat<a.length)/\if !(gN c ((a.getD b.toNat default).Type_))then(KK false)else(d (i64.wrap (b+1))))else((a.length<=4611686018427387904->ab (α:=Int×List (a8×Bool)) (λe v4=>if decide (v4.1 < (a.length:Int))then((0<=v4.1/\v4.1.toNat<a.length)/\if (aw (β:=Bool) .s v4.2 ((a.getD v4.1.toNat default).Name)).getD (dflt .bo)then(KK false)else(e ((i64.wrap (v4.1+1)),(bP .s v4.2 ((a.getD v4.1.toNat default).Name) true))))else(KK true)) (0,[])))) 0)
def Ic(a:Lt.Program)(KK:Bool->Prop):Prop:=aa (α:=Bool) (λi=>(a.Classes.length<=4611686018427387904->ab (α:=Int×List (a8×Bool)) (λo v4=>if decide (v4.1 < (a.Classes.length:Int))then((0<=v4.1/\v4.1.toNat<a.Classes.length)/\if (aw (β:=Bool) .s v4.2 ((a.Classes.getD v4.1.toNat default).Name)).getD (dflt .bo)then(i true)else(o ((i64.wrap (v4.1+1)),(bP .s v4.2 ((a.Classes.getD v4.1.toNat default).Name) true))))else((a.Externs.length<=4611686018427387904->ab (α:=Int×List (a8×Bool)) (λq f=>if decide (f.1 < (a.Externs.length:Int))then((0<=f.1/\f.1.toNat<a.Externs.length)/\if (aw (β:=Bool) .s f.2 ((a.Externs.getD f.1.toNat default).Name)).getD (dflt .bo)then(i true)else(q ((i64.wrap (f.1+1)),(bP .s f.2 ((a.Externs.getD f.1.toNat default).Name) true))))else((a.Funcs.length<=4611686018427387904->ab (α:=Int×List (a8×Bool)) (λn e=>if decide (e.1 < (a.Funcs.length:Int))then((0<=e.1/\e.1.toNat<a.Funcs.length)/\if (aw (β:=Bool) .s e.2 ((a.Funcs.getD e.1.toNat default).Name)).getD (dflt .bo)then(i true)else(n ((i64.wrap (e.1+1)),(bP .s e.2 ((a.Funcs.getD e.1.toNat default).Name) true))))else(i (!(cH a a.Globals)))) (0,[])))) (0,[])))) (0,[]))) (λp=>if p then(KK false)else((a.Classes.length<=4611686018427387904->ab (α:=Int) (λr b=>if decide (b < (a.Classes.length:Int))then((0<=b/\b.toNat<a.Classes.length)/\if !(cH a ((a.Classes.getD b.toNat default).Fields))then(KK false)else(r (i64.wrap (b+1))))else((a.Funcs.length<=4611686018427387904->ab (α:=Int) (λj c=>have d:=a.Funcs.getD c.toNat default;if decide (c < (a.Funcs.length:Int))then((0<=c/\c.toNat<a.Funcs.length)/\aa (α:=List Lt.Var) (λm=>have g:=((([]:List Lt.Var).length+(d.Params).length<=4611686018427387904/\(([]:List Lt.Var).length+(d.Params).length)*32<=140737488355328)/\((d.Params).length+(d.Vars).length<=4611686018427387904/\((d.Params).length+(d.Vars).length)*32<=140737488355328)/\m ((d.Params)++(d.Vars)));(g/\g)/\((g/\g)/\g)/\(g/\g)) (λk=>aa (α:=Bool) (λh=>if !(gN a (d.Result))then(h true)else(h (!(cH a k)))) (λl=>if l then(KK false)else(j (i64.wrap (c+1))))))else(KK true)) 0))) 0)))
def PU(a:a8)(b:a8)(KK:Bool->Prop):Prop:=aa (α:=Bool) (λc=>if gX a then(if gX b then(if decide (a=b)then(c true)else(if decide (a=[110,117,108,108])then(c true)else(c (decide (b=[110,117,108,108])))))else(c false))else(c false)) (λd=>KK d)
def PV(a:Lt.asked)(b:a8)(c:a8)(KK:Bool->Prop):Prop:=(a.args.length<=4611686018427387904->ab (α:=Int) (λe d=>if decide (d < (a.args.length:Int))then((0<=d/\d.toNat<a.args.length)/\if !decide ((a.args.getD d.toNat default)=b)then(KK false)else(e (i64.wrap (d+1))))else(KK (decide (a.dst=c)))) 0)
def Ig(a:Lt.asked)(KK:Bool->Prop):Prop:=aa (α:=Bool) (λb=>if (az a.p a.i.Name).2 then(if decide (a.dst=((az a.p a.i.Name).1).Name)then(if decide ((a.args.length:Int)=0)then(b true)else(b (gI a.args (((az a.p a.i.Name).1).Fields))))else(b false))else(b false)) (λc=>KK c)
def C1(a:Lt.asked)(KK:(Lt.Var×Bool)->Prop):Prop:=((0:Int)<=0/\0<a.i.Args.length)/\if !decide ((a.i.Args.getD 0 default).Kind=1)then(KK ((Lt.Var.mk ([]:List UInt8) ([]:List UInt8)),false))else(((0:Int)<=0/\0<a.args.length)/\KK (((oQ a.p (a.args.getD 0 default) a.i.Name).1),(oQ a.p (a.args.getD 0 default) a.i.Name).2))
def yY(a:Lt.asked)(KK:Bool->Prop):Prop:=if decide (a.i.Op=29)then(if (fD a.p a.i.Name).2 then(KK (decide (((fD a.p a.i.Name).1).Type_=a.dst)))else(KK false))else(if (fD a.p a.i.Name).2 then(((0:Int)<=0/\0<a.args.length)/\KK (bB (a.args.getD 0 default) (((fD a.p a.i.Name).1).Type_)))else(KK false))
def C2(a:Lt.asked)(KK:Bool->Prop):Prop:=have c:=((0:Int)<=0/\0<a.args.length);if decide (a.i.Op<=14)then(KK (lA a [105,110,116] [105,110,116]))else(if decide (a.i.Op<=18)then(KK (lA a [102,108,111,97,116] [102,108,111,97,116]))else(if decide (a.i.Op<=21)then(KK (lA a [102,108,111,97,116] [105,110,116]))else(if decide (a.i.Op=22)then(KK (lA a [105,110,116] [102,108,111,97,116]))else(if decide (a.i.Op=23)then(KK (lA a [102,108,111,97,116] [105,110,116]))else(if decide (a.i.Op=24)then(c/\KK (bB (a.args.getD 0 default) a.dst))else(if decide (a.i.Op=25)then(KK (BL a))else(if decide (a.i.Op=26)then((Oz a)/\if (gy a).2 then(KK (decide (((gy a).1).Type_=a.dst)))else(KK false))else(if decide (a.i.Op=27)then((Oz a)/\if (gy a).2 then(((0:Int)<=1/\1<a.args.length)/\KK (bB (a.args.getD 1 default) (((gy a).1).Type_)))else(KK false))else(if decide (a.i.Op=28)then(if decide (a.dst=[105,110,116])then(c/\((0:Int)<=1/\1<a.args.length)/\KK (LC (a.args.getD 0 default) (a.args.getD 1 default)))else(KK false))else(aa (α:=Bool) (λe=>if decide (a.i.Op=29)then(e (decide (a.i.Op=29)))else(e (decide (a.i.Op=30)))) (λg=>if g then((OA a)/\KK (nS a))else(if decide (a.i.Op=31)then(aa (α:=Bool) (λd=>if (ll a.p a.i.Name).2 then(if gI a.args (((ll a.p a.i.Name).1).Params)then(d (decide (a.dst=((ll a.p a.i.Name).1).Result)))else(d false))else(d false)) (λv4=>KK v4))else(if decide (a.i.Op=32)then(aa (α:=Bool) (λb=>if (gm a.p a.i.Name).2 then(if decide ((a.args.length:Int)=((gm a.p a.i.Name).1).N)then(b (lA a [105,110,116] [105,110,116]))else(b false))else(b false)) (λf=>KK f))else(if decide (a.i.Op=33)then(c/\KK (!(gX (a.args.getD 0 default))))else(KK true)))))))))))))))
def VI(d:Lt.Program)(b:Lt.Func)(a:Lt.Instr)(KK:(Lt.asked×Bool)->Prop):Prop:=have e:=(Lt.asked.mk (Lt.Program.mk false [] [] [] []) (Lt.Instr.mk 0 ([]:List UInt8) ([]:List UInt8) [] [] []) ([]:List UInt8) []);aa (α:=Bool) (λg=>if !((Lt.Of a.Op).2)then(g true)else(if decide ((a.Args.length:Int) < ((Lt.Of a.Op).1).Least)then(g true)else(g (decide (((Lt.Of a.Op).1).Most < (a.Args.length:Int)))))) (λj=>if j then(KK (e,false))else(aa (α:=Lt.asked) (λh=>if ((Lt.Of a.Op).1).Dst then(if !((dN b a.Dst).2)then(KK (e,false))else(h (Lt.asked.mk d a (((dN b a.Dst).1).Type_) [])))else(h (Lt.asked.mk d a ([]:List UInt8) []))) (λv4=>(a.Args.length<=4611686018427387904->ab (α:=Int×Lt.asked) (λk c=>have f:=([(cw b (a.Args.getD c.1.toNat default)).1]:List a8);if decide (c.1 < (a.Args.length:Int))then((0<=c.1/\c.1.toNat<a.Args.length)/\if !((cw b (a.Args.getD c.1.toNat default)).2)then(KK (e,false))else((c.2.args.length+f.length<=4611686018427387904/\(c.2.args.length+f.length)*16<=140737488355328)/\k ((i64.wrap (c.1+1)),(Lt.asked.mk c.2.p c.2.i c.2.dst (c.2.args++f)))))else(KK (c.2,true))) (0,(Lt.asked.mk v4.p v4.i v4.dst []))))))
def Ie(b:Lt.Program)(c:Lt.Func)(a:Lt.Instr)(KK:Bool->Prop):Prop:=(uY b c a)/\if (oV b c a).2 then((Bb (Lt.asked.mk (((oV b c a).1).p) (((oV b c a).1).i) (((oV b c a).1).dst) (((oV b c a).1).args)))/\KK (vC (Lt.asked.mk (((oV b c a).1).p) (((oV b c a).1).i) (((oV b c a).1).dst) (((oV b c a).1).args))))else(KK false)
def VJ(b:Lt.Func)(a:Lt.Term)(KK:Bool->Prop):Prop:=if decide (a.Kind=1)then(KK true)else(if decide (a.Kind=2)then(if (cw b a.A).2 then(KK (decide ((cw b a.A).1=[105,110,116])))else(KK false))else(if decide (a.Kind=3)then(if (cw b a.A).2 then(KK (bB ((cw b a.A).1) b.Result))else(KK false))else(if decide (a.Kind=4)then(KK (decide (10<=a.N)))else(KK false))))
def LEN:Nat:=4611686018427387904
variable{i n:Nat}
theorem ob(h:i<n):(0:Int)<=(i:Int)/\(i:Int).toNat<n:=by rw[Int.toNat_natCast];exact⟨akW i,h⟩
theorem aF(h:i<n):decide ((i:Int) < (n:Int))=true:=by simpa using h
theorem ld:decide ((n:Int) < (n:Int))=false:=by simp
section
variable {α:Type}
theorem ae(x:α)(B:α->Prop):aa (λJ=>J x) B=B x:=propext ⟨λh=>h B (λ_ h=>h),λh J a=>a x h⟩
theorem bL(c:Prop)[Decidable c](A a:(α->Prop)->Prop)(B:α->Prop):aa (λJ=>if c then A J else a J) B=if c then aa A B else aa a B:=by unfold aa;by_cases hc:c<;>simp only[hc,if_true,if_false]
theorem am(P:Prop)(A:(α->Prop)->Prop)(B:α->Prop):aa (λJ=>P/\A J) B=(P/\aa A B):=propext ⟨λh=>⟨(h (λ_=>True) (λ_ _=>trivial)).1,λJ a=>(h J a).2⟩,λh J a=>⟨h.1,h.2 J a⟩⟩
theorem aq(P:Prop)(A:(α->Prop)->Prop)(B:α->Prop):aa (λJ=>P->A J) B=(P->aa A B):=propext ⟨λh hp J a=>h J a hp,λh J a hp=>h hp J a⟩
theorem bd(P:Prop)(B:α->Prop):aa (λ_=>P) B=P:=propext ⟨λh=>h (λ_=>True) (λ_ _=>trivial),λh _ _=>h⟩
theorem jval(c:Prop)[Decidable c](x y:α)(J:α->Prop):(if c then J x else J y)=J (if c then x else y):=by split<;>rfl
theorem bor(b c:Bool):(if b then true else c)=(b||c):=by cases b<;>rfl
theorem band(b c:Bool):(if b then c else false)=(b&&c):=by cases b<;>rfl
theorem bnand(b c:Bool):(if b then false else c)=(!b&&c):=by cases b<;>rfl
theorem bimp(b c:Bool):(if b then c else true)=(!b||c):=by cases b<;>rfl
theorem oX(c:Prop)[Decidable c](P A B:Prop):(if c then(P/\A)else B)=((c->P)/\if c then A else B):=by by_cases hc:c<;>simp[hc]
theorem oY(c:Prop)[Decidable c](P A B:Prop):(if c then A else(P/\B))=((¬ c->P)/\if c then A else B):=by by_cases hc:c<;>simp[hc]
theorem iC(c:Prop)[Decidable c](P A B:Prop):(if c then(P/\A)else(P/\B))=(P/\if c then A else B):=by by_cases hc:c<;>simp[hc]
end
theorem af{α:Type}(body:(α->Prop)->α->Prop)(m:Nat)(P:Nat->α->Prop)
  (hs:∀R i x,i<m->P i x->(∀y,P (i+1) y->R y)->body R x) (a:∀R x,P m x->body R x) (x:α) (h:P 0 x):ab body x:=by
 have key:∀k i x,i+k=m->P i x->pf body (k+1) x:=by
  intro k;induction k with
  |zero=>
   intro i x hi h;have e:i=m:=by omega
   subst e;exact a _ x h
  |succ k ih=>intro i x hi h;exact hs _ i x kQ1 h (λy hy=>ih (i+1) y kQ1 hy)
 exact⟨m+1,key m 0 x kQ1 h⟩
variable{β:Type}
theorem sP{α ρ σ:Type}[Inhabited α](l:List α)(hl:l.length<=LEN)(st:β->Int->σ)(c:List α->β->ρ)(KK:ρ->Prop)(body:(σ->Prop)->σ->Prop)
  (hs:∀R b i,i<l.length->(∀b',KK (c (l.drop (i+1)) b')->R (st b' (i64.wrap ((i:Int)+1))))->KK (c (l.getD i default::l.drop (i+1)) b)->body R (st b i))
  (d:∀R b,KK (c [] b)->body R (st b l.length)) (b:β) (h:KK (c l b)):ab body (st b 0):=by
 have key:∀k i b,i+k=l.length->KK (c (l.drop i) b)->pf body (k+1) (st b (i:Int)):=by
  intro k;induction k with
  |zero=>
   intro i b hi h;have e:i=l.length:=by omega
   subst e;rw[alZ]at h;exact d _ b h
  |succ k ih=>
   intro i b hi h;have a:i<l.length:=by omega
   rw[alF a]at h;have e:l.getD i default=l[i]:=by rw[List.getD,akQ a];rfl
   rw[<- e]at h;refine hs _ b i a (λb' h'=>?_) h;rw[ac (by unfold LEN at hl;omega)];exact ih (i+1) b' kQ1 h'
 exact⟨l.length+1,key l.length 0 b kQ1 h⟩
theorem S0{α ρ:Type}[Inhabited α](l:List α)(hl:l.length<=LEN)(a:List α->β->ρ)(KK:ρ->Prop)(body:(β×Int->Prop)->β×Int->Prop)
  (hs:∀R b i,i<l.length->(∀b',KK (a (l.drop (i+1)) b')->R (b',(i64.wrap ((i:Int)+1))))->KK (a (l.getD i default::l.drop (i+1)) b)->body R (b,(i:Int)))
  (c:∀R b,KK (a [] b)->body R (b,(l.length:Int))) (b:β) (h:KK (a l b)):ab body (b,0):=
 sP l hl (λb i=>(b,i)) a KK body hs c b h
theorem dy{α:Type}[Inhabited α](l:List α)(hl:l.length<=LEN)(p:α->Bool)(rest:Bool)(KK:Bool->Prop)(body:(Int->Prop)->Int->Prop)
  (hs:∀R i,i<l.length->(p (l.getD i default)=true->R (i64.wrap ((i:Int)+1)))->(p (l.getD i default)=false->KK false)->body R (i:Int))
  (a:∀R,KK rest->body R (l.length:Int)) (h:KK (l.all p&&rest)):ab body 0:=by
 refine sP l hl (λ(_:Unit) i=>i) (λt _=>t.all p&&rest) KK body (λR _ i hi ih h=>?_) (λR _ h=>a R (by simpa using h)) () h;refine hs R i hi (λhp=>ih () ?_) (λhp=>?_)
 .simp only[ak2,hp,ak9]at h;exact h
 simp only[ak2,hp,alX]at h;exact h
theorem JG(N:Nat)(hN:N<=LEN)(g:Nat->β)(body:(β×Int->Prop)->β×Int->Prop)
  (hs:∀R i,i<N->R (g (i+1),i64.wrap ((i:Int)+1))->body R (g i,(i:Int)))
  (a:∀R,body R (g N,(N:Int))) {b:β} (hb:g 0=b):ab body (b,0):=by
 subst hb;refine af body N (λi x=>x=(g i,(i:Int))) (λR i x hi hx ih=>?_) (λR x hx=>?_) _ rfl
 .subst hx;refine hs R i hi (ih _ ?_);rw[ac (by unfold LEN at hN;omega)]
 subst hx;exact a R
theorem aA{α:Type}[Inhabited α](l:List α)(h:i<l.length):l.take (i+1)=l.take i++[l.getD i default]:=by rw[List.take_add_one,List.getD,akQ h];rfl
theorem au{α:Type}[Inhabited α](l:List α)(h:i<l.length):l.getD i default∈l:=by rw[List.getD,akQ h];exact amK h
theorem ifk{c:Prop}[Decidable c]{A B:Prop}(h1:c->A)(h2:¬ c->B):if c then A else B:=by grind
theorem dU{α σ:Type}[Inhabited α]{body:(σ->Prop)->σ->Prop}(l:List α)(st:β->Int->σ)(P:List α->β->Prop)
  (hs:∀R b i x r,i<l.length->l.getD i default=x->x∈l->(l.length<=4611686018427387904->∀b',P r b'->R (st b' (i64.wrap ((i:Int)+1))))->P (x::r) b->body R (st b (i:Int)))
  (c:∀R b,P [] b->body R (st b (l.length:Int))) (b:β) (h:P l b):ab body (st b 0):=by
 have key:∀k i b,i+k=l.length->P (l.drop i) b->pf body (k+1) (st b (i:Int)):=by
  intro k;induction k with
  |zero=>
   intro i b hi h;have e:i=l.length:=by omega
   subst e;rw[alZ]at h;exact c _ b h
  |succ k ih=>
   intro i b hi h;have a:i<l.length:=by omega
   rw[alF a]at h;have e:l.getD i default=l[i]:=by grind
   refine hs _ b i _ (l.drop (i+1)) a e (amK a) (λhl b' h'=>?_) h
   grind [ac]
 exact⟨l.length+1,key l.length 0 b kQ1 h⟩
variable{body:(Int->Prop)->Int->Prop}
theorem da{α:Type}[Inhabited α](l:List α)(P:List α->Prop)
  (hs:∀R i x r,i<l.length->l.getD i default=x->x∈l->(l.length<=4611686018427387904->P r->R (i64.wrap ((i:Int)+1)))->P (x::r)->body R (i:Int))
  (a:∀R,P []->body R (l.length:Int)) (h:P l):ab body 0:=
 dU l (λ(_:Unit) i=>i) (λr _=>P r) (λR _ i x r h1 h2 h3 h4 h5=>hs R i x r h1 h2 h3 (λhl hp=>h4 hl () hp) h5) (λR _ h=>a R h) () h
theorem cU{α:Type}[Inhabited α](l:List α)(p:α->Bool)(rest:Bool)(KK:Bool->Prop)
  (hs:∀R i x,i<l.length->l.getD i default=x->x∈l->(l.length<=4611686018427387904->p x=true->R (i64.wrap ((i:Int)+1)))->(p x=false->KK false)->body R (i:Int))
  (a:∀R,KK rest->body R (l.length:Int)) (h:KK (l.all p&&rest)):ab body 0:=by
 refine da l (λr=>KK (r.all p&&rest)) (λR i x r h1 h2 h3 h4 h5=>hs R i x h1 h2 h3 (λhl hp=>h4 hl ?_) (λhp=>?_)) (λR h=>a R (by grind)) h
 all_goals grind
theorem NP(p:Lt.Program)(s:a8)(KK:Lt.Class×Bool->Prop)(h:KK (az p s)):Ia p s KK:=by
 unfold Ia;intro hl;refine da p.Classes (λl=>KK (Lt.fnd (·.Name) s l)) (λR i x r hi hx _ ih h=>?_) (λR h=>?_) h
 .grind [Lt.fnd]
 rw[if_neg (by simp)];exact h
theorem TZ(p:Lt.Program)(s:a8)(KK:Lt.Func×Bool->Prop)(h:KK (ll p s)):PT p s KK:=by
 unfold PT;intro hl;refine da p.Funcs (λl=>KK (Lt.fnd (·.Name) s l)) (λR i x r hi hx _ ih h=>?_) (λR h=>?_) h
 .grind [Lt.fnd]
 rw[if_neg (by simp)];exact h
theorem Kn(p:Lt.Program)(s:a8)(KK:Lt.Var×Bool->Prop)(h:KK (fD p s)):C0 p s KK:=by
 unfold C0;intro hl;refine da p.Globals (λl=>KK (Lt.fnd (·.Name) s l)) (λR i x r hi hx _ ih h=>?_) (λR h=>?_) h
 .grind [Lt.fnd]
 rw[if_neg (by simp)];exact h
theorem Km(p:Lt.Program)(s:a8)(KK:Lt.Extern×Bool->Prop)(h:KK (gm p s)):CZ p s KK:=by
 unfold CZ;intro hl;refine da p.Externs (λl=>KK (Lt.fnd (·.Name) s l)) (λR i x r hi hx _ ih h=>?_) (λR h=>?_) h
 .grind [Lt.fnd]
 rw[if_neg (by simp)];exact h
theorem NQ(p:Lt.Program)(c s:a8)(KK:Lt.Var×Bool->Prop)(h:KK (oQ p c s)):Ib p c s KK:=by
 unfold Ib;unfold oQ at h;refine ifk (λhc=>?_) (λhc hl=>?_)
 .have e:∀l:List Lt.Class,(Lt.fnd (·.Name) c l).2=false->(Lt.fnd (·.Name) c l).1=default:=by
   intro l;induction l with
   |nil=>exact λ_=>rfl
   |cons x r ih=>grind [Lt.fnd]
  have a:(az p c).1=default:=e _ (by grind [az])
  rw[a]at h;exact h
 refine da (az p c).1.Fields (λl=>KK (Lt.fnd (·.Name) s l)) (λR i x r hi hx _ ih h=>?_) (λR h=>?_) h
 .grind [Lt.fnd]
 rw[if_neg (by simp)];exact h
theorem Cc(f:Lt.Func)(s:a8)(KK:Lt.Var×Bool->Prop)(h:KK (dN f s)):xg f s KK:=by
 unfold xg;intro J a hl;have b:J ((rX f.Params s).2,(rX f.Params s).1):=a _ (by
  dsimp only;refine ifk (λhc=>?_) (λhc hl=>?_)
  .grind [dN]
  unfold dN at h;rw[if_neg hc]at h;refine da f.Vars (λl=>KK (Lt.fnd (·.Name) s l)) (λR i x r hi hx _ ih h=>?_) (λR h=>?_) h
  .grind [Lt.fnd]
  rw[if_neg (by simp)];exact h)
 refine da f.Params (λl=>J ((Lt.fnd (λx:Lt.Var=>x.Name) s l).2,(Lt.fnd (λx:Lt.Var=>x.Name) s l).1)) (λR i x r hi hx _ ih h=>?_) (λR h=>?_) b
 .grind [Lt.fnd]
 rw[if_neg (by simp)];exact h
theorem acP(f:Lt.Func)(a:Lt.Arg)(KK:a8×Bool->Prop)(h:KK (cw f a)):aeP f a KK:=by grind [aeP,cw]
theorem X5(t:List UInt8)(KK:Bool->Prop)(h:KK (gX t)):VL t KK:=by grind [VL,gX]
theorem TY(a b:a8)(KK:Bool->Prop)(h:KK (bB a b)):PS a b KK:=by
 unfold PS;unfold bB at h;intro J c
 grind
theorem T0(a b:a8)(KK:Bool->Prop)(h:KK (LC a b)):PU a b KK:=by
 unfold PU;unfold LC at h;intro J c
 grind
theorem NT(p:Lt.Program)(t:List UInt8)(KK:Bool->Prop)(h:KK (gN p t)):If p t KK:=by
 unfold If;unfold gN gX at h;intro J a
 grind
theorem dh{α:Type}[Inhabited α](l:List α)(h:i<l.length):l.drop i=l.getD i default::l.drop (i+1):=by grind [alF]
theorem Bj:∀(l:List a8)(v:List Lt.Var),l.length≠v.length->gI l v=false
 |[],[],h=>absurd rfl h
 |_::l,_::v,h=>by unfold gI;rw[Bj l v (by grind),Bool.and_false]
 |[],_::_,_=>rfl
 |_::_,[],_=>rfl
theorem X4(l:List a8)(v:List Lt.Var)(KK:Bool->Prop)(h:KK (gI l v)):VK l v KK:=by
 unfold VK;intro _ _;refine ifk (λhc=>?_) (λhc hl=>?_)
 .grind [Bj]
 have a:l.length=v.length:=by grind
 refine af _ l.length (λi x=>x=(i:Int)/\KK (gI (l.drop i) (v.drop i))) (λR i x hi hx ih=>?_) (λR x hx=>?_) 0 ⟨rfl,h⟩
 .obtain⟨rfl,h⟩:=hx;rw[if_pos (aF hi)];refine⟨ob hi,ob kQ1,?_⟩;rw[Int.toNat_natCast]
  grind [dh,gI,ac]
 obtain⟨rfl,h⟩:=hx;rw[if_neg (by simp)];rw[alZ,a,alZ]at h;exact h
theorem nB(v:β):∀(m:List (a8×β))(k0 k:a8),aw .s (bP .s m k0 v) k=if k0=k then some v else aw .s m k
 |[],k0,k=>by grind [bP,aw,mG]
 |x::l,k0,k=>by
  have ih:=nB v l k0 k
  grind [bP,aw,mG]
theorem vE{α:Type}[Inhabited α]{body:(Int×List (a8×Bool)->Prop)->Int×List (a8×Bool)->Prop}(l:List α)(nm:α->a8)(N:Prop)
  (hs:∀R(i:Nat)m x,i<l.length->l.getD i default=x->((aw (β:=Bool) .s m (nm x)).getD (dflt .bo)=true->N)->((aw (β:=Bool) .s m (nm x)).getD (dflt .bo)=false->l.length<=4611686018427387904->R (i64.wrap ((i:Int)+1),bP .s m (nm x) true))->body R ((i:Int),m))
  (a:∀R m,(l.map nm).Nodup->body R ((l.length:Int),m)) (hN:¬ (l.map nm).Nodup->N):ab body (0,[]):=by
 refine af _ l.length (λi x=>x.1=(i:Int)/\(∀s,(aw (β:=Bool) .s x.2 s).getD (dflt .bo)=decide (s∈(l.take i).map nm))/\((l.take i).map nm).Nodup) (λR i x hi hx ih=>?_) (λR x hx=>?_) _ ⟨rfl,λs=>by rfl,by simp⟩
 .obtain⟨b,m⟩:=x;obtain⟨h1,h2,h3⟩:=hx;dsimp only at h1 h2;subst h1;refine hs R i m _ hi rfl (λhc=>hN λhd=>?_) (λhc hl=>ih _ ⟨ac kQ1,λs=>?_,?_⟩)
  .grind [amH]
  .grind [nB,aA]
  grind [aA]
 grind
theorem Ca(p:Lt.Program)(l:List Lt.Var)(KK:Bool->Prop)(h:KK (cH p l)):xf p l KK:=by
 unfold xf;intro hl;unfold cH at h;refine cU l (λx=>gN p x.Type_) (mJ (l.map (·.Name))) KK (λR i x hi hx _ ih hf=>?_) (λR h=>?_) h
 .grind
 rw[if_neg (by simp)];intro _;refine vE l (·.Name) (KK false) (λR i m x hi hx h1 h2=>?_) (λR m hd=>?_) (λhd=>?_)
 all_goals grind [Int.toNat_natCast,mJ]
theorem NR(p:Lt.Program)(hp:jy p)(KK:Bool->Prop)(h:KK (iv p)):Ic p KK:=by
 unfold Ic;intro J g n;have a:∀b1 b2 b3 j e b6:Bool,iv p=(b1&&b2&&b3&&j&&e&&b6)->(b1=false\/b2=false\/b3=false\/j=false\/e=false\/b6=false)->KK false:=by grind
 have a:=a _ _ _ _ _ _ rfl
 have b:KK false->J true:=λh=>g true (by grind)
 refine vE p.Classes (·.Name) (J true) (λR i m x hi hx h1 h2=>?_) (λR m q=>?_) (λhd=>b (a (.inl (decide_eq_false hd))))
 .grind
 rw[if_neg (by simp)];intro v;refine vE p.Externs (·.Name) (J true) (λR i m x hi hx h1 h2=>?_) (λR m s=>?_) (λhd=>b (a (.inr (.inl (decide_eq_false hd)))))
 .grind
 rw[if_neg (by simp)];intro o;refine vE p.Funcs (·.Name) (J true) (λR i m x hi hx h1 h2=>?_) (λR m k=>?_) (λhd=>b (a (.inr (.inr (.inl (decide_eq_false hd))))))
 .grind
 rw[if_neg (by simp)];refine g _ ?_;dsimp only;refine ifk (λhc=>a (.inr (.inr (.inr (.inl (by grind)))))) (λhc t=>?_);refine cU p.Classes (λc=>cH p c.Fields) (p.Funcs.all λf=>gN p f.Result&&cH p (f.Params++f.Vars)) KK (λR i x hi hx _ ih hf=>?_) (λR h=>?_) ?_
 .grind
 .rw[if_neg (by simp)];intro u;refine cU p.Funcs (λf=>gN p f.Result&&cH p (f.Params++f.Vars)) true KK (λR i x hi hx hm ih hf=>?_) (λR h=>?_) (by grind)
  .simp only[aF hi,Int.toNat_natCast,hx,hi,akW,and_self,true_and,if_true];have hb:=hp x hm
   intro r d;have y:r (x.Params++x.Vars):=d _ (by
    dsimp only;intro w l
    grind)
   grind
  grind
 grind [iv,mJ]
theorem X3(f:Lt.Func)(t:Lt.Term)(KK:Bool->Prop)(h:KK (xF f t)):VJ f t KK:=by
 unfold VJ;unfold xF at h;simp only[decide_eq_true_eq];by_cases h1:t.Kind=1
 .grind
 by_cases h2:t.Kind=2
 .cases a:(cw f t.A).2<;>simpa[h2,a]using h
 by_cases h3:t.Kind=3
 .cases a:(cw f t.A).2<;>simpa[h3,a]using h
 grind
theorem T1(q:Lt.asked)(a d:a8)(KK:Bool->Prop)(h:KK (lA q a d)):PV q a d KK:=by
 unfold PV;intro hl;refine cU q.args (λx=>decide (x=a)) (decide (q.dst=d)) KK (λR i x hi hx _ ih hf=>?_) (λR h=>?_) h
 all_goals grind
theorem NU(q:Lt.asked)(KK:Bool->Prop)(h:KK (BL q)):Ig q KK:=by
 unfold Ig;intro J a;unfold BL at h;have:=a _ h
 have e:∀l:List Lt.Class,(Lt.fnd (·.Name) q.i.Name l).2=true->(Lt.fnd (·.Name) q.i.Name l).1.Name=q.i.Name:=by
  intro l;induction l with
  |nil=>intro h;cases h
  |cons x r ih=>grind [Lt.fnd]
 grind [decide,az]
theorem Ko(q:Lt.asked)(hp:Oz q)(KK:Lt.Var×Bool->Prop)(h:KK (gy q)):C1 q KK:=by
 unfold C1;unfold gy at h;obtain⟨h1,h2⟩:=hp;refine⟨⟨by omega,by omega⟩,ifk (λhc=>?_) (λhc=>⟨⟨by omega,h1⟩,?_⟩)⟩
 .rw[if_neg (by grind)]at h;exact h
 grind
theorem Fo(q:Lt.asked)(hp:OA q)(KK:Bool->Prop)(h:KK (nS q)):yY q KK:=by grind [yY,nS,OA]
end Go.Am
end

section
namespace Go.Am
open Go
open Lt (nmB toB Gd Rc)
def iP(l:List Bool):Nat:=(l.filter λb=>!b).length
theorem kS:∀(l:List Bool)(k:Nat),l.getD k true=false->iP (l.set k true)+1=iP l
 |[],k,h=>by grind
 |b::r,0,h=>by grind [iP]
 |b::r,k+1,h=>by
  have:=kS r k (by grind)
  grind [iP]
theorem mh{α:Type}{body:(α->Prop)->α->Prop}(P:α->Prop)(a:α->Nat)(hs:∀R x,P x->(∀y,P y->a y<a x->R y)->body R x)(x:α)(h:P x):ab body x:=by
 have key:∀n x,P x->a x<n->pf body n x:=by
  intro n;induction n with
  |zero=>omega
  |succ n ih=>intro x hx hm;exact hs _ x hx (λy hy b=>ih y hy kQ1)
 exact⟨_,key (a x+1) x h kQ1⟩
theorem cF{n:Int}(h1:-9223372036854775808<=n)(h2:n < 9223372036854775808):i64.wrap n=n:=by grind [IntKind.wrap,IntKind.signed,IntKind.bits]
variable{l:List Bool}
theorem rL{k:Nat}(h:k<l.length)(b d:Bool):(l.set k b).getD k d=b:=by grind
theorem dT{i:Nat}(h:i<l.length)(k:Nat):(l.set i true).getD k false=(decide (k=i)||l.getD k false):=by grind
structure CI (B:List Lt.Block) (out:List Bool) (todo:List Int) (j:Nat):Prop where
 ol:out.length=B.length
 td:∀k∈todo,0<=k/\k < (B.length:Int)/\out.getD k.toNat false=true
 o0:out.getD 0 false=true
 sd:∀k,out.getD k false=true->Rc B k
 cl:∀i,i<B.length->i≠j->out.getD i false=true->(i:Int)∈todo\/∀k,k<B.length->nmB B k∈toB B i->out.getD k false=true
theorem CI.mark{B:List Lt.Block}{out:List Bool}{todo:List Int}{j t:Nat}(h:CI B out todo j)(ht:t<B.length)(hr:Rc B t):CI B (out.set t true) (todo++[(t:Int)]) j:=by
 have hl:t<out.length:=by grind [ol]
 refine⟨by grind [ol],λk hk=>?_,?_,λk hk=>?_,λi hi hij hm=>?_⟩
 .rw[dT hl];rcases ak3.1 hk with hk|hk
  .obtain⟨a,b,c⟩:=h.td k hk
   grind
  grind
 all_goals grind [dT,o0,sd,cl]
theorem adU{m:List (a8×Bool)}{K:List a8}(h:∀s,(aw (β:=Bool) .s m s).getD (dflt .bo)=decide (s∈K))(x:a8):∀s,(aw (β:=Bool) .s (bP .s m x true) s).getD (dflt .bo)=decide (s∈K++[x]):=λs=>by grind [nB]
theorem Kj(f:Lt.Func)(hp:YL f)(KK:Bool->Prop)(h:KK (dF f)):CW f KK:=by
 unfold CW;obtain⟨hn,G⟩:=hp;have V:¬ Gd f.Blocks->KK false:=λhg=>by grind [dF,As]
 have kT:Gd f.Blocks->KK true:=λhg=>by grind [dF,qa]
 dsimp only;intro _;refine ifk (λe=>V λg=>by grind [Gd.ps]) (λaj=>?_);have E:0<f.Blocks.length:=by grind
 intro _ _;refine af _ f.Blocks.length (λi v=>v.1=(i:Int)/\(∀k,k<i->aw (β:=Int) .s v.2 (nmB f.Blocks k)=some (k:Int))/\(∀s,(∀k,k<i->nmB f.Blocks k≠s)->aw (β:=Int) .s v.2 s=none)/\∀a b,a<i->b<i->nmB f.Blocks a=nmB f.Blocks b->a=b) (λR i v hi⟨e,h1,h2,h3⟩ih=>?_) (λR v⟨e,h1,h2,ai⟩=>?_) _ ⟨rfl,λk hk=>by omega,λ_ _=>rfl,λa b ha=>by omega⟩
 .obtain⟨v1,L⟩:=v;dsimp only at e h1 h2|-;subst e;rw[if_pos (aF hi)];refine⟨ob hi,?_⟩;rw[Int.toNat_natCast];by_cases hx:∃k,k<i/\nmB f.Blocks k=nmB f.Blocks i
  .obtain⟨k,hk,e⟩:=hx;rw[if_pos]
   .exact V λg=>by grind [Gd.nd]
   grind
  have hx:∀k,k<i->nmB f.Blocks k≠nmB f.Blocks i:=λk hk e=>hx ⟨k,hk,e⟩
  have hno:aw (β:=Int) .s L (nmB f.Blocks i)=none:=h2 _ hx
  rw[if_neg (by grind)];refine ih _ ⟨ac kQ1,λk hk=>?_,λs hs=>?_,λa b ha hb e=>?_⟩
  .grind [nB]
  .dsimp only;rw[nB,if_neg (hs i kQ1)]
   grind
  grind
 obtain⟨v1,L⟩:=v;dsimp only at e h1 h2|-;subst e;rw[if_neg (by simp)];intro _;have hL:∀s t,aw (β:=Int) .s L s=some t->∃k,k<f.Blocks.length/\nmB f.Blocks k=s/\t=(k:Int):=λs t e=>by grind
 refine af _ f.Blocks.length (λi v=>v=(i:Int)/\∀a,a<i->(toB f.Blocks a).Nodup/\∀s∈toB f.Blocks a,∃k,k<f.Blocks.length/\k≠0/\nmB f.Blocks k=s) (λR i v hi⟨e,p⟩ih=>?_) (λR v⟨e,p⟩=>?_) _ ⟨rfl,λa ha=>by omega⟩
 .subst e;rw[if_pos (aF hi)];refine⟨ob hi,λ_=>?_⟩;dsimp +instances only [Int.toNat_natCast]
  have A:=G _ (au _ hi)
  have ab:Gd f.Blocks->(f.Blocks.getD i default).End.To.Nodup:=λg=>g.tn i hi
  have gtr:Gd f.Blocks->∀s∈(f.Blocks.getD i default).End.To,∃k,k<f.Blocks.length/\k≠0/\nmB f.Blocks k=s:=λg=>g.tr i hi
  have O:∀T:List a8,T=(f.Blocks.getD i default).End.To->(T.Nodup/\∀s∈T,∃k,k<f.Blocks.length/\k≠0/\nmB f.Blocks k=s)->R (i64.wrap ((i:Int)+1)):=λT e hT=>ih _ ⟨ac kQ1,λa ha=>by
   rcases al8 a i with h'|h'
   all_goals grind⟩
  generalize(f.Blocks.getD i default).End.To=T at ab gtr A O;refine af _ T.length (λk v=>v.1=(k:Int)/\(∀s,(aw (β:=Bool) .s v.2 s).getD (dflt .bo)=decide (s∈T.take k))/\(T.take k).Nodup/\∀s∈T.take k,∃k,k<f.Blocks.length/\k≠0/\nmB f.Blocks k=s) (λR5 k v hk⟨e,hm,hd,hq⟩Z=>?_) (λR5 v⟨e,hm,hd,hq⟩=>?_) _ ⟨rfl,λs=>by rfl,by simp,λs hs=>by grind⟩
  .obtain⟨v1,m⟩:=v;dsimp only at e hm|-;subst e;rw[if_pos (aF hk)];dsimp +instances only [Int.toNat_natCast]
   refine⟨ob hk,λJ W=>?_⟩;have eg:T.getD k default=T[k]:=by grind
   have d:T.getD k default∈T:=by grind
   have jF:¬ Gd f.Blocks->J true:=λhg=>W true (by grind)
   refine ifk (λhc=>jF λg=>?_) (λhc=>ifk (λhz=>jF λg=>?_) (λhz=>?_))
   .obtain⟨t,H,t2,t3⟩:=gtr g _ d
    grind
   .obtain⟨t,H,t2,t3⟩:=gtr g _ d
    grind
   have D:∃t,aw (β:=Int) .s L (T.getD k default)=some t:=by
    cases hl:aw (β:=Int) .s L (T.getD k default)with
    |_=>grind
   obtain⟨t,ht⟩:=D;obtain⟨q,q1,q2,rfl⟩:=hL _ _ ht;refine W _ ?_;dsimp only;rw[hm];refine ifk (λB=>V λg=>?_) (λB=>Z _ ⟨ac kQ1,?_,?_,?_⟩)
   .grind [amH,dh]
   .rw[aA T hk];exact adU hm _
   .have B:T.getD k default ∉ T.take k:=λh'=>B (decide_eq_true h')
    rw[aA T hk,List.nodup_append]
    grind
   intro s hs;rw[aA T hk]at hs;rcases ak3.1 hs with hs|hs
   .exact hq s hs
   grind
  grind
 subst e;rw[if_neg (by simp),if_neg (by simp)];have gd:(∀k,k<f.Blocks.length->Rc f.Blocks k)->Gd f.Blocks:=λam=>⟨E,ai,λi hi=>(p i hi).1,λi hi=>(p i hi).2,am⟩
 have r:∀i,i<f.Blocks.length->∀s∈toB f.Blocks i,∃k,k<f.Blocks.length/\k≠0/\nmB f.Blocks k=s:=λi hi=>(p i hi).2
 have hz:(f.Blocks.length:Int).toNat=f.Blocks.length:=Int.toNat_natCast _
 intro _;rw[hz];have hr:(List.replicate f.Blocks.length (dflt .bo):List Bool).length=f.Blocks.length:=amI
 refine⟨⟨by omega,by omega,by omega⟩,⟨by omega,by omega⟩,by omega,?_⟩;have aq:iP ((List.replicate f.Blocks.length (dflt .bo):List Bool).set 0 true)<=f.Blocks.length:=by grind [iP]
 have S:∀out,CI f.Blocks out [] f.Blocks.length->∀k,Rc f.Blocks k->out.getD k false=true:=λout c k ah=>by
  induction ah with
  |first _=>exact c.o0
  |next i k _ hi hk hm ih=>
   rcases c.cl i hi kQ1 ih with h'|h'
   all_goals grind
 have n:CI f.Blocks ((List.replicate f.Blocks.length (dflt .bo):List Bool).set 0 true) [0] f.Blocks.length:=by
  have ap:∀i,i≠0->((List.replicate f.Blocks.length (dflt .bo):List Bool).set 0 true).getD i false=true->False:=λi e hm=>by
   rw[List.getD,am0 (λe'=>e e'.symm),List.getElem?_replicate]at hm;split at hm
   .exact absurd hm (by show ¬ (default:Bool)=true;decide)
   grind
  refine⟨by grind,λk hk=>?_,rL kQ1 _ _,λk hk=>?_,λi hi aj hm=>?_⟩
  .obtain rfl:=ak6.1 hk
   grind
  .by_cases e:k=0
   .subst e;exact .first E
   grind
  grind
 refine mh (λv=>CI f.Blocks v.1 v.2 f.Blocks.length/\2*iP v.1+v.2.length<=3000000) (λv=>2*iP v.1+v.2.length) (λR9 v⟨c,ad⟩I=>?_) _ ⟨n,by grind⟩;obtain⟨out,todo⟩:=v;dsimp only at c ad I|-;intro av;refine ifk (λP=>?_) (λan=>?_)
 rotate_left
 .have ag:todo=[]:=al5 (by grind)
  subst ag;have all:=S out c
  intro _;refine af _ out.length (λi v=>v=(i:Int)/\∀a,a<i->out.getD a false=true) (λR i v hi⟨e,ha⟩ih=>?_) (λR v⟨e,ha⟩=>?_) _ ⟨rfl,λa ha=>by omega⟩
  .subst e;rw[if_pos (aF hi)];refine⟨⟨by omega,by omega⟩,?_⟩;rw[Int.toNat_natCast];have aa:i<f.Blocks.length:=by grind [CI.ol]
   refine ifk (λhc=>V λg=>?_) (λhc=>ih _ ⟨ac kQ1,λa ax=>?_⟩)
   .have h5:=all i (g.re i aa)
    grind
   grind
  subst e;rw[if_neg (by simp)];exact kT (gd λk hk=>c.sd k (ha k (by grind [CI.ol])))
 have P:0<todo.length:=by grind
 have hw:i64.wrap ((todo.length:Int) - 1)=((todo.length - 1:Nat):Int):=by grind [cF]
 rw[hw];dsimp +instances only [Int.toNat_natCast]
 generalize hmm:todo.length - 1=m;have l:todo=todo.take m++[todo.getD m default]:=by
  have:=aA todo (i:=m) kQ1
  grind
 have F:todo.getD m default∈todo:=au _ kQ1
 generalize todo.getD m default=j at l F;obtain⟨j1,j2,j3⟩:=c.td j F;intro J W _;have al:J (f.Blocks.getD j.toNat default):=W _ ?_
 .have N:(0<=j/\j.toNat<f.Blocks.length)/\J (f.Blocks.getD j.toNat default):=⟨⟨j1,by omega⟩,al⟩
  exact⟨⟨by omega,by omega⟩,⟨N,N⟩,⟨N,N⟩,N⟩
 dsimp only;intro _;refine⟨⟨by omega,by omega⟩,λ_=>?_⟩;have z:j.toNat<f.Blocks.length:=by omega
 have r:∀s∈(f.Blocks.getD j.toNat default).End.To,∃k,k<f.Blocks.length/\k≠0/\nmB f.Blocks k=s:=r _ z
 have w:∀k,nmB f.Blocks k∈toB f.Blocks j.toNat->nmB f.Blocks k∈(f.Blocks.getD j.toNat default).End.To:=λk h=>h
 have x:∀k,k<f.Blocks.length->nmB f.Blocks k∈(f.Blocks.getD j.toNat default).End.To->Rc f.Blocks k:=λk hk hm=>.next j.toNat k (c.sd _ j3) z hk hm
 have A:=G _ (au _ z)
 have ao:(todo.take m).length+1=todo.length:=by rw[amL];omega
 have M:CI f.Blocks out (todo.take m) j.toNat:=by
  refine⟨c.ol,λk hk=>c.td k (amE hk),c.o0,c.sd,λi hi az hm=>?_⟩;rcases c.cl i hi kQ1 hm with h'|h'
  .rw[l]at h';rcases ak3.1 h' with h'|h'
   .grind
   have:=ak6.1 h'
   omega
  grind
 generalize(f.Blocks.getD j.toNat default).End.To=T at r w A x;refine af _ T.length (λk v=>v.2.2=(k:Int)/\CI f.Blocks v.1 v.2.1 j.toNat/\(∀q,q<k->∀u,u<f.Blocks.length->nmB f.Blocks u=T.getD q default->v.1.getD u false=true)/\2*iP v.1+v.2.1.length+1<=2*iP out+todo.length) (λX k v hk⟨e,hc,hq,C⟩U=>?_) (λX v⟨e,hc,hq,C⟩=>?_) _ ⟨rfl,M,λq hq=>by omega,by grind⟩
 .obtain⟨o3,t3,v3⟩:=v;dsimp only at e hc hq C|-;subst e;rw[if_pos (aF hk)];dsimp +instances only [Int.toNat_natCast]
  obtain⟨t,H,t2,t4⟩:=r (T.getD k default) (au _ hk);have el:=h1 t H
  rw[t4]at el;rw[el];intro ak K;have ol:=hc.ol
  refine⟨ob hk,⟨by simp,by grind⟩,?_⟩;simp only[alK,Int.toNat_natCast];have y:t<o3.length:=by omega
  have on:∀o' t',CI f.Blocks o' t' j.toNat->o'.getD t false=true->(∀u,o3.getD u false=true->o'.getD u false=true)->2*iP o'+t'.length<=2*iP o3+t3.length->ak (o',t'):=λo' t' a1 a2 a3 a4=>by
   refine K _ (U _ ⟨ac kQ1,a1,λq ar u hu e=>?_,by grind⟩);rcases al8 q k with h'|h'
   all_goals grind
  refine ifk (λhf=>?_) (λhf=>?_)
  .have hf0:o3.getD t true=false:=by
    rw[List.getD,akQ y]at hf|-
    grind
   have ay:=kS o3 t hf0
   refine⟨⟨by omega,by omega⟩,y,⟨by grind [ak7],by grind [ak7]⟩,on _ _ (hc.mark H (x t H (by grind [au]))) ?_ (λu hu=>?_) ?_⟩
   .grind [dT]
   .grind [dT]
   grind [akY]
  have Y:o3.getD t default=true:=by grind
  exact on _ _ hc Y (λ_ h=>h) (akR _)
 obtain⟨o3,t3,v3⟩:=v;dsimp only at e hc hq C|-;subst e;rw[if_neg (by simp)];refine I _ ⟨⟨hc.ol,hc.td,hc.o0,hc.sd,λi hi _ hm=>?_⟩,by grind⟩ (by grind);by_cases e:i=j.toNat
 .subst e;refine .inr λk hk d=>?_
  obtain⟨q,Q,ae⟩:=alD.1 (w k d);exact hq q Q k hk (by rw[<- ae,List.getD,akQ Q];rfl)
 exact hc.cl i hi e hm
end Go.Am
end

section
namespace Go.Am
open Go
theorem Kl(f:Lt.Func)(s:a8)(KK:Int×Bool->Prop)(h:KK (aK f s)):CY f s KK:=by
 unfold CY;intro hl;unfold aK at h;refine af _ f.Blocks.length (λi x=>x=(i:Int)/\KK (je s (f.Blocks.drop i) (i:Int))) (λR i x hi hx ih=>?_) (λR x hx=>?_) 0 ⟨rfl,h⟩
 .obtain⟨rfl,h⟩:=hx;rw[dh _ hi]at h
  grind [je,ac]
 obtain⟨rfl,h⟩:=hx;rw[if_neg (by simp)];rw[alZ]at h;exact h
theorem TA(l:List Int)(v:Int)(KK:Int->Prop)(h:KK (JP l v)):Py l v KK:=by
 unfold Py;intro hl;unfold JP at h;refine af _ l.length (λi x=>x=(i:Int)/\KK (B4 v (l.drop i) (i:Int))) (λR i x hi hx ih=>?_) (λR x hx=>?_) 0 ⟨rfl,h⟩
 .obtain⟨rfl,h⟩:=hx;rw[dh _ hi]at h
  grind [B4,ac]
 obtain⟨rfl,h⟩:=hx;rw[if_neg (by simp)];rw[alZ]at h;exact h
theorem TE(l:List a8)(v:a8)(KK:Int->Prop)(h:KK (JQ l v)):Pz l v KK:=by
 unfold Pz;intro hl;unfold JQ at h;refine af _ l.length (λi x=>x=(i:Int)/\KK (B4 v (l.drop i) (i:Int))) (λR i x hi hx ih=>?_) (λR x hx=>?_) 0 ⟨rfl,h⟩
 .obtain⟨rfl,h⟩:=hx;rw[dh _ hi]at h
  grind [B4,ac]
 obtain⟨rfl,h⟩:=hx;rw[if_neg (by simp)];rw[alZ]at h;exact h
theorem Nk(l:List Int)(v:Int)(KK:Bool->Prop)(h:KK (Al l v)):Vv l v KK:=h
theorem Nl(l:List a8)(v:a8)(KK:Bool->Prop)(h:KK (wo l v)):Vw l v KK:=h
variable{α:Type}
theorem Au[DecidableEq α](v:α):∀(l:List α)(i:Int),0<=i->(0<=B4 v l i ↔ v∈l)
 |[],i,h=>by simp[B4]
 |x::r,i,h=>by
  unfold B4;by_cases e:v=x
  .grind
  rw[if_neg e,Au v r (i+1) kQ1];simp[e]
theorem Tc(l:List Int)(v:Int):Al l v=decide (v∈l):=by grind [Al,JP,Au]
theorem Td(l:List a8)(v:a8):wo l v=decide (v∈l):=by grind [wo,JQ,Au]
theorem gc(l:List α){i:Nat}(h:i<l.length)(k:Nat)(x d:α):(l.set i x).getD k d=if k=i then x else l.getD k d:=by grind
theorem zX(d:α){l m:List α}(h:l.length=m.length)(h2:∀k,k<l.length->l.getD k d=m.getD k d):l=m:=by grind [List.ext_getElem]
theorem Yh{β:Type}[Inhabited α](g:α->β)(l:List α){k:Nat}(h:k<l.length)(d:β):(l.map g).getD k d=g (l.getD k default):=by grind
theorem vg(n k:Nat)(d:α):(List.replicate n d).getD k d=d:=by grind
theorem Cg{β:Type}(g:α->Option β)(l:List α):(l.filterMap g).length<=l.length:=List.length_filterMap_le _ _
theorem XR(f:Lt.Func)(hp:uZ f)(KK:List (List Int)->Prop)(h:KK (ju f)):Vu f KK:=by
 unfold Vu;obtain⟨hn,c⟩:=hp;dsimp only;have n:(f.Blocks.length:Int).toNat=f.Blocks.length:=Int.toNat_natCast _
 intro _;rw[n];refine⟨⟨by omega,by omega,by omega⟩,λ_=>?_⟩;refine af _ f.Blocks.length (λi v=>v.2=(i:Int)/\v.1.length=f.Blocks.length/\(∀k,i<=k->v.1.getD k []=[])/\∀k,k<i->v.1.getD k []=(Lt.toB f.Blocks k).filterMap (oP f)) (λR i v hi⟨e,h1,h2,h3⟩ih=>?_) (λR v⟨e,h1,h2,h3⟩=>?_) _ ⟨rfl,by simp,λk _=>vg _ _ _,λk hk=>by omega⟩
 .obtain⟨out,m⟩:=v;dsimp only at e h1 h2 h3|-;subst e;rw[if_pos (aF hi)];refine⟨ob hi,λ_=>?_⟩;dsimp +instances only [Int.toNat_natCast]
  have b:=c _ (au _ hi)
  have a:∀T:List a8,T=Lt.toB f.Blocks i->∀o:List (List Int),o.length=f.Blocks.length->(∀k,k≠i->o.getD k []=out.getD k [])->o.getD i []=T.filterMap (oP f)->R (o,i64.wrap ((i:Int)+1)):=λT e o o1 o2 o3=>ih _ ⟨ac kQ1,o1,λk hk=>by grind,λk hk=>by grind⟩
  have b:(f.Blocks.getD i default).End.To.length<=1000000:=b
  have a:=a (f.Blocks.getD i default).End.To rfl
  generalize(f.Blocks.getD i default).End.To=T at b a;refine af _ T.length (λj v=>v.2=(j:Int)/\v.1.length=f.Blocks.length/\(∀k,k≠i->v.1.getD k []=out.getD k [])/\v.1.getD i []=(T.take j).filterMap (oP f)) (λl j v hj⟨e,g1,g2,g3⟩d=>?_) (λl v⟨e,g1,g2,g3⟩=>?_) _ ⟨rfl,h1,λ_ _=>rfl,by grind⟩
  .obtain⟨o,v4⟩:=v;dsimp only at e g1 g2 g3|-;subst e;rw[if_pos (aF hj)];intro J p;refine⟨ob hj,?_⟩;dsimp +instances only [Int.toNat_natCast]
   have g:(o.getD i []).length<=1000000:=by grind
   grind [ac,oP,aA]
  grind
 obtain⟨out,m⟩:=v;dsimp only at e h1 h2 h3|-;subst e;rw[if_neg (by simp)];have:out=ju f:=zX [] (by grind [ju]) λk hk=>by grind [ju]
 grind
theorem Y8(p:Nat->Bool)(i:Nat):(List.range (i+1)).filter p=(List.range i).filter p++(if p i=true then [i]else []):=by grind [List.range_succ]
theorem JY(g:List (List Int))(hp:u5 g)(KK:List (List Int)->Prop)(h:KK (ij g)):CM g KK:=by
 unfold CM;obtain⟨hn,f⟩:=hp;dsimp only;have w:(g.length:Int).toNat=g.length:=Int.toNat_natCast _
 intro _;rw[w];refine⟨⟨by omega,by omega,by omega⟩,λ_=>?_⟩
 let pr:Nat->Nat->List Int:=λi k=>((List.range i).filter λi=>decide ((k:Int)∈g.getD i [])).map λ(i:Nat)=>(i:Int)
 have pl:∀i k,(pr i k).length<=i:=λi k=>by grind
 have s:∀i k,(i:Int) ∉ pr i k:=λi k hm=>by grind
 have ps:∀i k,pr (i+1) k=pr i k++(if(k:Int)∈g.getD i []then [(i:Int)]else []):=λi k=>by grind [Y8]
 refine af _ g.length (λi v=>v.2=(i:Int)/\v.1.length=g.length/\∀k,k<g.length->v.1.getD k []=pr i k) (λR i v hi⟨e,h1,h2⟩ih=>?_) (λR v⟨e,h1,h2⟩=>?_) _ ⟨rfl,by simp,λk _=>vg _ _ _⟩
 .obtain⟨out,u⟩:=v;dsimp only at e h1 h2|-;subst e;rw[if_pos (aF hi)];refine⟨ob hi,λ_=>?_⟩;dsimp +instances only [Int.toNat_natCast]
  have m:=f _ (by grind:g.getD i []∈g)
  have a:∀T:List Int,T=g.getD i []->∀o:List (List Int),o.length=g.length->(∀k,k<g.length->o.getD k []=pr i k++(if(k:Int)∈T then [(i:Int)]else []))->R (o,i64.wrap ((i:Int)+1)):=λT e o o1 o2=>ih _ ⟨ac kQ1,o1,λk hk=>by grind⟩
  have a:=a (g.getD i []) rfl
  generalize g.getD i []=T at m a;refine af _ T.length (λj v=>v.2=(j:Int)/\v.1.length=g.length/\∀k,k<g.length->v.1.getD k []=pr i k++(if(k:Int)∈T.take j then [(i:Int)]else [])) (λr j v hj⟨e,g1,g2⟩c=>?_) (λr v⟨e,g1,g2⟩=>?_) _ ⟨rfl,h1,λk hk=>by grind⟩
  .obtain⟨o,v4⟩:=v;dsimp only at e g1 g2|-;subst e;rw[if_pos (aF hj)];intro J q;refine⟨ob hj,λy b=>?_⟩;dsimp +instances only [Int.toNat_natCast]at b|-
   have l:=aA T hj
   generalize T.getD j default=z at b l|-;have stay:¬ (0<=z/\z < (g.length:Int))\/z∈T.take j->J o:=λx=>q _ (c _ ⟨ac kQ1,g1,λk hk=>by
    dsimp only;rw[g2 k hk,l];have:(k:Int)∈T.take j++[z] ↔ (k:Int)∈T.take j:=by
     rw[ak3,ak6]
     grind
    simp only[this]⟩)
   refine ifk (λh0=>ifk (λh1'=>?_) (λh1'=>?_)) (λh0=>?_)
   .have h0:=of_decide_eq_true h0
    have h1':=of_decide_eq_true h1'
    have d:z.toNat<o.length:=by omega
    have t:((z.toNat:Nat):Int)=z:=by omega
    have p:=g2 z.toNat kQ1
    rw[t]at p;have hb:(o.getD z.toNat []).length<=1000001:=by
     rw[p,ak1];have:=pl i z.toNat
     split<;>simp only[akY,ak7]<;>omega
    have n:Al (o.getD z.toNat []) (i:Int)=decide (z∈T.take j):=by
     rw[Tc,decide_eq_decide,p,ak3];have:=s i z.toNat
     by_cases e:z∈T.take j
     all_goals grind
    refine⟨⟨by omega,by omega⟩,trivial,b _ ?_⟩;rw[n];refine ifk (λhc=>?_) (λhc=>stay (.inr (by grind)));have hc:z ∉ T.take j:=by grind
    refine⟨⟨by omega,by omega⟩,⟨by grind,by grind⟩,⟨by omega,by omega⟩,d,rfl,q _ (c _ ⟨ac kQ1,by grind,λk hk=>?_⟩)⟩;dsimp only;rw[gc _ d,l];by_cases e:k=z.toNat
    .grind
    rw[if_neg e,g2 k hk];have:(k:Int)∈T.take j++[z] ↔ (k:Int)∈T.take j:=by rw[ak3,ak6];exact⟨λh=>h.elim id λe'=>by omega,.inl⟩
    simp only[this]
   all_goals grind
  grind
 obtain⟨out,u⟩:=v;dsimp only at e h1 h2|-;subst e;rw[if_neg (by simp)];have:out=ij g:=zX [] (by grind [ij]) λk hk=>by rw[h2 k kQ1];unfold ij;rw[Yh _ _ (by grind),List.getD,List.getElem?_range kQ1];rfl
 grind
abbrev VM:=List (a8×Bool)
def VMo(m:VM):Prop:=(m.map (·.1)).Nodup/\∀x∈m,x.2=true
theorem nh(k:a8)(v:Bool):∀m:VM,(bP .s m k v).map (·.1)=if k∈m.map (·.1)then m.map (·.1)else m.map (·.1)++[k]
 |[]=>by rfl
 |x::l=>by
  have ih:=nh k v l
  grind [bP,mG]
theorem JK(k:a8):∀m:VM,(∀x∈m,x.2=true)->∀x∈bP .s m k true,x.2=true
 |[],h,x,hx=>by grind [bP]
 |y::l,h,x,hx=>by
  simp only[bP,mG]at hx;by_cases e:y.1=k
  .grind
  rw[decide_eq_false e]at hx;rcases akX.1 hx with hx|hx
  .grind
  exact JK k l (λz a=>h z (alJ _ a)) x hx
theorem VMo.ins{m:VM}(h:VMo m)(k:a8):VMo (bP .s m k true):=by
 refine⟨?_,JK k m h.2⟩;rw[nh];split
 .exact h.1
 rename_i hk;rw[List.nodup_append];exact⟨h.1,by simp,λa ha b hb e=>by grind⟩
theorem VMo.nil:VMo []:=⟨List.nodup_nil,λx h=>by cases h⟩
theorem KE:∀{m:VM},(∀x∈m,x.2=true)->∀v,(aw (β:=Bool) .s m v).getD false=decide (v∈m.map (·.1))
 |[],_,v=>by rfl
 |x::l,h,v=>by
  simp only[aw,mG];by_cases e:x.1=v
  .grind
  rw[decide_eq_false e];show(aw (β:=Bool) .s l v).getD false=_
  rw[KE (λz a=>h z (alJ _ a)) v,decide_eq_decide]
  grind
def okU(U:List a8)(s:Lt.Vs):Prop:=∃m,s=some m/\VMo m/\∀v∈m.map (·.1),v∈U
theorem kc{m:VM}(h:VMo m)(v:a8):bj (some m) v=decide (v∈m.map (·.1)):=KE h.2 v
variable{s:Lt.Vs}
theorem okU.len{U:List a8}(h:okU U s):(s.getD []).length<=U.length:=by
 obtain⟨m,rfl,h1,h2⟩:=h;have:=List.Nodup.length_le_of_subset h1.1 (l₂:=U) h2
 grind
theorem okU.isS{U:List a8}(h:okU U s):s.isSome=true:=by obtain⟨m,rfl,_⟩:=h;rfl
theorem okU.nil(U:List a8):okU U (some []):=⟨[],rfl,.nil,λv h=>by cases h⟩
theorem okU.le{U:List a8}{t:Lt.Vs}(hs:okU U s)(ht:okU U t)(h:∀v,bj s v=true->bj t v=true):(s.getD []).length<=(t.getD []).length:=by
 obtain⟨m,rfl,h1,_⟩:=hs;obtain⟨n,rfl,g1,_⟩:=ht;have:=List.Nodup.length_le_of_subset h1.1 (l₂:=n.map (·.1)) λv hv=>by
  have:=h v (by grind [kc])
  grind [kc]
 grind
theorem okU.same{U:List a8}{t:Lt.Vs}(hs:okU U s)(ht:okU U t)(h:∀v,bj s v=true->bj t v=true)(e:(s.getD []).length=(t.getD []).length):∀v,bj t v=true->bj s v=true:=by
 obtain⟨m,rfl,h1,_⟩:=hs;obtain⟨n,rfl,g1,_⟩:=ht;intro v hv;rw[kc g1]at hv;have hv:=of_decide_eq_true hv
 rw[kc h1];refine decide_eq_true (Classical.byContradiction λhn=>?_);have:=List.Nodup.length_le_of_subset (l₁:=v::m.map (·.1)) (alG.2 ⟨hn,h1.1⟩) (l₂:=n.map (·.1)) λu hu=>by
  rcases akX.1 hu with rfl|hu
  .exact hv
  have:=h u (by grind [kc])
  grind [kc]
 grind
theorem JC(m:VM)(k v:a8):bj (some (bP .s m k true)) v=(decide (k=v)||bj (some m) v):=by grind [bj,nB]
theorem Js:∀(l:List a8)(m:VM)v,bj (some (l.foldl (λm v=>bP .s m v true) m)) v=(bj (some m) v||decide (v∈l))
 |[],m,v=>by simp
 |k::r,m,v=>by
  rw[anC,Js r,JC]
  grind
theorem yy(s:Lt.Vs)(l:List a8)(v:a8):bj (Cq s l) v=(bj s v||decide (v∈l)):=by unfold Cq;rw[Js];rfl
theorem Qu{U:List a8}:∀(l:List a8)(m:VM),okU U (some m)->(∀v∈l,v∈U)->okU U (some (l.foldl (λm v=>bP .s m v true) m))
 |[],m,h,_=>h
 |k::r,m,h,hl=>by
  rw[anC];refine Qu r _ ?_ λv hv=>hl v (alJ _ hv)
  obtain⟨m',e,h1,h2⟩:=h;obtain rfl:=Option.some.inj e;refine⟨_,rfl,h1.ins k,λv hv=>?_⟩
  grind [nh]
theorem okU.put{U:List a8}(h:okU U s){l:List a8}(hl:∀v∈l,v∈U):okU U (Cq s l):=by obtain⟨m,rfl,h1,h2⟩:=h;exact Qu l m ⟨m,rfl,h1,h2⟩ hl
theorem Bg[Inhabited α]{body:(Int×VM->Prop)->Int×VM->Prop}(l:List α)(nm:α->List a8)(m:VM)(KK:Lt.Vs->Prop)
  (hs:∀R(i:Nat)m,i<l.length->(l.length<=4611686018427387904->R (i64.wrap ((i:Int)+1),(nm (l.getD i default)).foldl (λm v=>bP .s m v true) m))->body R ((i:Int),m))
  (a:∀R m,KK (some m)->body R ((l.length:Int),m)) (h:KK (Cq (some m) (l.flatMap nm))):ab body (0,m):=by
 refine dU l (λm i=>(i,m)) (λr m=>KK (Cq (some m) (r.flatMap nm))) (λR m i x r hi hx _ ih h=>hs R i m hi λhl=>ih hl _ ?_) (λR m h=>a R m h) m h
 grind [Cq]
theorem Jr(g:α->a8)(l:List α):l.flatMap (λx=>[g x])=l.map g:=by induction l<;>grind
theorem Fb(f:Lt.Func)(KK:Lt.Vs->Prop)(h:KK (II f)):yQ f KK:=by
 unfold yQ;intro hl;refine Bg f.Params (λx=>[x.Name]) [] KK (λR i m hi ih=>?_) (λR m h=>?_) (by rw[Jr];exact h)
 all_goals grind
theorem Nh(s:Lt.Vs)(b:Lt.Block)(hp:xE s b)(KK:Lt.Vs->Prop)(h:KK (my s b)):GG s b KK:=by
 unfold GG;refine⟨hp,λhl=>?_⟩;have es:some (s.getD [])=s:=by unfold xE at hp;cases s<;>grind
 refine Bg b.Phis (λx=>[x.Dst]) (s.getD []) KK (λR i m hi ih=>?_) (λR m h=>?_) (by rw[Jr,es];exact h)
 all_goals grind
theorem abZ(g:α->a8)(l:List α):l.flatMap (λx=>if g x=[]then []else [g x])=(l.map g).filter λd=>!decide (d=[]):=by induction l<;>grind
theorem Ng(s:Lt.Vs)(b:Lt.Block)(hp:xE s b)(KK:Lt.Vs->Prop)(h:KK (iL s b)):GF s b KK:=by
 unfold GF;refine⟨hp,λhl=>?_⟩;have es:some (s.getD [])=s:=by unfold xE at hp;cases s<;>grind
 refine Bg b.Code (λx=>if x.Dst=[]then []else [x.Dst]) (s.getD []) KK (λR i m hi ih=>?_) (λR m h=>?_) (by rw[abZ,es];exact h)
 .rw[if_pos (aF hi)];intro J a
  grind
 grind
theorem uO:∀(l:List α)(i:Nat)(hi:i<l.length)(d:α)x,x∈l ↔ x=l.getD i d\/x∈l.eraseIdx i
 |[],i,hi,d,x=>by grind
 |y::l,0,hi,d,x=>by simp
 |y::l,i+1,hi,d,x=>by
  have:=uO l i (by grind) d x
  grind
theorem Ni(a b:Lt.Vs)(hp:QV a b)(KK:Lt.Vs->Prop)(h:∀y,K4 a b y->KK y):GH a b KK:=by
 unfold GH;refine ifk (λha=>h b ⟨λ_=>rfl,λhn=>absurd (by simp_all) hn⟩) (λha=>?_);obtain⟨A,rfl⟩:∃A,a=some A:=by cases a<;>grind
 have g:VMo A:=by
  rcases hp with hp|⟨n,l,e,h1,h2,_⟩
  .cases hp
  obtain rfl:=Option.some.inj e;exact⟨h1,h2⟩
 refine mh (λv=>VMo v.1/\(∀x∈v.2,x∈A)/\(∀u,u∈v.1.map (·.1)->u∈A.map (·.1)/\bj b u=true)/\∀u,u∈A.map (·.1)->bj b u=true->u∈v.1.map (·.1)\/u∈v.2.map (·.1)) (λv=>v.2.length) (λR v⟨h1,h2,h3,h4⟩ih=>⟨λe=>h _ ⟨λe=>(by cases e),λ_=>⟨λn hn=>?_,λu=>?_⟩⟩,λi hi=>?_⟩) _ ⟨.nil,λx hx=>hx,λu c=>(by cases c),λu c _=>.inr c⟩
 .obtain⟨l,e',g1,g2,g3⟩:=hn;obtain rfl:=Option.some.inj e';refine⟨v.1,rfl,h1.1,h1.2,?_⟩;have:=List.Nodup.length_le_of_subset h1.1 (l₂:=A.map (·.1)) λu c=>(h3 u c).1
  grind
 .grind [kc]
 obtain⟨f,rest⟩:=v;dsimp only at h1 h2 h3 h4 ih hi|-;have hm:=uO rest i hi default
 have d:(rest.eraseIdx i).length<rest.length:=by grind
 have hx:rest.getD i default∈A:=h2 _ ((hm _).2 (.inl rfl))
 generalize rest.getD i default=x at hm hx;have hb:∀w,(aw (β:=Bool) .s (b.getD []) w).getD (dflt .bo)=bj b w:=λw=>rfl
 grind [VMo.ins,nh]
def CJ(a:List (List Int))(KK:(List Int)->Prop):Prop:=aa (α:=List Int) (λj=>(a.length<=4611686018427387904->((0:Int)<=(a.length:Int)/\(a.length:Int)<=4611686018427387904/\1*(a.length:Int).toNat<=281474976710656)/\(a.length<=4611686018427387904->if decide ((a.length:Int)=0)then(j [])else(((0:Int)<=0/\0 < (((List.replicate (a.length:Int).toNat (dflt .bo)).length:Nat):Int))/\0 < (List.replicate (a.length:Int).toNat (dflt .bo)).length/\ab (α:=List Bool×List Int×List Lt.step) (λg v4=>have z3:=(i64.wrap ((v4.2.2.length:Int) - 1));have c:=(v4.2.2.getD z3.toNat default);have e:=a.getD (c.at_).toNat [];have z4:=v4.2.2.set z3.toNat (Lt.step.mk (c.at_) (i64.wrap ((c.next)+1)));have d:=e.getD (c.next).toNat default;have h:=([(Lt.step.mk d 0)]:List Lt.step);(v4.2.2.length<=4611686018427387904->if decide (0 < (v4.2.2.length:Int))then((v4.2.2.length<=4611686018427387904->((0:Int)<=z3/\z3 < ((v4.2.2.length:Nat):Int))/\((0:Int)<=c.at_/\(c.at_).toNat<a.length)/\(e.length<=4611686018427387904->if decide (c.next=(e.length:Int))then((v4.2.1.length+([c.at_]:List Int).length<=4611686018427387904/\(v4.2.1.length+([c.at_]:List Int).length)*8<=140737488355328)/\(v4.2.2.length<=4611686018427387904->(0<=z3/\z3.toNat<=v4.2.2.length)/\g (v4.1,(v4.2.1++([c.at_]:List Int)),(v4.2.2.take z3.toNat))))else(((0:Int)<=c.at_/\(c.at_).toNat<a.length)/\((0:Int)<=c.next/\(c.next).toNat<e.length)/\z3.toNat<v4.2.2.length/\aa (α:=Bool) (λf=>if decide (0<=d)then(if decide (d < (a.length:Int))then(((0:Int)<=d/\d < ((v4.1.length:Nat):Int))/\f (!(v4.1.getD d.toNat default)))else(f false))else(f false)) (λl=>if l then(((0:Int)<=d/\d < ((v4.1.length:Nat):Int))/\d.toNat<v4.1.length/\(z4.length+h.length<=4611686018427387904/\(z4.length+h.length)*16<=140737488355328)/\g ((v4.1.set d.toNat true),v4.2.1,(z4++h)))else(g (v4.1,v4.2.1,z4)))))))else(j v4.2.1))) (((List.replicate (a.length:Int).toNat (dflt .bo)).set 0 true),[],[(Lt.step.mk 0 0)]))))) (λi=>(i.length<=4611686018427387904->ab (α:=Int×Int×List Int) (λk b=>have z5:=b.2.2.set b.1.toNat (b.2.2.getD b.2.1.toNat default);if decide (b.1<b.2.1)then(((0:Int)<=b.2.1/\b.2.1 < ((b.2.2.length:Nat):Int))/\((0:Int)<=b.1/\b.1 < ((b.2.2.length:Nat):Int))/\((0:Int)<=b.1/\b.1 < ((b.2.2.length:Nat):Int))/\b.1.toNat<b.2.2.length/\((0:Int)<=b.2.1/\b.2.1 < ((z5.length:Nat):Int))/\b.2.1.toNat<z5.length/\k ((i64.wrap (b.1+1)),(i64.wrap (b.2.1 - 1)),(z5.set b.2.1.toNat (b.2.2.getD b.1.toNat default))))else(KK b.2.2)) (0,(i64.wrap ((i.length:Int) - 1)),i)))
def PrF(g:List (List Int)):List Int->List Int->Prop
 |_,[]=>True
 |a,x::r=>(x≠0->∃y∈a,x∈g.getD y.toNat [])/\PrF g (x::a) r
variable{g:List (List Int)}
theorem PrF.mono:∀{r s t:List Int},PrF g s r->(∀x∈s,x∈t)->PrF g t r
 |[],s,t,_,_=>trivial
 |x::r,s,t,h,hs=>⟨λe=>by obtain⟨y,hy,h'⟩:=h.1 e;grind,h.2.mono λy hy=>by grind⟩
theorem Ew:∀{a b s:List Int},PrF g s (a++b) ↔ PrF g s a/\PrF g (a.reverse++s) b
 |[],b,s=>by simp[PrF]
 |x::a,b,s=>by
  rw[amU,List.reverse_cons,al2];show((x≠0->∃y∈s,x∈g.getD y.toNat [])/\PrF g (x::s) (a++b)) ↔ ((x≠0->∃y∈s,x∈g.getD y.toNat [])/\PrF g (x::s) a)/\PrF g (a.reverse++(x::s)) b
  rw[Ew (a:=a),and_assoc]
theorem PrF.at:∀{r s:List Int},PrF g s r->∀i,i<r.length->r.getD i 0≠0->(∃y∈s,r.getD i 0∈g.getD y.toNat [])\/∃j,j<i/\r.getD i 0∈g.getD (r.getD j 0).toNat []
 |[],s,h,i,hi,_=>by grind
 |x::r,s,h,0,hi,e=>.inl (h.1 e)
 |x::r,s,h,i+1,hi,e=>by
  rcases h.2.at i (by grind) e with⟨y,hy,h'⟩|⟨j,hj,h'⟩
  .rcases akX.1 hy with rfl|hy
   .exact .inr ⟨0,by omega,h'⟩
   grind
  exact .inr ⟨j+1,by omega,h'⟩
def atS(S:List Lt.step):List Int:=S.map (·.at_)
def wkS(g:List (List Int))(S:List Lt.step):Nat:=(S.map λs=>(g.getD s.at_.toNat []).length-s.next.toNat+1).sum
structure DF (g:List (List Int)) (mk:List Bool) (out:List Int) (S:List Lt.step):Prop where
 ol:mk.length=g.length
 lt:∀k∈atS S++out.reverse,0<=k/\k < (g.length:Int)
 mv:∀k:Nat,k<g.length->(mk.getD k false=true ↔ (k:Int)∈atS S++out.reverse)
 z:(0:Int)∈atS S++out.reverse
 nd:(atS S++out.reverse).Nodup
 pr:PrF g [] (atS S++out.reverse)
 nx:∀s∈S,0<=s.next/\s.next.toNat<=(g.getD s.at_.toNat []).length
 co:∀k∈out,∀s∈g.getD k.toNat [],s∈atS S++out.reverse
 cs:∀s∈S,∀j,j<s.next.toNat->(g.getD s.at_.toNat []).getD j default∈atS S++out.reverse
variable{mk:List Bool}
theorem DF.len{out:List Int}{S:List Lt.step}(h:DF g mk out S):S.length+out.length<=g.length:=by
 have:=List.Nodup.length_le_of_subset h.nd (l₂:=(List.range g.length).map λ(i:Nat)=>(i:Int)) λk hk=>by obtain⟨a,b⟩:=h.lt k hk;exact ak8.2 ⟨k.toNat,am9.2 kQ1,by omega⟩
 grind [atS]
theorem DF.od{out:List Int}(h:DF g mk out [])(hg:∀l∈g,∀k∈l,0<=k/\k < (g.length:Int)):Lt.Od g out.reverse:=by
 have e:atS []++out.reverse=out.reverse:=rfl
 refine⟨h.lt,λk hk=>?_,h.nd,λi hi hne=>?_⟩
 .induction hk<;>grind [z,co,Int.toNat_natCast]
 rcases h.pr.at i hi hne with⟨y,hy,_⟩|h'
 all_goals grind
variable{t:Lt.step}
theorem DF.pop{out:List Int}{S:List Lt.step}(h:DF g mk out (S++[t]))(ht:t.next.toNat=(g.getD t.at_.toNat []).length):DF g mk (out++[t.at_]) S:=by
 have e:atS S++(out++[t.at_]).reverse=atS (S++[t])++out.reverse:=by simp[atS]
 refine⟨h.ol,by rw[e];exact h.lt,by grind [mv],by grind [z],by grind [nd],by grind [pr],λs hs=>h.nx s (am1 _ hs),λk hk s hs=>?_,λs hs j hj=>by grind [cs]⟩;rw[e];rcases ak3.1 hk with hk|hk
 .grind [co]
 obtain rfl:=ak6.1 hk;obtain⟨j,hj,e2⟩:=alD.1 hs;have:=h.cs t (amX _ (ak6.2 rfl)) j kQ1
 grind
theorem DF.on{out:List Int}{S R:List Lt.step}(h:DF g mk out (S++t::R))(ht:t.next.toNat < (g.getD t.at_.toNat []).length)(hm:(g.getD t.at_.toNat []).getD t.next.toNat default∈atS (S++t::R)++out.reverse):DF g mk out (S++Lt.step.mk t.at_ (t.next+1)::R):=by
 have e:atS (S++Lt.step.mk t.at_ (t.next+1)::R)=atS (S++t::R):=by simp[atS]
 have tm:t∈S++t::R:=amX _ (List.mem_cons_self)
 have tn:=(h.nx t tm).1
 have sp:∀s∈S++Lt.step.mk t.at_ (t.next+1)::R,s=Lt.step.mk t.at_ (t.next+1)\/s∈S++t::R:=λs hs=>by grind
 refine⟨h.ol,by rw[e];exact h.lt,by grind [mv],by grind [z],by grind [nd],by grind [pr],λs hs=>?_,by grind [co],λs hs j hj=>?_⟩
 .rcases sp s hs with rfl|hs
  .grind
  exact h.nx s hs
 grind [cs]
theorem DF.push{out:List Int}{S:List Lt.step}{z:Int}(h:DF g mk out (S++[t]))(hz:0<=z/\z < (g.length:Int))(hn:¬ mk.getD z.toNat false=true)(hm:z∈g.getD t.at_.toNat []):DF g (mk.set z.toNat true) out (S++[t]++[Lt.step.mk z 0]):=by
 have e:atS (S++[t]++[Lt.step.mk z 0])=atS (S++[t])++[z]:=by simp[atS]
 have hl:z.toNat<mk.length:=by grind [ol]
 have hni:z ∉ atS (S++[t])++out.reverse:=λhi=>hn ((h.mv z.toNat kQ1).2 (by grind))
 have up:∀k,k∈atS (S++[t])++out.reverse->k∈atS (S++[t]++[Lt.step.mk z 0])++out.reverse:=λk hk=>by grind
 have dn:∀k,k∈atS (S++[t]++[Lt.step.mk z 0])++out.reverse->k=z\/k∈atS (S++[t])++out.reverse:=λk hk=>by grind
 refine⟨by grind [ol],λk hk=>?_,λk hk=>?_,up _ h.z,?_,?_,λs hs=>?_,λk hk s hs=>up _ (h.co k hk s hs),λs hs j hj=>?_⟩
 .rcases dn k hk with rfl|hk
  .exact hz
  exact h.lt k hk
 .grind [dT,mv]
 .grind [nd]
 .rw[e,al2];have hp:=Ew.1 h.pr
  refine Ew.2 ⟨hp.1,λ_=>⟨t.at_,?_,hm⟩,hp.2.mono λx hx=>alJ _ hx⟩;simp[atS]
 .rcases ak3.1 hs with hs|hs
  .exact h.nx s hs
  grind
 grind [cs]
theorem Ze(S:List α)(t x:α){m:Nat}(h:m=S.length):(S++[t]).set m x=S++[x]:=by simp_all
theorem JX(g:List (List Int))(hp:A8 g)(KK:List Int->Prop)(h:∀y,DW g y->KK y):CJ g KK:=by
 unfold CJ;obtain⟨⟨hn,w⟩,Y,O⟩:=hp;dsimp only;intro J hJ hl;have hz:(g.length:Int).toNat=g.length:=Int.toNat_natCast _
 rw[hz];have hr:(List.replicate g.length (dflt .bo):List Bool).length=g.length:=amI
 refine⟨⟨by omega,by omega,by omega⟩,λ_=>?_⟩;rw[if_neg (by grind)];refine⟨⟨by omega,by omega⟩,by omega,?_⟩;have P:∀mk out,DF g mk out []->J out:=λmk out hd=>by
  refine hJ out λK=>?_
  have b:=hd.len
  simp only[ak7,amB]at b;generalize hn':out.length=n at b K|-;rw[cF kQ1 kQ1];refine mh (λv=>∃i:Nat,v.1=(i:Int)/\v.2.1=(n:Int) - 1 - (i:Int)/\2*i<=n+1/\v.2.2.length=n/\∀k,k<n->v.2.2.getD k default=if k<i\/n<=k+i then out.getD (n - 1-k) default else out.getD k default) (λv=>(v.2.1-v.1).toNat) (λR v hv ih=>?_) _ ⟨0,rfl,by grind,by omega,hn',λk hk=>by grind⟩;obtain⟨v1,v2,l⟩:=v;obtain⟨i,V,Q,h3,h4,h5⟩:=hv;dsimp only at V Q h4 h5 ih|-;subst V Q;refine ifk (λhc=>?_) (λhc=>?_)
  .have hc:=of_decide_eq_true hc
   generalize hj:((n:Int) - 1 - (i:Int)).toNat=j;have W:j=n - 1-i:=by omega
   have A:i<l.length:=by omega
   have Z:j<l.length:=by omega
   rw[Int.toNat_natCast];refine⟨⟨by omega,by omega⟩,⟨by omega,by omega⟩,⟨by omega,by omega⟩,A,⟨by omega,by grind⟩,by grind,?_⟩;rw[ac kQ1,cF kQ1 kQ1];refine ih _ ⟨i+1,rfl,by grind,by omega,by grind,λk hk=>?_⟩ (by grind);dsimp only;rw[gc _ (by grind),gc _ A];by_cases ej:k=j
   .grind
   grind
  have hc:¬ (i:Int) < (n:Int) - 1 - (i:Int):=by grind
  have:l=out.reverse:=zX default (by grind) λk hk=>by grind
  rw[this];exact h _ (hd.od O)
 have F:DF g ((List.replicate g.length (dflt .bo):List Bool).set 0 true) [] [Lt.step.mk 0 0]:=by
  refine⟨by grind,λk hk=>?_,λk hk=>?_,by simp[atS],by simp[atS],⟨λe=>absurd rfl e,trivial⟩,λs hs=>?_,λk hk=>(by cases hk),λs hs j hj=>?_⟩
  .grind [atS]
  .rw[dT kQ1,show(List.replicate g.length (dflt .bo):List Bool).getD k false=false from vg _ _ _];simp[atS]
  all_goals grind
 refine mh (λv=>DF g v.1 v.2.1 v.2.2) (λv=>1000002*iP v.1+wkS g v.2.2) (λR v hd ih=>?_) _ F;obtain⟨mk,out,S⟩:=v;dsimp only at hd ih|-;have b:=hd.len
 intro _;refine ifk (λB=>?_) (λU=>?_)
 rotate_left
 .have e0:S=[]:=al5 (by grind)
  grind
 have B:0<S.length:=by grind
 have hw:i64.wrap ((S.length:Int) - 1)=((S.length - 1:Nat):Int):=by grind [cF]
 rw[hw];dsimp +instances only [Int.toNat_natCast]
 generalize hmm:S.length - 1=m;have a:S=S.take m++[S.getD m default]:=by
  have:=aA S (i:=m) kQ1
  grind
 have I:(S.take m).length=m:=by grind
 generalize S.getD m default=t at a;generalize hT:S.take m=T at a I;have p:t∈S:=by grind
 have u:=hd.lt t.at_ (am1 _ (ak8.2 ⟨t,p,rfl⟩))
 obtain⟨E,hx1⟩:=hd.nx t p;have d:t.at_.toNat<g.length:=by omega
 have q:g.getD t.at_.toNat []∈g:=by grind
 have ab:=w _ q
 have G:=O _ q
 have ad:wkS g S=wkS g T+((g.getD t.at_.toNat []).length-t.next.toNat+1):=by grind [wkS]
 rw[a]at hd;have D:∀x,S.set m x=T++[x]:=λx=>by grind [Ze]
 intro _;refine⟨⟨by omega,by omega⟩,⟨u.1,d⟩,λ_=>?_⟩;refine ifk (λhe=>?_) (λN=>?_)
 .grind [DF.pop]
 have N:¬ t.next=((g.getD t.at_.toNat []).length:Int):=by grind
 have c:t.next.toNat < (g.getD t.at_.toNat []).length:=by omega
 have o:(g.getD t.at_.toNat []).getD t.next.toNat default∈g.getD t.at_.toNat []:=au _ c
 have f:=G _ o
 have L:i64.wrap (t.next+1)=t.next+1:=cF kQ1 kQ1
 rw[D,L];have M:=hd.on c
 have aa:wkS g (T++[Lt.step.mk t.at_ (t.next+1)])+1=wkS g S:=by grind [wkS]
 refine⟨⟨u.1,d⟩,⟨E,c⟩,by omega,λJ5 C=>?_⟩;generalize hze:(g.getD t.at_.toNat []).getD t.next.toNat default=z at o f M C|-;have H:=hd.mv z.toNat kQ1
 rw[Int.toNat_of_nonneg f.1]at H;rw[if_pos (by grind),if_pos (by grind)];have X:=hd.ol
 refine⟨⟨by omega,by omega⟩,C _ ?_⟩;refine ifk (λhc=>?_) (λhc=>?_)
 .have hf:mk.getD z.toNat false=false:=by grind
  have hf0:mk.getD z.toNat true=false:=by grind
  have af:=kS mk z.toNat hf0
  have ae:z.toNat<g.length:=by omega
  have ag:(g.getD z.toNat []).length<=1000000:=w _ (by grind)
  refine⟨⟨by omega,by omega⟩,by omega,⟨?_,?_⟩,?_⟩
  .grind
  .grind
  have r:=hd.push f (by grind) o
  rw[al2]at r;have hq:=DF.on (S:=T) (R:=[Lt.step.mk z 0]) (t:=t) r c (by grind [atS])
  grind [wkS]
 grind
end Go.Am
end

section
namespace Go.Am
open Go
open Lt (nmB toB Gd Rc bkB phB bq Bare bj)
theorem dK(s:a8):∀(l:List Lt.Block)(i:Int),((je s l i).2=true->∃k,k<l.length/\(je s l i).1=i+(k:Int)/\(l.getD k default).Name=s)/\((∃k,k<l.length/\(l.getD k default).Name=s)->(je s l i).2=true)
 |[],i=>⟨λh=>(by cases h),λ⟨k,hk,_⟩=>absurd hk (Nat.not_lt_zero k)⟩
 |b::r,i=>by
  unfold je;by_cases e:b.Name=s
  .grind
  rw[if_neg e];obtain⟨h1,h2⟩:=dK s r (i+1);refine⟨λh=>?_,λ⟨k,hk,h⟩=>h2 ?_⟩
  .obtain⟨k,hk,c,a⟩:=h1 h;exact⟨k+1,Nat.succ_lt_succ hk,by omega,a⟩
  grind
theorem pX(f:Lt.Func):(ju f).length=f.Blocks.length:=by grind [ju]
theorem Xk(f:Lt.Func){i:Nat}(hi:i<f.Blocks.length):(ju f).getD i []=(toB f.Blocks i).filterMap (oP f):=by grind [ju]
theorem K2(f:Lt.Func)(s:a8)(z:Int)(h:oP f s=some z):∃k:Nat,k<f.Blocks.length/\z=(k:Int)/\nmB f.Blocks k=s:=by grind [oP,dK,aK]
variable{f:Lt.Func}{k:Nat}
theorem zU(a:Gd f.Blocks){i:Nat}:(k:Int)∈(ju f).getD i [] ↔ i<f.Blocks.length/\k<f.Blocks.length/\nmB f.Blocks k∈toB f.Blocks i:=by grind [pX,Xk,aK,dK,oP,Gd.nd]
theorem Jq(hp:uZ f):u5 (ju f):=by refine⟨by rw[pX];exact hp.1,λl hl=>?_⟩;unfold ju at hl;obtain⟨b,hb,rfl⟩:=ak8.1 hl;exact alC (Cg _ _) (hp.2 b hb)
theorem Xl(hp:uZ f)(a:Gd f.Blocks):A8 (ju f):=by
 refine⟨Jq hp,by rw[pX];exact a.ps,λl hl k hk=>?_⟩
 grind [ju,K2]
theorem Uo(a:Gd f.Blocks)(hk:k<f.Blocks.length)(z:Int):z∈(ij (ju f)).getD k [] ↔ ∃i:Nat,z=(i:Int)/\i<f.Blocks.length/\nmB f.Blocks k∈toB f.Blocks i:=by grind [ij,QX,ju,zU]
theorem Ux(a:Gd f.Blocks)(hk:k<f.Blocks.length):Lt.Gr (ju f) k:=by
 have:=a.re k hk
 induction this with
 |first _=>exact .first
 |next i k _ hi hk hm ih=>exact .next i k (ih hi) ((zU a).2 ⟨hi,hk,hm⟩)
def univ(f:Lt.Func):List a8:=f.Params.map (·.Name)++f.Blocks.flatMap λb=>b.Phis.map (·.Dst)++b.Code.map (·.Dst)
theorem pY{α β:Type}(g:α->List β)(c:Nat):∀l:List α,(∀x∈l,(g x).length<=c)->(l.flatMap g).length<=l.length*c
 |[],_=>by simp
 |x::r,h=>by
  have:=pY g c r λy hy=>h y (alJ _ hy)
  grind [Nat.succ_mul]
theorem Zs(hp:uX f):(univ f).length<=4000000000000:=by
 obtain⟨⟨h1,_⟩,_,h2,h3⟩:=hp;have:=pY (λb:Lt.Block=>b.Phis.map (·.Dst)++b.Code.map (·.Dst)) 2000000 f.Blocks λb hb=>by grind
 grind [univ]
theorem ah6:∀v∈f.Params.map (·.Name),v∈univ f:=λv hv=>am1 _ hv
theorem ah5(hk:k<f.Blocks.length):∀v∈phB f k,v∈univ f:=λv hv=>amX _ (amV.2 ⟨_,au _ hk,am1 _ hv⟩)
theorem ah7(hk:k<f.Blocks.length):∀v∈bq (bkB f k),v∈univ f:=λv hv=>amX _ (amV.2 ⟨_,au _ hk,amX _ (anD.1 hv).1⟩)
theorem okU.okV{U:List a8}{s:Lt.Vs}(h:okU U s):Lt.okV s (s.getD []).length:=by obtain⟨m,rfl,h1,h2⟩:=h;exact⟨m,rfl,h1.1,h1.2,akR _⟩
theorem Ys{U:List a8}{a b y:Lt.Vs}(h:okU U a)(hy:Lt.okV y (a.getD []).length)(c:∀v,bj y v=(bj a v&&bj b v)):okU U y:=by
 obtain⟨l,rfl,h1,h2,_⟩:=hy;refine⟨l,rfl,⟨h1,h2⟩,λv hv=>?_⟩;have e:=c v
 rw[kc ⟨h1,h2⟩,decide_eq_true hv]at e;have e:bj a v=true:=by grind
 obtain⟨m,rfl,g1,g2⟩:=h
 grind [kc]
def szV(n:Nat)(s:Lt.Vs):Nat:=match s with|none=>n+1|some m=>m.length
def LF(n:Nat)(l:List Lt.Vs):Nat:=(l.map (szV n)).sum
theorem LG(n:Nat):∀(l:List Lt.Vs)(k:Nat)(s:Lt.Vs),k<l.length->LF n (l.set k s)+szV n (l.getD k none)=LF n l+szV n s
 |[],k,s,h=>by grind
 |x::l,0,s,h=>by grind [LF]
 |x::l,k+1,s,h=>by
  have:=LG n l k s (by grind)
  grind [LF]
theorem YC(s:Lt.Vs)(f:Lt.Func)(k:Nat)(v:a8):bj (my s (bkB f k)) v=(bj s v||decide (v∈phB f k)):=yy s _ v
theorem qj(s:Lt.Vs)(b:Lt.Block)(v:a8):bj (iL s b) v=(bj s v||decide (v∈bq b)):=yy s _ v
theorem rC(s:Lt.Vs)(b:Lt.Block):iL s b≠default:=λe=>by cases e
def py(f:Lt.Func)(outs:List Lt.Vs)(k:Nat)(v:a8):Prop:=(k=0->v∈f.Params.map (·.Name))/\∀i,i<f.Blocks.length->nmB f.Blocks k∈toB f.Blocks i->outs.getD i default≠default->bj (outs.getD i default) v=true
structure AI (f:Lt.Func) (ins outs:List Lt.Vs):Prop where
 li:ins.length=f.Blocks.length
 lo:outs.length=f.Blocks.length
 no:∀k,k<f.Blocks.length->ins.getD k default=default->outs.getD k default=default
 ok:∀k,k<f.Blocks.length->ins.getD k default≠default->okU (univ f) (ins.getD k default)/\outs.getD k default=iL (ins.getD k default) (bkB f k)
 ov:∀k,k<f.Blocks.length->ins.getD k default≠default->∀v,¬ Bare f v k->bj (ins.getD k default) v=true
 tr:∀k,k<f.Blocks.length->ins.getD k default≠default->∀v,py f outs k v\/v∈phB f k->bj (ins.getD k default) v=true
variable{outs:List Lt.Vs}
theorem AI.on{ins:List Lt.Vs}(h:AI f ins outs)(hk:k<f.Blocks.length)(ho:outs.getD k default≠default):ins.getD k default≠default:=λe=>ho (h.no k hk e)
theorem AI.step{ins:List Lt.Vs}(h:AI f ins outs)(hk:k<f.Blocks.length){x:Lt.Vs}(hx:okU (univ f) x)(he:∀v,bj x v=true ↔ py f outs k v\/v∈phB f k) :
  AI f (ins.set k x) (outs.set k (iL x (bkB f k)))/\(ins.getD k default≠default->∀v,bj x v=true->bj (ins.getD k default) v=true):=by
 have hki:k<ins.length:=by grind [li]
 have hko:k<outs.length:=by grind [lo]
 have less:ins.getD k default≠default->∀v,bj x v=true->bj (ins.getD k default) v=true:=λhs v hv=>h.tr k hk hs v ((he v).1 hv)
 have xs:x≠default:=λe=>by have:=hx.isS;grind
 have mdn:∀j v,py f (outs.set k (iL x (bkB f k))) j v->py f outs j v:=λj v hm=>by
  refine⟨hm.1,λi hi hmem hs=>?_⟩;have h2:=hm.2 i hi hmem
  rw[gc _ hko]at h2;by_cases e:i=k
  .subst e;rw[if_pos rfl]at h2;have h2:=h2 (rC _ _)
   have hin:=h.on hk hs
   rw[(h.ok i hk hin).2,qj]
   grind [qj]
  grind
 refine⟨⟨by grind [li],by grind [lo],λj hj hs=>?_,λj hj hs=>?_,λj hj hs v hv=>?_,λj hj hs v hv=>?_⟩,less⟩
 .grind [gc,no]
 .grind [gc,ok]
 .rw[gc _ hki]at hs|-;by_cases e:j=k
  .subst e;rw[if_pos rfl];refine(he v).2 (Classical.or_iff_not_imp_right.2 λhp=>⟨λe0=>Classical.byContradiction λhn=>hv (by subst e0;exact .first hn),λi hi hmem hso=>Classical.byContradiction λhn=>hv ?_⟩);have hin:=h.on hi hso
   rw[(h.ok i hi hin).2,qj]at hn;have n1:bj (ins.getD i default) v≠true:=λe=>hn (by grind)
   have n2:v ∉ bq (bkB f i):=λe=>hn (by grind)
   exact .next i j (Classical.byContradiction λhb=>n1 (h.ov i hi hin v hb)) (λhp=>n1 (h.tr i hi hin v (.inr hp))) n2 hi hj hmem
  grind [ov]
 grind [gc,tr]
theorem AI.fin{ins:List Lt.Vs}(h:AI f ins outs)(hs:∀k,k<f.Blocks.length->ins.getD k default≠default)(hx:∀k,k<f.Blocks.length->∀v,bj (ins.getD k default) v=true->py f outs k v\/v∈phB f k):uV f ins:=by
 refine⟨h.li,λk hk=>⟨(h.ok k hk (hs k hk)).1.isS,λv=>⟨λhv=>?_,λhv=>hv.elim (h.ov k hk (hs k hk) v) λhp=>h.tr k hk (hs k hk) v (.inr hp)⟩⟩⟩;refine Classical.or_iff_not_imp_right.2 λhp hb=>?_
 have key:∀k,Bare f v k->k<f.Blocks.length->v ∉ phB f k->bj (ins.getD k default) v≠true:=λk hb=>by
  induction hb with
  |first hn=>exact λhk hp hv=>hn (((hx 0 hk v hv).resolve_right hp).1 rfl)
  |next i k _ h1 h2 hi hk' hm ih=>
   intro hk hp hv;have hso:=(h.ok i hi (hs i hi)).2
   have h3:=((hx k hk v hv).resolve_right hp).2 i hi hm (by grind [rC])
   grind [qj]
 grind
structure RI (f:Lt.Func) (y:List Int) (t0:Nat) (j:Nat) (ins outs:List Lt.Vs) (ch:Bool):Prop where
 ai:AI f ins outs
 dn:∀i,i<j->ins.getD (y.getD i default).toNat default≠default
 sz:LF (univ f).length ins<=t0
 s2:ch=true->LF (univ f).length ins<t0
 fx:ch=false->∀i,i<j->∀v,bj (ins.getD (y.getD i default).toNat default) v=true->py f outs (y.getD i default).toNat v\/v∈phB f (y.getD i default).toNat
variable{y:List Int}
theorem RI.step{t0 j:Nat}{ins:List Lt.Vs}{ch:Bool}(h:RI f y t0 j ins outs ch)(ek:y.getD j default=(k:Int))(hk:k<f.Blocks.length)(hy:∀i,i<j->(y.getD i default).toNat<f.Blocks.length){x:Lt.Vs}(hx:okU (univ f) x)(he:∀v,bj x v=true ↔ py f outs k v\/v∈phB f k){c:Bool}
  (hc:c=(if(ins.getD k default).isNone=true then true else if !decide ((((ins.getD k default).getD []).length:Int)=((x.getD []).length:Int))then true else ch)) :
  RI f y t0 (j+1) (ins.set k x) (outs.set k (iL x (bkB f k))) c:=by
 obtain⟨ha,less⟩:=h.ai.step hk hx he;have hki:k<ins.length:=by rw[h.ai.li];exact hk
 have hko:k<outs.length:=by rw[h.ai.lo];exact hk
 have xs:x≠default:=λe=>by have:=hx.isS;grind
 have hsz:=LG (univ f).length ins k x hki
 have hxl:=hx.len
 obtain⟨mx,rfl⟩:∃mx,x=some mx:=by cases x<;>grind
 have s1:szV (univ f).length (some mx)=mx.length:=rfl
 simp only[alK]at hxl hc;have ways:(ins.getD k default=none/\c=true)\/(∃m,ins.getD k default=some m/\mx.length<=m.length/\((mx.length<m.length/\c=true)\/(mx.length=m.length/\c=ch))):=by
  cases hi:ins.getD k default with
  |none=>grind
  |some m=>
   refine .inr ⟨m,rfl,?_⟩;have hne:ins.getD k default≠default:=by grind
   have hl:=less hne
   have hok:=(h.ai.ok k hk hne).1
   rw[hi]at hl hok hc;have hle:=hx.le hok hl
   grind
 refine⟨ha,λi hi=>?_,?_,λec=>?_,λec i hi v hv=>?_⟩
 .grind [gc,dn]
 .have:=h.sz
  grind [szV]
 .have:=h.sz
  rcases ways with⟨e,_⟩|⟨m,e,h1,⟨h2,_⟩|⟨h2,h3⟩⟩
  .grind [szV]
  .grind [szV]
  have e2:szV (univ f).length (ins.getD k none)=m.length:=by rw[show ins.getD k none=some m from e];rfl
  have:=h.s2 (by grind)
  omega
 rcases ways with⟨_,e⟩|⟨m,e,h1,⟨_,h2⟩|⟨h2,h3⟩⟩
 .grind
 .grind
 have hne:ins.getD k default≠default:=by grind
 have hok:=(h.ai.ok k hk hne)
 have hsame:=hx.same hok.1 (less hne) (by grind)
 have hiff:∀v,bj (some mx) v=bj (ins.getD k default) v:=λv=>by grind
 have mup:∀q v,py f outs q v->py f (outs.set k (iL (some mx) (bkB f k))) q v:=λq v hm=>by
  refine⟨hm.1,λi hi hmem hs=>?_⟩;rw[gc _ hko]at hs|-;by_cases ei:i=k
  .subst ei;rw[if_pos rfl];have:=hm.2 i hi hmem (by grind [rC])
   grind [qj]
  rw[if_neg ei]at hs|-;exact hm.2 i hi hmem hs
 rcases al8 i j with h'|h'
 .grind [fx]
 grind
theorem Ov{t0:Nat}{ins:List Lt.Vs}{ch:Bool}(a:Gd f.Blocks)(hy:Lt.Od (ju f) y)(h:RI f y t0 y.length ins outs ch)(hc:ch=false):uV f ins:=by
 have b:∀k,k<f.Blocks.length->∃i,i<y.length/\(y.getD i default).toNat=k:=λk hk=>by obtain⟨i,hi,e⟩:=alD.1 (hy.all k (Ux a hk));exact⟨i,hi,by grind⟩
 refine h.ai.fin (λk hk=>?_) λk hk v hv=>?_
 all_goals grind [RI.dn,RI.fx]
theorem Tv(f:Lt.Func)(hp:uX f)(KK:List Lt.Vs->Prop)(h:∀y,uV f y->KK y):Pt f KK:=by
 unfold Pt;have aG:=Zs hp
 obtain⟨D,E,an,ap⟩:=hp;have hn:=D.1
 have aq:=E.ps
 dsimp only;have l:(f.Blocks.length:Int).toNat=f.Blocks.length:=Int.toNat_natCast _
 rw[l];refine⟨D,Jq D,Xl D E,λy hy _=>⟨⟨by omega,by omega,by omega⟩,λ_=>⟨⟨by omega,by omega,by omega⟩,?_⟩⟩⟩;have hy:Lt.Od (ju f) y:=hy
 have ah:∀i,i<y.length->∃k:Nat,y.getD i default=(k:Int)/\k<f.Blocks.length:=λi hi=>by
  have:=hy.lt _ (au _ hi)
  rw[pX]at this;exact⟨(y.getD i default).toNat,by omega,by omega⟩
 have ao:(ij (ju f)).length=f.Blocks.length:=by grind [ij,pX]
 have W:AI f (List.replicate f.Blocks.length (dflt (.mp .s .bo))) (List.replicate f.Blocks.length (dflt (.mp .s .bo))):=by
  have e:∀k,(List.replicate f.Blocks.length (dflt (.mp .s .bo)):List Lt.Vs).getD k default=default:=λk=>vg _ _ _
  exact⟨amI,amI,λk _ _=>e k,λk _ hk=>absurd (e k) hk,λk _ hk=>absurd (e k) hk,λk _ hk=>absurd (e k) hk⟩
 refine mh (λv=>AI f v.1 v.2.1/\(v.2.2=false->uV f v.1)) (λv=>LF (univ f).length v.1+v.2.2.toNat) (λR v⟨P,T⟩ih=>?_) _ ⟨W,λe=>by cases e⟩;obtain⟨N,ab,av⟩:=v;dsimp only at P T ih|-;refine ifk (λI=>?_) (λI=>h _ (T (by grind)));subst I;intro aD;refine af _ y.length (λj v=>v.2.2.2=(j:Int)/\RI f y (LF (univ f).length N) j v.1 v.2.1 v.2.2.1) (λR4 j v hj⟨e,d⟩al=>?_) (λR4 v⟨e,d⟩=>?_) _ ⟨rfl,⟨P,λi hi=>by omega,akR _,λe=>(by cases e),λ_ i hi=>by omega⟩⟩
 rotate_left
 .obtain⟨ins,outs,ch,v4⟩:=v;dsimp only at e d|-;subst e;rw[if_neg (by simp)];refine ih _ ⟨d.ai,Ov E hy d⟩ ?_;dsimp only;have h1:=d.sz
  cases ch with
  |true=>have:=d.s2 rfl;omega
  |false=>grind
 obtain⟨ins,outs,ch,v4⟩:=v;dsimp only at e d|-;subst e;rw[if_pos (aF hj)];refine⟨ob hj,?_⟩;obtain⟨k,X,hk⟩:=ah j hj;dsimp +instances only [Int.toNat_natCast]
 have V:k≠0->∃i,i<f.Blocks.length/\nmB f.Blocks k∈toB f.Blocks i/\outs.getD i default≠default:=λp=>by
  obtain⟨j',ag,hm⟩:=hy.pr j hj (by grind);have hm:y.getD j default∈(ju f).getD (y.getD j' default).toNat []:=hm
  rw[X]at hm;obtain⟨h1,h2,h3⟩:=(zU E).1 hm;refine⟨_,h1,h3,?_⟩;rw[(d.ai.ok _ h1 (d.dn j' ag)).2];exact rC _ _
 have S:∀i,i<j->(y.getD i default).toNat<f.Blocks.length:=λi hi=>by grind
 have A:=Uo E hk
 have o:=λx hx he c hc=>d.step (x:=x) (c:=c) X hk S hx he hc
 rw[X];dsimp +instances only [Int.toNat_natCast]
 generalize(ij (ju f)).getD k []=L at A;have aE:=d.ai.li
 have aB:=d.ai.lo
 intro J6 ad;have B:∀u,(u=default/\k≠0)\/(okU (univ f) u/\∀v,bj u v=true ↔ (k=0->v∈f.Params.map (·.Name)))->J6 u:=λu O=>by
  refine ad _ ⟨⟨by omega,by omega⟩,λax=>?_⟩;refine af _ L.length (λi v=>v.2=(i:Int)/\((v.1=default/\k≠0/\∀z∈L.take i,outs.getD z.toNat default=default)\/(okU (univ f) v.1/\∀w,bj v.1 w=true ↔ (k=0->w∈f.Params.map (·.Name))/\∀z∈L.take i,outs.getD z.toNat default≠default->bj (outs.getD z.toNat default) w=true))) (λR8 i v hi⟨e,m⟩K=>?_) (λR8 v⟨e,m⟩=>?_) _ ⟨rfl,O.imp (λ⟨a,b⟩=>⟨a,b,λz l=>(by cases l)⟩) (λ⟨a,b⟩=>⟨a,λw=>(b w).trans ⟨λh=>⟨h,λz l=>(by cases l)⟩,λh=>h.1⟩⟩)⟩
  .obtain⟨n,v9⟩:=v;dsimp only at e m|-;subst e;rw[if_pos (aF hi)];intro az t;dsimp +instances only [Int.toNat_natCast]at t|-
   have M:L.getD i default∈L:=au _ hi
   have tk:=aA L hi
   generalize L.getD i default=z at M tk t|-;obtain⟨q,ez,hq,_⟩:=(A z).1 M;subst ez;rw[Int.toNat_natCast];refine⟨ob hi,⟨by omega,by omega⟩,?_⟩;have mem:∀U,U∈L.take (i+1) ↔ U∈L.take i\/U=(q:Int):=λU=>by grind
   refine ifk (λhc=>⟨⟨by omega,by omega⟩,?_,λx hx=>?_⟩) (λhc=>?_)
   .rcases m with⟨e,_⟩|⟨g,_⟩
    .exact .inl e
    exact .inr ⟨_,g.okV⟩
   .have r:outs.getD q default≠default:=λe=>by grind
    have J:=d.ai.ok q hq (d.ai.on hq r)
    have Y:okU (univ f) (outs.getD q default):=by rw[J.2];exact J.1.put (ah7 hq)
    refine t _ (K _ ⟨ac kQ1,.inr ?_⟩);dsimp only;rcases m with⟨e,p,hno⟩|⟨g,hw⟩
    .have hx:=hx.1 e
     subst hx;refine⟨Y,λw=>⟨λhw=>⟨λe=>absurd e p,λz l hs=>?_⟩,λhw=>?_⟩⟩
     .rcases(mem z).1 l with l|rfl
      .grind
      exact hw
     exact hw.2 (q:Int) ((mem _).2 (.inr rfl)) r
    have aj:n≠none:=λe=>by have:=g.isS;grind
    obtain⟨hx1,F⟩:=hx.2 aj;refine⟨Ys g (hx1 _ g.okV) F,λw=>?_⟩;rw[F,akP,hw];refine⟨λ⟨⟨a,b⟩,c⟩=>⟨a,λz l hs=>?_⟩,λ⟨a,b⟩=>⟨⟨a,λz l hs=>b z ((mem z).2 (.inl l)) hs⟩,b (q:Int) ((mem _).2 (.inr rfl)) r⟩⟩;rcases(mem z).1 l with l|rfl
    .grind
    exact c
   have C:outs.getD q default=default:=by cases e:outs.getD q default<;>grind
   refine t _ (K _ ⟨ac kQ1,?_⟩);dsimp only;rcases m with⟨e,p,hno⟩|⟨g,hw⟩
   .refine .inl ⟨e,p,λz l=>?_⟩;rcases(mem z).1 l with l|rfl
    .grind
    exact C
   refine .inr ⟨g,λw=>(hw w).trans ⟨λ⟨a,b⟩=>⟨a,λz l hs=>?_⟩,λ⟨a,b⟩=>⟨a,λz l hs=>b z ((mem z).2 (.inl l)) hs⟩⟩⟩;rcases(mem z).1 l with l|rfl
   .grind
   exact absurd C hs
  obtain⟨n,v9⟩:=v;dsimp only at e m|-;subst e;rw[if_neg (by simp)];rw[alI]at m;have m:okU (univ f) n/\∀w,bj n w=true ↔ py f outs k w:=by
   rcases m with⟨_,p,hno⟩|⟨g,hw⟩
   .obtain⟨i,h1,h2,h3⟩:=V p;exact absurd (hno (i:Int) ((A _).2 ⟨i,rfl,h1,h2⟩)) h3
   refine⟨g,λw=>(hw w).trans ⟨λ⟨a,b⟩=>⟨a,λi h1 h2 h3=>b (i:Int) ((A _).2 ⟨i,rfl,h1,h2⟩) h3⟩,λ⟨a,b⟩=>⟨a,λz l hs=>?_⟩⟩⟩;obtain⟨i,rfl,h1,h2⟩:=(A z).1 l;exact b i h1 h2 hs
  obtain⟨g,hw⟩:=m;intro ay G;rw[if_neg (by have:=g.isS;cases n<;>grind)];refine G _ ⟨⟨by omega,hk⟩,g.isS,?_⟩;have hx:okU (univ f) (my n (bkB f k)):=g.put (ah5 hk)
  have he:∀v,bj (my n (bkB f k)) v=true ↔ py f outs k v\/v∈phB f k:=λv=>by grind [YC]
  have o:=o _ hx he
  have ae:=hx.len
  have am:=hx.isS
  show aa (α:=Bool) _ _
  intro ak Q ar H;have last:∀c,c=(if(ins.getD k default).isNone=true then true else if !decide ((((ins.getD k default).getD []).length:Int)=(((my n (bkB f k)).getD []).length:Int))then true else ch)->ak c:=λc hc=>Q c ⟨⟨by omega,hk⟩,am,⟨by omega,by omega⟩,by omega,⟨by omega,by omega⟩,by omega,al _ ⟨ac kQ1,o c hc⟩⟩
  refine⟨⟨by omega,by omega⟩,?_⟩;by_cases hc:(ins.getD k default).isNone=true
  .grind
  rw[if_neg hc];have Z:ins.getD k default≠default:=λe=>hc (by grind)
  have aC:=(d.ai.ok k hk Z).1.len
  refine⟨⟨by omega,by omega⟩,by omega,?_,H _ ?_⟩
  .exact alC ae kQ1
  dsimp only;refine ifk (λhd=>last true (by rw[if_neg hc];exact(if_pos hd).symm)) (λhd=>last ch (by rw[if_neg hc];exact(if_neg hd).symm))
 refine ifk (λhc=>B _ (.inr ⟨(okU.nil _).put ah6,λv=>?_⟩)) (λhc=>B _ (.inl ⟨rfl,λe=>hc (by grind)⟩));have p:k=0:=by grind
 show bj (Cq _ _) v=true ↔ _
 grind [yy,bj,aw]
end Go.Am
end

section
namespace Go.Am
open Go
theorem af0{n:Int}(h:(Lt.Of n).2=true):(1<=n/\n<=21/\(Lt.Of n).1.Least=2)\/(22<=n/\n<=24/\(Lt.Of n).1.Least=1)\/n=25\/(n=26/\(Lt.Of n).1.Least=1)\/(n=27/\(Lt.Of n).1.Least=2)\/(n=28/\(Lt.Of n).1.Least=2)\/n=29\/(n=30/\(Lt.Of n).1.Least=1)\/n=31\/n=32\/(n=33/\(Lt.Of n).1.Least=1)\/n=34:=by
 by_cases e:1<=n/\n<=21
 .grind [Lt.Of]
 by_cases d:22<=n/\n<=24
 .grind [Lt.Of]
 by_cases c:n=25
 .omega
 by_cases b:n=26
 .grind [Lt.Of]
 by_cases a:n=27
 all_goals grind [Lt.Of]
theorem Kp(q:Lt.asked)(hp:Bb q)(KK:Bool->Prop)(h:KK (vC q)):C2 q KK:=by
 unfold C2;obtain⟨h1,h2,h3,h4⟩:=hp;have hl:=af0 h1
 unfold vC at h;have g:∀J:Bool->Prop,(if q.i.Op=29 then J (decide (q.i.Op=29))else J (decide (q.i.Op=30)))=J (decide (q.i.Op=29\/q.i.Op=30)):=λJ=>by grind
 simp only[decide_eq_true_eq];simp only[g,ae,decide_eq_true_eq];refine ifk (λk=>by grind) (λk=>?_);rw[if_neg k]at h;refine ifk (λl=>by grind) (λl=>?_);rw[if_neg l]at h;refine ifk (λn=>by grind) (λn=>?_);rw[if_neg n]at h;refine ifk (λo=>by grind) (λo=>?_);rw[if_neg o]at h;refine ifk (λp=>by grind) (λp=>?_);rw[if_neg p]at h;refine ifk (λj=>?_) (λj=>?_)
 .rw[if_pos j]at h;exact⟨⟨by omega,by omega⟩,h⟩
 rw[if_neg j]at h;refine ifk (λm=>by grind) (λm=>?_);rw[if_neg m]at h;refine ifk (λe=>?_) (λe=>?_)
 .rw[if_pos e]at h;refine⟨⟨by omega,h2⟩,?_⟩
  grind
 rw[if_neg e]at h;refine ifk (λf=>?_) (λf=>?_)
 .rw[if_pos f]at h;refine⟨⟨by omega,h2⟩,?_⟩
  grind
 rw[if_neg f]at h;refine ifk (λc=>?_) (λc=>?_)
 .grind
 rw[if_neg c]at h;refine ifk (λb=>?_) (λb=>?_)
 .rw[if_pos b]at h;exact⟨λr=>by omega,h⟩
 rw[if_neg b]at h;refine ifk (λa=>?_) (λa=>?_)
 .rw[if_pos a]at h;intro J s
  grind
 rw[if_neg a]at h;refine ifk (λd=>?_) (λd=>?_)
 .rw[if_pos d]at h;intro J s
  grind
 grind
theorem X2(p:Lt.Program)(f:Lt.Func)(i:Lt.Instr)(hp:uY p f i)(KK:Lt.asked×Bool->Prop)(h:KK (oV p f i)):VI p f i KK:=by
 unfold VI;dsimp only;have hp:i.Args.length<=1000000:=hp
 unfold oV at h;intro J g;have c:(iR f i&&i.Args.all λa=>(cw f a).2)=false->KK (⟨⟨false,[],[],[],[]⟩,⟨0,[],[],[],[],[]⟩,[],[]⟩,false):=λe=>by rw[if_neg (by grind)]at h;exact h
 have t:J (!((Lt.Of i.Op).2&&(decide ((Lt.Of i.Op).1.Least<=(i.Args.length:Int))&&decide ((i.Args.length:Int)<=(Lt.Of i.Op).1.Most)))):=g _ (by
  dsimp only;refine ifk (λhc=>c ?_) (λhc j b=>?_)
  .grind [iR]
  have hc:(Lt.Of i.Op).2=true/\(Lt.Of i.Op).1.Least<=(i.Args.length:Int)/\(i.Args.length:Int)<=(Lt.Of i.Op).1.Most:=by grind
  obtain⟨m,n,s⟩:=hc;have fin:∀d:a8,((!(Lt.Of i.Op).1.Dst||(dN f i.Dst).2)=true)->d=Jb f i->j ⟨p,i,d,[]⟩:=λd hd e=>b _ (by
   dsimp only;intro hl;have hf:iR f i=true:=by grind [iR]
   rw[hf,ak9]at h c;subst e;refine dU i.Args (λ(q:Lt.asked) (k:Int)=>(k,q)) (λr q=>(q=⟨p,i,Jb f i,q.args⟩/\(i.Args.all λa=>(cw f a).2)=(r.all λa=>(cw f a).2)/\q.args++lQ f r=lQ f i.Args)) (λR q k x r hi hx _ ih hq=>?_) (λR q hq=>?_) _ ⟨rfl,rfl,rfl⟩
   .obtain⟨o,q2,l⟩:=hq;dsimp only;rw[if_pos (aF hi)];refine⟨ob hi,?_⟩
    grind [Int.toNat_natCast,lQ,akV]
   grind [lQ])
  grind [iR,Jb])
 grind
theorem NS(p:Lt.Program)(f:Lt.Func)(i:Lt.Instr)(hp:afL p f i)(KK:Bool->Prop)(h:KK (jW p f i)):Ie p f i KK:=by
 unfold Ie;refine⟨hp,ifk (λhc=>⟨?_,?_⟩) (λhc=>?_)⟩
 .have e:(iR f i&&i.Args.all λa=>(cw f a).2)=true:=by grind [oV]
  have b:oV p f i=(⟨p,i,Jb f i,lQ f i.Args⟩,true):=by grind [oV]
  rw[b];unfold iR at e;simp only[akP,decide_eq_true_eq]at e;refine⟨e.1.1,by simp[lQ],?_,?_⟩
  all_goals grind [lQ]
 all_goals grind [jW,oV]
end Go.Am
end

section
namespace Go.Am
open Go
open Lt (nmB toB Gd Rc bkB phB bq Bare bj pG lL)
theorem ac1(m:VM)(k v:a8):v∈(bP .s m k true).map (·.1) ↔ v∈m.map (·.1)\/v=k:=by grind [nh]
theorem acV(m:VM)(k:a8):(bP .s m k true).length<=m.length+1:=by grind [nh,akV]
theorem zu{α:Type}[Inhabited α]{body:(Int×VM->Prop)->Int×VM->Prop}(l:List α)(ar:α->Lt.Arg)(m:VM)(Q:VM->Prop)
  (hs:∀R(i:Nat)m,i<l.length->l.length<=4611686018427387904->((ar (l.getD i default)).Kind=1->R (i64.wrap ((i:Int)+1),bP .s m (ar (l.getD i default)).S true))->(¬ (ar (l.getD i default)).Kind=1->R (i64.wrap ((i:Int)+1),m))->body R ((i:Int),m))
  (b:∀R m,Q m->body R ((l.length:Int),m)) (hl:l.length<=4611686018427387904)
  (h:∀m',(∀v,v∈m'.map (·.1) ↔ v∈m.map (·.1)\/∃a∈l,(ar a).Kind=1/\(ar a).S=v)->m'.length<=m.length+l.length->Q m'):ab body (0,m):=by
 refine dU l (λm i=>(i,m)) (λr m=>∀m',(∀v,v∈m'.map (·.1) ↔ v∈m.map (·.1)\/∃a∈r,(ar a).Kind=1/\(ar a).S=v)->m'.length<=m.length+r.length->Q m') (λR m i x r hi hx _ ih h=>hs R i m hi hl (λhc=>ih hl _ λm' hm hn=>h m' (λv=>?_) ?_) (λhc=>ih hl _ λm' hm hn=>h m' (λv=>?_) ?_)) (λR m h=>b R m (h m (λv=>by simp) (by simp))) m h
 all_goals grind [ac1,acV]
theorem Np(x:Lt.Instr)(hp:fP x)(KK:List a8->Prop)(h:∀y,uW x y->KK y):GL x KK:=by
 unfold GL;unfold fP Ej at hp;dsimp only;intro j;refine zu x.Args id [] (λm=>∀m',(∀v,v∈m'.map (·.1) ↔ v∈m.map (·.1)\/(∃f∈x.Frames,∃b∈f.Vars,b.A.Kind=1/\b.A.S=v)\/∃o∈x.Objs,∃a∈o.Vals,a.Kind=1/\a.S=v)->m'.length<=m.length+(x.Frames.map λf=>f.Vars.length).sum+(x.Objs.map λo=>o.Vals.length).sum->lj (some m')/\∀y,iW (some m') y->KK y) (λR i m hi hl k1 k2=>?_) (λR m d=>?_) j (λm hm hn m' n hn'=>⟨⟨rfl,?_⟩,λy hy=>h y λv=>by rw[hy v];simp only[alK];rw[n,hm];simp only[List.map_nil,List.not_mem_nil,false_or,id];rfl⟩)
 .rw[if_pos (aF hi)];intro J t
  grind
 rotate_left
 .grind
 rw[if_neg (by simp)];intro q;refine dU x.Frames (λm i=>(i,m)) (λr m=>∀m',(∀v,v∈m'.map (·.1) ↔ v∈m.map (·.1)\/(∃f∈r,∃b∈f.Vars,b.A.Kind=1/\b.A.S=v)\/∃o∈x.Objs,∃a∈o.Vals,a.Kind=1/\a.S=v)->m'.length<=m.length+(r.map λf=>f.Vars.length).sum+(x.Objs.map λo=>o.Vals.length).sum->lj (some m')/\∀y,iW (some m') y->KK y) (λR m i x' r hi hx _ ih h=>?_) (λR m d=>?_) m d
 .rw[if_pos (aF hi)];refine⟨ob hi,λhl=>?_⟩;dsimp +instances only [Int.toNat_natCast]
  rw[hx];refine zu x'.Vars (·.A) m (λm'=>∀c,(∀v,v∈c.map (·.1) ↔ v∈m'.map (·.1)\/(∃f∈r,∃b∈f.Vars,b.A.Kind=1/\b.A.S=v)\/∃o∈x.Objs,∃a∈o.Vals,a.Kind=1/\a.S=v)->c.length<=m'.length+(r.map λf=>f.Vars.length).sum+(x.Objs.map λo=>o.Vals.length).sum->lj (some c)/\∀y,iW (some c) y->KK y) (λR i m hi hl k1 k2=>?_) (λR m d=>?_) (by rw[<- hx];exact hl) (λu e p l g s=>h l (λv=>?_) ?_)
  .rw[if_pos (aF hi)];intro J t
   grind [Int.toNat_natCast]
  .rw[if_neg (by simp)];exact ih q _ d
  .rw[g,e]
   grind
  grind
 rw[if_neg (by simp)];intro k;refine dU x.Objs (λm i=>(i,m)) (λr m=>∀m',(∀v,v∈m'.map (·.1) ↔ v∈m.map (·.1)\/∃o∈r,∃a∈o.Vals,a.Kind=1/\a.S=v)->m'.length<=m.length+(r.map λo=>o.Vals.length).sum->lj (some m')/\∀y,iW (some m') y->KK y) (λR m i x' r hi hx _ ih h=>?_) (λR m d=>?_) m (λm' hm hn=>d m' (λv=>by grind) kQ1)
 .rw[if_pos (aF hi)];refine⟨ob hi,λhl=>?_⟩;dsimp +instances only [Int.toNat_natCast]
  rw[hx];refine zu x'.Vals id m (λm'=>∀c,(∀v,v∈c.map (·.1) ↔ v∈m'.map (·.1)\/∃o∈r,∃a∈o.Vals,a.Kind=1/\a.S=v)->c.length<=m'.length+(r.map λo=>o.Vals.length).sum->lj (some c)/\∀y,iW (some c) y->KK y) (λR i m hi hl k1 k2=>?_) (λR m d=>?_) (by rw[<- hx];exact hl) (λu e p l g s=>h l (λv=>?_) ?_)
  .rw[if_pos (aF hi)];intro J t
   grind [Int.toNat_natCast]
  .rw[if_neg (by simp)];exact ih k _ d
  .rw[g,e]
   grind
  grind
 grind
theorem JU(s:Lt.Vs)(b:Lt.Block)(hp:YI s b)(KK:Bool->Prop)(h:KK (oa s b)):CF s b KK:=by
 unfold CF;have o:¬ lL (λv=>bj s v=true) b->KK false:=λC=>by grind [oa,As]
 have kT:lL (λv=>bj s v=true) b->KK true:=λC=>by grind [oa,qa]
 dsimp only;obtain⟨hp,r⟩:=hp;refine⟨hp,λhl=>?_⟩;have es:some (s.getD [])=s:=by cases s<;>grind
 have k:∀i,i<b.Code.length->fP (b.Code.getD i default):=λi hi=>r _ (au _ hi)
 let D:Nat->List a8:=λi=>((b.Code.take i).map (·.Dst)).filter λd=>!decide (d=[])
 have K:∀i v,i<b.Code.length->(v∈D (i+1) ↔ v∈D i\/(v=(b.Code.getD i default).Dst/\v≠[])):=λi v hi=>by grind [aA]
 have F:∀v,v ∉ D 0:=λv hv=>by grind
 have u:D b.Code.length=bq b:=by
  show List.filter _ _=_
  rw[alI];rfl
 refine af _ b.Code.length (λi v=>v.1=(i:Int)/\(∀w,bj (some v.2) w=true ↔ bj s w=true\/w∈D i)/\∀j,j<i->∀w,pG (b.Code.getD j default) w->bj s w=true\/w∈D j) (λR i v hi⟨e,h1,h2⟩ih=>?_) (λR v⟨e,h1,h2⟩=>?_) _ ⟨rfl,λw=>by grind,λj hj=>by omega⟩
 .obtain⟨G,m⟩:=v;dsimp only at e h1 h2|-;subst e;rw[if_pos (aF hi)];intro H n;dsimp +instances only [Int.toNat_natCast]at n|-
  have hd:=K i
  have f:=k i hi
  have o:(¬ ∀w,pG (b.Code.getD i default) w->bj s w=true\/w∈D i)->KK false:=λhn=>o λhb=>hn (hb.1 i hi)
  have on:(∀w,pG (b.Code.getD i default) w->bj s w=true\/w∈D i)->∀m',(∀w,bj (some m') w=true ↔ bj s w=true\/w∈D (i+1))->H m':=λa m' z=>n _ (ih _ ⟨ac kQ1,z,λj hj w hw=>by grind⟩)
  generalize b.Code.getD i default=x at hd o on f|-;refine⟨ob hi,λE l=>⟨f,λy hy I=>?_⟩⟩;have p:(¬ ∀w,pG x w->bj s w=true\/w∈D i)->E true:=λhn=>l _ (by grind)
  refine af _ y.length (λj v=>v=(j:Int)/\∀q,q<j->bj (some m) (y.getD q default)=true) (λJ j v hj⟨e,hq⟩t=>?_) (λJ v⟨e,hq⟩=>?_) _ ⟨rfl,λq hq=>by omega⟩
  .subst e;rw[if_pos (aF hj)];refine⟨ob hj,?_⟩;rw[Int.toNat_natCast];refine ifk (λhc=>p λa=>?_) (λhc=>t _ ⟨ac kQ1,λq M=>?_⟩)
   .have:=(h1 _).2 (a _ ((hy _).1 (au _ hj)))
    have hc:(!bj (some m) (y.getD j default))=true:=hc
    grind
   rcases al8 q j with h'|h'
   .grind
   obtain rfl:q=j:=by omega
   have hc:¬ (!bj (some m) (y.getD q default))=true:=hc
   grind
  subst e;rw[if_neg (by simp)];have a:∀w,pG x w->bj s w=true\/w∈D i:=λw hw=>by
   obtain⟨q,L,e⟩:=alD.1 ((hy w).2 hw)
   grind
  refine l _ ?_;show if false then KK false else _
  rw[if_neg (by simp)];refine ifk (λhc=>on a _ λw=>?_) (λhc=>on a _ λw=>?_)
  .grind [JC]
  grind
 obtain⟨G,m⟩:=v;dsimp only at e h1 h2|-;subst e;rw[if_neg (by simp)];rw[u]at h1;intro B g;have fin:∀c:Bool,(c=true ↔ ((b.End.Kind=2\/b.End.Kind=3)->b.End.A.Kind=1->bj s b.End.A.S=true\/b.End.A.S∈bq b))->B c:=λc hc=>by
  refine g _ ?_;show KK c
  cases c with
  |true=>exact kT ⟨h2,hc.1 rfl⟩
  |false=>exact o λhb=>by have:=hc.2 hb.2;grind
 have hm:∀w,(aw (β:=Bool) .s m w).getD (dflt .bo)=bj (some m) w:=λw=>rfl
 grind
theorem JV(f:Lt.Func)(s a:a8)(KK:Bool->Prop)(h:KK (yj f s a)):CG f s a KK:=by
 unfold CG;intro hl;refine da f.Blocks (λl=>KK (sW a s l)) (λR i x r hi hx _ ih h=>?_) (λR h=>?_) h
 .grind [sW]
 rw[if_neg (by simp)];exact h
theorem Nj(f:Lt.Func)(o:Option (List (a8×Lt.Vs)))(KK:Bool->Prop)(h:KK (zw f o)):GI f o KK:=by
 unfold GI;dsimp only;unfold zw at h;intro _;refine da f.Blocks (λl=>KK (l.all λb=>b.Phis.all λx=>x.Ins.all (qk f o b))) (λR i b r hi hx _ ih h=>?_) (λR h=>?_) h
 .rw[if_pos (aF hi)];refine⟨ob hi,?_⟩;dsimp +instances only [Int.toNat_natCast]
  rw[hx];intro _;rw[ak2]at h;refine da b.Phis (λl=>KK ((l.all λx=>x.Ins.all (qk f o b))&&r.all λb=>b.Phis.all λx=>x.Ins.all (qk f o b))) (λn s x r3 d g _ k h=>?_) (λn h=>?_) h
  .rw[if_pos (aF d)];refine⟨ob d,?_⟩;dsimp +instances only [Int.toNat_natCast]
   rw[g];intro _;rw[ak2]at h;refine da x.Ins (λl=>KK ((l.all (qk f o b)&&r3.all λx=>x.Ins.all (qk f o b))&&r.all λb=>b.Phis.all λx=>x.Ins.all (qk f o b))) (λp t y r5 a j _ m h=>?_) (λp h=>?_) h
   .rw[if_pos (aF a)];refine⟨ob a,?_⟩;dsimp +instances only [Int.toNat_natCast]
    rw[j];rw[ak2]at h;intro J q;have fin:∀c:Bool,c=!qk f o b y->J c:=λc e=>by grind
    unfold qk at fin;refine ifk (λh1=>?_) (λh1=>fin _ (by grind));rw[h1]at fin;refine ifk (λh2=>?_) (λh2=>fin _ (by grind));rw[h2]at fin;refine ifk (λh3=>fin _ (by grind)) (λh3=>fin _ ?_);rw[show(!decide (y.A.Kind=1))=false from by grind];rfl
   grind
  grind
 grind
theorem DI(a s:a8):∀(l:List Lt.Block)(k:Nat),k<l.length->(l.getD k default).Name=s->(∀j,j<k->(l.getD j default).Name≠s)->sW a s l=wo (l.getD k default).End.To a
 |[],k,h,_,_=>absurd h (Nat.not_lt_zero _)
 |b::r,0,_,hn,_=>by grind [sW]
 |b::r,k+1,h,hn,hj=>by
  have h0:¬ b.Name=s:=hj 0 (Nat.succ_pos _)
  unfold sW;rw[if_neg h0];exact DI a s r k (Nat.lt_of_succ_lt_succ h) hn λj h'=>hj (j+1) (Nat.succ_lt_succ h')
theorem nC{β:Type}(v:β):∀(m:List (a8×β))(k0 k:a8),aw .s (bP .s m k0 v) k=if k0=k then some v else aw .s m k
 |[],k0,k=>by grind [bP,aw,mG]
 |x::l,k0,k=>by
  have ih:=nC v l k0 k
  grind [bP,aw,mG]
def aiB(f:Lt.Func)(i:Nat)(m:List (a8×Lt.Vs)):Prop:=∀s,(∀k,k<i->nmB f.Blocks k=s->∃V,aw .s m s=some V/\∀w,bj V w=true ↔ zn f k w)/\((∀k,k<i->nmB f.Blocks k≠s)->aw .s m s=none)
theorem YD{f:Lt.Func}{m:List (a8×Lt.Vs)}(d:Gd f.Blocks)(h:aiB f f.Blocks.length m):zw f (some m)=true ↔ pz f:=by
 have key:∀(b:Lt.Block)(i:Lt.In),qk f (some m) b i=true ↔ ∀k,k<f.Blocks.length->nmB f.Blocks k=i.Block->b.Name∈toB f.Blocks k->i.A.Kind=1->zn f k i.A.S:=by
  intro b i;unfold qk;rw[alK];by_cases a:∃k,k<f.Blocks.length/\nmB f.Blocks k=i.Block
  .obtain⟨k,hk,hn⟩:=a;obtain⟨V,c,hw⟩:=(h i.Block).1 k hk hn
   grind [yj,DI,Gd.nd,Td]
  have hn:∀k,k<f.Blocks.length->nmB f.Blocks k≠i.Block:=λk hk e=>a ⟨k,hk,e⟩
  rw[(h i.Block).2 hn]
  grind
 simp_all[zw,pz]
theorem JW(f:Lt.Func)(hp:FT f)(KK:Bool->Prop)(h:KK (gr f)):CH f KK:=by
 unfold CH;obtain⟨hp,j⟩:=hp;have l:Gd f.Blocks:=hp.2.1
 have p:(¬ ((∀k,k<f.Blocks.length->lL (λv=>¬ Bare f v k\/v∈phB f k) (bkB f k))/\pz f))->KK false:=λl=>by grind [gr,As]
 have kT:((∀k,k<f.Blocks.length->lL (λv=>¬ Bare f v k\/v∈phB f k) (bkB f k))/\pz f)->KK true:=λl=>by grind [gr,qa]
 dsimp only;refine⟨hp,λy hy q=>?_⟩;obtain⟨r,hy⟩:=hy;have a:∀k,k<f.Blocks.length->(oa (y.getD k default) (bkB f k)=true ↔ lL (λv=>¬ Bare f v k\/v∈phB f k) (bkB f k)):=λk hk=>by grind [oa,oJ]
 refine af _ y.length (λi v=>v.1=(i:Int)/\(∀k,k<i->lL (λv=>¬ Bare f v k\/v∈phB f k) (bkB f k))/\aiB f i v.2) (λR i v hi⟨e,h1,g⟩ih=>?_) (λR v⟨e,h1,g⟩=>?_) _ ⟨rfl,λk hk=>by omega,λs=>⟨λk hk=>absurd hk (Nat.not_lt_zero _),λ_=>rfl⟩⟩
 .obtain⟨t,m⟩:=v;dsimp only at e h1 g|-;subst e;rw[if_pos (aF hi)];have hk:i<f.Blocks.length:=by omega
  have a:=a i hk
  have b:=(hy i hk).1
  intro o d;dsimp +instances only [Int.toNat_natCast]at d|-
  refine⟨ob hi,ob hk,⟨b,j _ (au _ hk)⟩,?_⟩;refine ifk (λhc=>p λn=>?_) (λhc=>?_)
  .simp_all
  have hc:¬ (!oa (y.getD i default) (bkB f i))=true:=hc
  have hb:=a.1 (by grind)
  have on:o (bP .s m (nmB f.Blocks i) (iL (y.getD i default) (bkB f i))):=d _ (ih _ ⟨ac kQ1,λk c=>by
   grind,λs=>by
   dsimp only;rw[nC];refine⟨λk c hn=>?_,λhno=>?_⟩
   .rcases al8 k i with h'|h'
    .rw[if_neg (λe=>by grind [Gd.nd])];exact(g s).1 k h' hn
    grind [iL,yy,zn]
   rw[if_neg (hno i (Nat.lt_succ_self _))];exact(g s).2 λk c=>hno k (Nat.lt_succ_of_lt c)⟩)
  exact⟨ob hk,⟨ob hk,b,on⟩,b,ob hk,on⟩
 grind [YD]
end Go.Am
end
