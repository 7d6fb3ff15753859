/-
  Part 11: AmLay · AmNiceM · AmNice14 · AmNice14b · AmNice14c · AmNice14d · AmG23 · AmG22 · AmG18c · AmG16 · AmG15 · AmG14 · AmLoopE · AmL20 · AmL21 · AmL22 · AmL23 · AmG17 · AmL24 · AmL25 · AmL26 · AmL27 · AmL20b · AmL28 · AmL20c · AmL29 · AmL30.
-/
import Derived.Test.YthhkhcolidkemaaGreatDoorCt10
import Derived.Shelf.Small.Strs
import Derived.Shelf.Small.Wraps
import Derived.Shelf.Strings.Cut
import Derived.Shelf.Strings.Split
import Derived.Test.YthhkhcolidkemaaGreatDoorProg
set_option linter.unusedSimpArgs false
set_option linter.unusedVariables false
set_option linter.unusedSectionVars false
set_option linter.unnecessarySimpa false
open Lt
open Go.Proofs.Tryz
open Go.IntKind (i64)
section
namespace Go.Proofs
open Go.Shelf
def Tryz.lays137_ren:Go.Shelf.Ren:=⟨λ|137=>265|217=>228|266=>243|n=>n,λ|9=>9|5=>5|3=>3|n=>n,λ|n=>n⟩
theorem Tryz.lays137:Go.Proofs.Lays.n137 prog Tryz.lays137_ren:={
 mixed:=by rfl
 f137:=func265.trans (congrArg some (by rfl))
 f217:=func228.trans (congrArg some (by rfl))
 f266:=func243.trans (congrArg some (by rfl))
 t3:=underlying3
 a3:=isAgg3
 z3:=sizeOf3
 v3:=zeroValue3
 t5:=underlying5
 a5:=isAgg5
 z5:=sizeOf5
 v5:=zeroValue5
 t9:=underlying9
 a9:=isAgg9
 z9:=sizeOf9
 v9:=zeroValue9 }
open Go.RowKit in
theorem Tryz.strings_IndexByte(s:ByteArray)(c:Int)(w:World) :
  Calls prog 265 #[.string s,.int .u8 c] w λe w'=>e=.returned (.int .i64 (Lib.indexByte s.data.toList c.toNat.toUInt8))/\w'=w:=Any.strings_IndexByte Tryz.lays137 s c w
def Tryz.lays103_ren:Go.Shelf.Ren:=⟨λ|103=>264|210=>272|206=>274|n=>n,λ|9=>9|4=>4|24=>161|3=>3|n=>n,λ|n=>n⟩
theorem Tryz.lays103:Go.Proofs.Lays.n103 prog Tryz.lays103_ren:={
 mixed:=by rfl
 f103:=func264.trans (congrArg some (by rfl))
 f206:=func274.trans (congrArg some (by rfl))
 f210:=func272.trans (congrArg some (by rfl))
 t3:=underlying3
 a3:=isAgg3
 z3:=sizeOf3
 v3:=zeroValue3
 t4:=underlying4
 a4:=isAgg4
 z4:=sizeOf4
 v4:=zeroValue4
 t9:=underlying9
 a9:=isAgg9
 z9:=sizeOf9
 v9:=zeroValue9
 t24:=underlying161
 a24:=isAgg161
 z24:=sizeOf161
 v24:=zeroValue161 }
open Go.RowKit in
theorem Tryz.strings_CutPrefix(s p:ByteArray)(w:World) :
  Calls prog 264 #[.string s,.string p] w λe w'=>e=.returned (.tuple #[.string ⟨(Lib.trimPrefix s.data.toList p.data.toList).toArray⟩,.bool (Lib.hasPrefix s.data.toList p.data.toList)])/\w'=w:=Any.strings_CutPrefix Tryz.lays103 s p w
def Tryz.lays145_ren:Go.Shelf.Ren:=⟨λ|145=>76|220=>130|219=>189|217=>228|225=>229|224=>230|267=>231|266=>243|314=>244|n=>n,λ|9=>9|4=>4|59=>128|3=>3|5=>5|46=>280|146=>286|51=>285|n=>n,λ|1=>1|n=>n⟩
theorem Tryz.lays145:Go.Proofs.Lays.n145 prog Tryz.lays145_ren:={
 mixed:=by rfl
 f145:=func76.trans (congrArg some (by rfl))
 f217:=func228.trans (congrArg some (by rfl))
 f219:=func189.trans (congrArg some (by rfl))
 f220:=func130.trans (congrArg some (by rfl))
 f224:=func230.trans (congrArg some (by rfl))
 f225:=func229.trans (congrArg some (by rfl))
 f266:=func243.trans (congrArg some (by rfl))
 f267:=func231.trans (congrArg some (by rfl))
 f314:=func244.trans (congrArg some (by rfl))
 t3:=underlying3
 a3:=isAgg3
 z3:=sizeOf3
 v3:=zeroValue3
 t4:=underlying4
 a4:=isAgg4
 z4:=sizeOf4
 v4:=zeroValue4
 t5:=underlying5
 a5:=isAgg5
 z5:=sizeOf5
 v5:=zeroValue5
 t9:=underlying9
 a9:=isAgg9
 z9:=sizeOf9
 v9:=zeroValue9
 t46:=underlying280
 a46:=isAgg280
 z46:=sizeOf280
 v46:=zeroValue280
 t51:=underlying285
 a51:=isAgg285
 z51:=sizeOf285
 v51:=zeroValue285
 t59:=underlying128
 a59:=isAgg128
 z59:=sizeOf128
 v59:=zeroValue128
 t146:=underlying286
 a146:=isAgg286
 z146:=sizeOf286
 v146:=zeroValue286
 g1:=by kernel_rfl }
open Go.RowKit Go.Lib in
theorem Tryz.strings_Cut(s sep:ByteArray)(m:Int)(w:World)(hs:s.size < 4294967281)(hm:w.cell? ⟨1,0,none⟩=some (.int .i64 m)) :
  Calls prog 76 #[.string s,.string sep] w λe w'=>e=.returned (.tuple #[.string ⟨(Lib.cut s.data.toList sep.data.toList).1.toArray⟩,.string ⟨(Lib.cut s.data.toList sep.data.toList).2.1.toArray⟩,.bool (Lib.cut s.data.toList sep.data.toList).2.2])/\∃n,w'=w.drewN n:=Any.strings_Cut Tryz.lays145 s sep m w hs hm
def Tryz.lays146_ren:Go.Shelf.Ren:=⟨λ|146=>75|221=>129|268=>186|138=>187|143=>188|195=>225|197=>226|218=>227|219=>189|260=>242|217=>228|225=>229|224=>230|267=>231|266=>243|314=>244|n=>n,λ|9=>9|31=>45|3=>3|4=>4|0=>0|105=>276|21=>21|5=>5|46=>280|119=>294|139=>297|138=>296|146=>286|51=>285|n=>n,λ|1=>1|3=>2|4=>3|n=>n⟩
theorem Tryz.lays146:Go.Proofs.Lays.n146 prog Tryz.lays146_ren:={
 mixed:=by rfl
 f138:=func187.trans (congrArg some (by rfl))
 f143:=func188.trans (congrArg some (by rfl))
 f146:=func75.trans (congrArg some (by rfl))
 f195:=func225.trans (congrArg some (by rfl))
 f197:=func226.trans (congrArg some (by rfl))
 f217:=func228.trans (congrArg some (by rfl))
 f218:=func227.trans (congrArg some (by rfl))
 f219:=func189.trans (congrArg some (by rfl))
 f221:=func129.trans (congrArg some (by rfl))
 f224:=func230.trans (congrArg some (by rfl))
 f225:=func229.trans (congrArg some (by rfl))
 f260:=func242.trans (congrArg some (by rfl))
 f266:=func243.trans (congrArg some (by rfl))
 f267:=func231.trans (congrArg some (by rfl))
 f268:=func186.trans (congrArg some (by rfl))
 f314:=func244.trans (congrArg some (by rfl))
 t0:=underlying0
 a0:=isAgg0
 z0:=sizeOf0
 v0:=zeroValue0
 t3:=underlying3
 a3:=isAgg3
 z3:=sizeOf3
 v3:=zeroValue3
 t4:=underlying4
 a4:=isAgg4
 z4:=sizeOf4
 v4:=zeroValue4
 t5:=underlying5
 a5:=isAgg5
 z5:=sizeOf5
 v5:=zeroValue5
 t9:=underlying9
 a9:=isAgg9
 z9:=sizeOf9
 v9:=zeroValue9
 t21:=underlying21
 a21:=isAgg21
 z21:=sizeOf21
 v21:=zeroValue21
 t31:=underlying45
 a31:=isAgg45
 z31:=sizeOf45
 v31:=zeroValue45
 t46:=underlying280
 a46:=isAgg280
 z46:=sizeOf280
 v46:=zeroValue280
 t51:=underlying285
 a51:=isAgg285
 z51:=sizeOf285
 v51:=zeroValue285
 t105:=underlying276
 a105:=isAgg276
 z105:=sizeOf276
 v105:=zeroValue276
 t119:=underlying294
 a119:=isAgg294
 z119:=sizeOf294
 t138:=underlying296
 a138:=isAgg296
 z138:=sizeOf296
 v138:=zeroValue296
 t139:=underlying297
 a139:=isAgg297
 z139:=sizeOf297
 v139:=zeroValue297
 t146:=underlying286
 a146:=isAgg286
 z146:=sizeOf286
 v146:=zeroValue286
 g1:=by kernel_rfl
 g3:=by kernel_rfl
 g4:=by kernel_rfl }
open Go.RowKit Go.Lib in
theorem Tryz.strings_Split(s sep:ByteArray)(m:Int)(w:World)(hs:s.size < 4294967281)(hm:w.cell? ⟨1,0,none⟩=some (.int .i64 m))(h1:1<=sep.size) :
  Calls prog 75 #[.string s,.string sep] w λe w'=>e=.returned (.slice (some ⟨w.heap.size,0,none⟩) (Lib.countB s sep+1) (Lib.countB s sep+1))/\w'=w.alloc (.cells ((Lib.splitB sep 0 (Lib.countB s sep) s).map Value.string).toArray 9):=Any.strings_Split Tryz.lays146 kQ0 s sep m w hs hm h1
end Go.Proofs
end

section
namespace Lt
open Go
def jw:Bool->List (List UInt8)->List UInt8
 |_,[]=>[]
 |b,w::r=>(if b then [32]else [])++w++jw true r
def uX(c:Int):Bool:=(((decide (97<=c))&&(decide (c<=122)))||((decide (65<=c))&&(decide (c<=90))))||(decide (c=95))
def letter(c:UInt8):Bool:=uX ((c.toNat:Nat):Int)
def kY(c:UInt8):Bool:=(decide (48<=((c.toNat:Nat):Int)))&&(decide (((c.toNat:Nat):Int)<=57))
def kept(s:List UInt8):Bool:=((decide (s=[110,117,108,108]))||(decide (s=[105,110,116])))||(decide (s=[102,108,111,97,116]))
def iR(c:UInt8):Bool:=letter c||kY c
def Name(s:List UInt8):Bool:=(!decide (s=[])&&decide (s.length<=16)&&letter (s.getD 0 0)&&!kept s)&&s.all iR
def kind(s:List UInt8):Bool:=((decide (s=[105,110,116]))||(decide (s=[102,108,111,97,116])))||Name s
def typed(l:List Var)(most:Int):Bool:=decide ((l.length:Int)<=most)&&l.all λv=>Name v.Name&&kind v.Type_
def Plain(n:Int):Int:=if (decide ((i64.wrap ((BitVec.ofInt i64.bits n &&& BitVec.ofInt i64.bits 9218868437227405312).toNat:Nat))=9218868437227405312))&&(!decide ((i64.wrap ((BitVec.ofInt i64.bits n &&& BitVec.ofInt i64.bits 4503599627370495).toNat:Nat))=0))then 9221120237041090560 else n
def bk(a:Arg):Bool:=
 if a.Kind=1 then Name a.S&&decide (a.N=0)
 else if a.Kind=2 then decide (a.S=[])
 else if a.Kind=3 then decide (a.S=[])&&decide (Plain a.N=a.N)
 else if a.Kind=4 then decide (a.S=[])&&decide (a.N=0)
 else if a.Kind=5 then(decide (a.S=[])&&decide (0<=a.N))&&decide (a.N<=999)
 else false
def bw(objs:Bool)(a:Arg):Bool:=bk a&&!(decide (a.Kind=5)&&!objs)
def cb(l:List Arg)(objs:Bool):Bool:=l.all (bw objs)
def ji(b:Bind):Bool:=Name b.Name&&bw true b.A
def frame(f:Frame):Bool:=(Name f.Func&&Name f.Block&&decide (0<=f.At)&&decide (f.At<=1024)&&decide (f.Vars.length<=16))&&f.Vars.all ji
def virt(o:Virt):Bool:=Name o.Class&&decide (o.Vals.length<=8)&&cb o.Vals true
def Uk(l:List UInt8):Nat->Int->Nat->Nat->List UInt8
 |0,_,_,_=>[]
 |k+1,n,f,i=>
  if i<l.length then
   if(((l.getD i 0).toNat:Nat):Int)=32 then
    if i64.wrap (n - 1)=0 then(l.drop (f+1)).take (i - (f+1))else Uk l k (i64.wrap (n - 1)) i (i+1)
   else Uk l k n f (i+1)
  else []
def nth(l:List UInt8)(n:Int):List UInt8:=Uk l (l.length+1) n 0 1
def two:List UInt8:=32::97::100::100::32::115::117::98::32::109::117::108::32::100::105::118::32::114::101::109::32::97::110::100::32::111::114::32::120::111::114::32::115::104::108::32::115::104::114::32::101::113::32::110::101::32::108::116::32::108::101::32::102::97::100::100::32::102::115::117::98::32::102::109::117::108::32::102::100::105::118::32::102::101::113::32::102::108::116::32::102::108::101::32::[]
def Of(op:Int):Form×Bool:=
 if 1<=op/\op<=21 then(⟨nth two op,true,false,2,2⟩,true)
 else if 22<=op/\op<=24 then(⟨nth [32,105,116,111,102,32,102,116,111,105,32,109,111,118,32] (i64.wrap (op - 21)),true,false,1,1⟩,true)
 else if op=25 then(⟨[110,101,119],true,true,0,8⟩,true)
 else if op=26 then(⟨[108,111,97,100],true,true,1,1⟩,true)
 else if op=27 then(⟨[115,116,111,114,101],false,true,2,2⟩,true)
 else if op=28 then(⟨[115,97,109,101],true,false,2,2⟩,true)
 else if op=29 then(⟨[103,108,111,97,100],true,true,0,0⟩,true)
 else if op=30 then(⟨[103,115,116,111,114,101],false,true,1,1⟩,true)
 else if op=31 then(⟨[99,97,108,108],true,true,0,8⟩,true)
 else if op=32 then(⟨[101,120,116],true,true,0,8⟩,true)
 else if op=33 then(⟨[111,117,116],false,false,1,1⟩,true)
 else if op=34 then(⟨[103,117,97,114,100],false,false,0,0⟩,true)
 else(⟨[],false,false,0,0⟩,false)
def instr(i:Instr):Bool:=
 ((Of i.Op).2&&((Of i.Op).1.Dst==!decide (i.Dst=[]))&&((Of i.Op).1.Named==!decide (i.Name=[]))&&!((Of i.Op).1.Dst&&!Name i.Dst)&&!((Of i.Op).1.Named&&!Name i.Name))
 && (decide ((Of i.Op).1.Least<=(i.Args.length:Int))&&decide ((i.Args.length:Int)<=(Of i.Op).1.Most)&&cb i.Args false&&decide (i.Frames.length<=16)&&decide (i.Objs.length<=99))
 && (if i.Op≠31/\i.Op≠34 then decide (i.Frames=[])&&decide (i.Objs=[])else i.Frames.all frame&&i.Objs.all virt)
def oS(i:In):Bool:=Name i.Block&&bw false i.A
def phi(x:Phi):Bool:=(Name x.Dst&&!decide (x.Ins=[])&&decide (x.Ins.length<=256))&&x.Ins.all oS
def DI(a:Arg):Bool:=decide (a=⟨0,[],0⟩)
def fJ(t:Term):Bool:=t.To.all Name &&
 (if t.Kind=1 then DI t.A&&decide (t.To.length=1)&&decide (t.N=0)
  else if t.Kind=2 then bw false t.A&&decide (t.To.length=2)&&decide (t.N=0)
  else if t.Kind=3 then bw false t.A&&decide (t.To.length=0)&&decide (t.N=0)
  else if t.Kind=4 then DI t.A&&decide (t.To.length=0)
  else false)
def block(b:Block):Bool:=(Name b.Name&&fJ b.End)&&(b.Phis.all phi&&b.Code.all instr)
def blocks:List Block->Nat->Bool
 |[],_=>true
 |b::r,long=>(decide (long+(b.Phis.length+b.Code.length)<=1024)&&block b)&&blocks r (long+(b.Phis.length+b.Code.length))
def aF(f:Func):Bool:=(Name f.Name&&kind f.Result&&typed f.Params 6&&typed f.Vars 1024&&!decide (f.Blocks=[])&&decide (f.Blocks.length<=256))&&blocks f.Blocks 0
def dk(c:Class):Bool:=Name c.Name&&typed c.Fields 8
def cH(x:Extern):Bool:=Name x.Name&&decide (0<=x.N)&&decide (x.N<=8)
def aY(p:Program):Bool:=
 (decide (p.Classes.length<=8)&&decide (p.Externs.length<=8)&&decide (p.Funcs.length<=8)&&typed p.Globals 8) &&
 (p.Classes.all dk&&(p.Externs.all cH&&p.Funcs.all aF))
def digs(n:Nat):List UInt8:=if n < 10 then [UInt8.ofNat (48+n)]else digs (n / 10)++[UInt8.ofNat (48+n % 10)]
def aQ(n:Int):List UInt8:=(if n < 0 then [45]else [])++digs n.natAbs
def inR(n:Int):Prop:=-9223372036854775808<=n/\n < 9223372036854775808
def Arg.ok(a:Arg):Prop:=inR a.N
def wg(l:List Arg):Prop:=∀a∈l,a.ok
def Bind.ok(b:Bind):Prop:=b.A.ok
def Frame.ok(f:Frame):Prop:=f.Vars.length<=4611686018427387904/\∀b∈f.Vars,b.ok
def Virt.ok(o:Virt):Prop:=wg o.Vals
def Instr.ok(i:Instr):Prop:=wg i.Args/\(∀f∈i.Frames,f.ok)/\(∀o∈i.Objs,o.ok)
def In.ok(i:In):Prop:=i.A.ok
def Phi.ok(x:Phi):Prop:=x.Ins.length<=4611686018427387904/\∀i∈x.Ins,i.ok
def Term.ok(t:Term):Prop:=t.A.ok/\inR t.N
def Block.ok(b:Block):Prop:=(∀x∈b.Phis,x.ok)/\(∀i∈b.Code,i.ok)/\b.End.ok
def Func.ok(f:Func):Prop:=∀b∈f.Blocks,b.ok
def Program.ok(p:Program):Prop:=∀f∈p.Funcs,f.ok
def room:Nat:=1099511627776
def gA(n:Int):Prop:=inR n
def fQ(a:Arg):Prop:=a.ok
def K4(n:Int):Int:=if n < 0 then IntKind.u64.wrap (0 - (IntKind.u64.wrap n))else IntKind.u64.wrap n
def kA(n:Int):List UInt8:=aQ n
def FR(n:Int):Bool:=decide (9218868437227405312 < (Int.tmod (IntKind.u64.wrap n) 9223372036854775808))
def cG(n:Int):Int:=if FR n=true then 9221120237041090560 else n
def X9(x:Int):UInt8:=UInt8.ofNat (IntKind.u8.wrap ((IntKind.u8.wrap (Int.tmod x 16))+(if IntKind.u8.wrap (Int.tmod x 16) < 10 then 48 else 87))).toNat
def lu:Nat->Int->List UInt8->List UInt8
 |0,_,l=>l
 |k+1,x,l=>lu k (IntKind.u64.wrap (Int.tdiv x 16)) (X9 x::l)
def mL(n:Int):List UInt8:=[48,102]++lu 16 (IntKind.u64.wrap (cG n)) []
def wW(i:Nat)(c:UInt8):Bool:=!((((!(((decide (48<=((c.toNat:Nat):Int)))&&(decide (((c.toNat:Nat):Int)<=57)))&&(decide (0 < (i:Int)))))&&(!decide (((c.toNat:Nat):Int)=95)))&&((decide (((c.toNat:Nat):Int) < 65))||(decide (90 < ((c.toNat:Nat):Int)))))&&((decide (((c.toNat:Nat):Int) < 97))||(decide (122 < ((c.toNat:Nat):Int)))))
def be(s:List UInt8):Bool:=((List.range s.length).all λi=>wW i (s.getD i 0)) &&
 (((((decide (1<=(s.length:Int)))&&(decide ((s.length:Int)<=16)))&&(!decide (s=[110,117,108,108])))&&(!decide (s=[105,110,116])))&&(!decide (s=[102,108,111,97,116])))
def kc(a:Arg):Bool:=
 if a.Kind=1 then be a.S&&decide (a.N=0)
 else if ((decide (a.Kind < 1))||(decide (5<a.Kind)))||(!decide (a.S=[]))then false
 else(((decide (a.Kind=2))||((decide (a.Kind=3))&&(decide ((cG a.N)=a.N))))||((decide (a.Kind=4))&&(decide (a.N=0))))||(((decide (a.Kind=5))&&(decide (0<=a.N)))&&(decide (a.N<=999)))
def cv(a:Arg):List UInt8:=
 if kc a then
  if a.Kind=1 then a.S else if a.Kind=2 then kA a.N else if a.Kind=3 then mL a.N else if a.Kind=4 then [110,117,108,108]else 35::kA a.N
 else []
def rOf(op:Int):RForm×Bool:=
 if op < 1\/34<op then(⟨[],false,false,0,0⟩,false)
 else(⟨Go.Am.gw.getD op.toNat default,(((!decide (op=27))&&(!decide (op=30)))&&(!decide (op=33)))&&(!decide (op=34)),(((decide (op=25))||(decide (op=26)))||(decide (op=27)))||((decide (29<=op))&&(decide (op<=32))),
  if op=22\/op=23\/op=24\/op=26\/op=30\/op=33 then 1 else if op=25\/op=31\/op=32\/op=29\/op=34 then 0 else 2,
  if op=22\/op=23\/op=24\/op=26\/op=30\/op=33 then 1 else if op=25\/op=31\/op=32 then 8 else if op=29\/op=34 then 0 else 2⟩,true)
def lnT(w:List (List UInt8)):List UInt8:=jw false w++[10]
def iZ(out:List UInt8)(l:List (List UInt8)):List UInt8:=out++lnT l
def qE(out first:List UInt8)(l:List Var):List UInt8:=out++l.flatMap λv=>lnT [first,v.Name,v.Type_]
def xI(l:List (List UInt8))(a:List Arg):List (List UInt8):=l++a.map cv
def xJ(x:Instr):List (List UInt8):=(if(rOf x.Op).1.Dst then [x.Dst,[61]]else [])++[(rOf x.Op).1.Word]
def mM(x:Instr):List (List UInt8):=
 if(x.Op=26\/x.Op=27)/\x.Args≠[]then xJ x++(x.Args.take 1).map cv++[x.Name]++(x.Args.drop 1).map cv
 else xJ x++(if(rOf x.Op).1.Named then [x.Name]else [])++x.Args.map cv
def mr(f:Frame):List (List UInt8):=[[97,116],f.Func,f.Block,kA f.At]++f.Vars.flatMap λb=>[b.Name,cv b.A]
def qF(o:Virt):List (List UInt8):=[[111,98,106],o.Class]++o.Vals.map cv
def pe(x:Instr):List UInt8:=lnT (mM x)++(x.Frames.flatMap λf=>lnT (mr f))++(x.Objs.flatMap λo=>lnT (qF o))
def Zt(out:List UInt8)(x:Instr):List UInt8:=out++pe x
def K3(t:Term):List (List UInt8):=[([[],[106,117,109,112],[98,114,97,110,99,104],[114,101,116],[116,114,97,112]]:List (List UInt8)).getD t.Kind.toNat default]++(if t.Kind=2\/t.Kind=3 then [cv t.A]else [])++t.To++(if t.Kind=4 then [kA t.N]else [])
def Bl(t:Term):List UInt8:=if t.Kind < 1\/4<t.Kind then []else lnT (K3 t)
def Zv(out:List UInt8)(t:Term):List UInt8:=out++Bl t
def xK(x:Phi):List (List UInt8):=[[112,104,105],x.Dst]++x.Ins.flatMap λi=>[i.Block,cv i.A]
def mn(b:Block):List UInt8:=lnT [[98,108,111,99,107],b.Name]++(b.Phis.flatMap λx=>lnT (xK x))++b.Code.flatMap pe++Bl b.End
def ke(first:List UInt8)(l:List Var):List UInt8:=l.flatMap λv=>lnT [first,v.Name,v.Type_]
def qD(f:Func):List UInt8:=lnT [[102,117,110,99],f.Name,f.Result]++ke [112,97,114,97,109] f.Params++ke [118,97,114] f.Vars++f.Blocks.flatMap mn
def mq(c:Class):List UInt8:=lnT [[99,108,97,115,115],c.Name]++ke [102,105,101,108,100] c.Fields
def qC(x:Extern):List UInt8:=lnT [[101,120,116,101,114,110],x.Name,kA x.N]
def jx(p:Program):List UInt8:=(if p.SSA then lnT [[115,115,97]]else [])++p.Classes.flatMap mq++ke [103,108,111,98,97,108] p.Globals++p.Externs.flatMap qC++p.Funcs.flatMap qD
def bW(out:List UInt8)(l:List (List UInt8)):Prop:=out.length+(lnT l).length<=room
def dP(out first:List UInt8)(l:List Var):Prop:=out.length+(ke first l).length<=room
def qz(l:List (List UInt8))(a:List Arg):Prop:=wg a/\l.length+a.length<=room+room
def KX(out:List UInt8)(x:Instr):Prop:=x.ok/\(∀f∈x.Frames,inR f.At)/\out.length+(pe x).length<=room
def Ba(out:List UInt8)(t:Term):Prop:=t.ok/\out.length+(Bl t).length<=room
def nP(p:Program):Prop:=p.ok/\(∀e∈p.Externs,inR e.N)/\(∀f∈p.Funcs,∀b∈f.Blocks,∀i∈b.Code,∀r∈i.Frames,inR r.At)/\(jx p).length<=room
def iO(s:List UInt8)(c:UInt8):Int:=Go.Lib.indexByte s c
def np(s p:List UInt8):List UInt8×Bool:=(Go.Lib.trimPrefix s p,Go.Lib.hasPrefix s p)
def XW(s p:List UInt8):List UInt8×List UInt8×Bool:=Go.Lib.cut s p
def fg(s p:List UInt8):List (List UInt8):=(Go.Lib.splitB ⟨p.toArray⟩ 0 (Go.Lib.countB ⟨s.toArray⟩ ⟨p.toArray⟩) ⟨s.toArray⟩).map (·.data.toList)
def Zi(s p:List UInt8):Prop:=s.length < 4294967281
def KY(s p:List UInt8):Prop:=s.length < 4294967281/\1<=p.length
def flt(n:Int):Value:=.iface 76 (.agg #[.int .i64 n])
def fnd{α:Type}[Inhabited α](nm:α->List UInt8)(s:List UInt8):List α->α×Bool
 |[]=>(default,false)
 |x::r=>if nm x=s then(x,true)else fnd nm s r
def bG(p:Program)(s:List UInt8):Class×Bool:=fnd (·.Name) s p.Classes
def lJ(p:Program)(s:List UInt8):Func×Bool:=fnd (·.Name) s p.Funcs
def gG(p:Program)(s:List UInt8):Extern×Bool:=fnd (·.Name) s p.Externs
def sv(l:List Var)(s:List UInt8):Var×Bool:=fnd (·.Name) s l
def fR(p:Program)(s:List UInt8):Var×Bool:=sv p.Globals s
def pd(p:Program)(c s:List UInt8):Var×Bool:=sv (bG p c).1.Fields s
def iz(f:Func)(s:List UInt8):Var×Bool:=if(sv f.Params s).2=true then((sv f.Params s).1,true)else sv f.Vars s
def iC(f:Func)(a:Arg):List UInt8×Bool:=
 if a.Kind=1 then((iz f a.S).1.Type_,(iz f a.S).2)
 else if a.Kind=2 then([105,110,116],true)
 else if a.Kind=3 then([102,108,111,97,116],true)
 else if a.Kind=4 then([110,117,108,108],true)
 else([],false)
def iy(t:List UInt8):Bool:=!decide (t=[105,110,116])&&!decide (t=[102,108,111,97,116])
def fj(h w:List UInt8):Bool:=decide (h=w)||(decide (h=[110,117,108,108])&&iy w)
def g9:List (List UInt8)->List Var->Bool
 |[],[]=>true
 |t::l,x::v=>fj t x.Type_&&g9 l v
 |_,_=>false
def vz(f:Func)(t:Term):Bool:=decide (t.Kind=1)||(decide (t.Kind=2)&&(iC f t.A).2&&decide ((iC f t.A).1=[105,110,116]))||(decide (t.Kind=3)&&(iC f t.A).2&&fj (iC f t.A).1 f.Result)||(decide (t.Kind=4)&&decide (10<=t.N))
def mI(l:List (List UInt8)):Bool:=decide l.Nodup
def ij(p:Program)(t:List UInt8):Bool:=!iy t||(bG p t).2
def cV(p:Program)(l:List Var):Bool:=(l.all λx=>ij p x.Type_)&&mI (l.map (·.Name))
def gm(p:Program):Bool:=
 mI (p.Classes.map (·.Name))&&mI (p.Externs.map (·.Name))&&mI (p.Funcs.map (·.Name))&&cV p p.Globals&&(p.Classes.all λc=>cV p c.Fields) &&
 p.Funcs.all λf=>ij p f.Result&&cV p (f.Params++f.Vars)
def jR(p:Program):Prop:=∀f∈p.Funcs,f.Params.length+f.Vars.length<=1000000
def Lw(a b:List UInt8):Bool:=iy a&&(iy b&&(decide (a=b)||(decide (a=[110,117,108,108])||decide (b=[110,117,108,108]))))
def af4(l:List (List UInt8))(t:List UInt8):Bool:=l.all λx=>decide (x=t)
def lQ(q:asked)(a d:List UInt8):Bool:=af4 q.args a&&decide (q.dst=d)
def BN(q:asked):Bool:=(bG q.p q.i.Name).2&&(decide (q.dst=q.i.Name)&&(decide (q.args.length=0)||g9 q.args (bG q.p q.i.Name).1.Fields))
def Ox(q:asked):Prop:=0<q.args.length/\q.args.length=q.i.Args.length
def Oy(q:asked):Prop:=q.i.Op≠29->0<q.args.length
def gP(q:asked):Var×Bool:=if(q.i.Args.getD 0 default).Kind=1 then pd q.p (q.args.getD 0 default) q.i.Name else(default,false)
def oc(q:asked):Bool:=if q.i.Op=29 then(fR q.p q.i.Name).2&&decide ((fR q.p q.i.Name).1.Type_=q.dst)else(fR q.p q.i.Name).2&&fj (q.args.getD 0 default) (fR q.p q.i.Name).1.Type_
def vR(q:asked):Bool:=
 if q.i.Op<=14 then lQ q [105,110,116] [105,110,116]
 else if q.i.Op<=18 then lQ q [102,108,111,97,116] [102,108,111,97,116]
 else if q.i.Op<=21 then lQ q [102,108,111,97,116] [105,110,116]
 else if q.i.Op=22 then lQ q [105,110,116] [102,108,111,97,116]
 else if q.i.Op=23 then lQ q [102,108,111,97,116] [105,110,116]
 else if q.i.Op=24 then fj (q.args.getD 0 default) q.dst
 else if q.i.Op=25 then BN q
 else if q.i.Op=26 then(gP q).2&&decide ((gP q).1.Type_=q.dst)
 else if q.i.Op=27 then(gP q).2&&fj (q.args.getD 1 default) (gP q).1.Type_
 else if q.i.Op=28 then decide (q.dst=[105,110,116])&&Lw (q.args.getD 0 default) (q.args.getD 1 default)
 else if q.i.Op=29\/q.i.Op=30 then oc q
 else if q.i.Op=31 then(lJ q.p q.i.Name).2&&(g9 q.args (lJ q.p q.i.Name).1.Params&&decide (q.dst=(lJ q.p q.i.Name).1.Result))
 else if q.i.Op=32 then(gG q.p q.i.Name).2&&(decide ((q.args.length:Int)=(gG q.p q.i.Name).1.N)&&lQ q [105,110,116] [105,110,116])
 else if q.i.Op=33 then !iy (q.args.getD 0 default)
 else true
def Bb(q:asked):Prop:=(Of q.i.Op).2=true/\q.args.length=q.i.Args.length/\(Of q.i.Op).1.Least<=(q.args.length:Int)/\(q.args.length:Int)<=(Of q.i.Op).1.Most
def jo(f:Func)(i:Instr):Bool:=(Of i.Op).2&&(decide ((Of i.Op).1.Least<=(i.Args.length:Int))&&(decide ((i.Args.length:Int)<=(Of i.Op).1.Most)&&(!(Of i.Op).1.Dst||(iz f i.Dst).2)))
def l4(f:Func)(l:List Arg):List (List UInt8):=l.map λa=>(iC f a).1
def IX(f:Func)(i:Instr):List UInt8:=if(Of i.Op).1.Dst=true then(iz f i.Dst).1.Type_ else []
def pu(p:Program)(f:Func)(i:Instr):asked×Bool:=if(jo f i&&i.Args.all λa=>(iC f a).2)=true then(⟨p,i,IX f i,l4 f i.Args⟩,true)else(default,false)
def vm(_:Program)(_:Func)(i:Instr):Prop:=i.Args.length<=1000000
def afK:=vm
def Zl:=vm
def lP(p:Program)(f:Func)(i:Instr):Bool:=(pu p f i).2&&vR (pu p f i).1
def rsz:List Block->Int->Int
 |[],n=>n
 |b::r,n=>rsz r (i64.wrap (n+(b.Code.length:Int)))
def vw(f:Func):Int:=rsz f.Blocks 0
def vp(_:Func):Prop:=True
def A8(i:Instr):Bool:=decide (i.Frames.length=0)&&decide (i.Objs.length=0)
def tK(b:Block):Bool:=decide (b.Phis.length=0)&&b.Code.all A8
def mK(f:Func):Bool:=f.Blocks.all tK
def jz(p:Program):Bool:=p.Funcs.all mK&&!p.SSA
def vn(f:Func):Prop:=∀b∈f.Blocks,∀i∈b.Code,i.Frames.length+i.Objs.length<=1000000
def qB(f:Func):Bool:=!mK f
def sb(f:Func):Bool:=!decide (32 < (f.Blocks.length:Int))&&(!decide (200<vw f)&&!decide (16<i64.wrap ((f.Params.length:Int)+(f.Vars.length:Int))))
def iK(p:Program):Bool:=p.Funcs.all sb
def DZ(_:Program):Prop:=True
def tX(p:Program)(f:Func)(b:Block):Bool:=(b.Code.all λi=>lP p f i)&&vz f b.End
def kn(p:Program)(f:Func):Bool:=f.Blocks.all (tX p f)
def lI(_:Program)(f:Func):Prop:=∀b∈f.Blocks,∀i∈b.Code,i.Args.length<=1000000
abbrev nmB(B:List Block)(i:Nat):List UInt8:=(B.getD i default).Name
abbrev toB(B:List Block)(i:Nat):List (List UInt8):=(B.getD i default).End.To
inductive Rc (B:List Block):Nat->Prop
 |first:0<B.length->Rc B 0
 |next (i k:Nat):Rc B i->i<B.length->k<B.length->nmB B k∈toB B i->Rc B k
structure Gd (B:List Block):Prop where
 ps:0<B.length
 nd:∀i j,i<B.length->j<B.length->nmB B i=nmB B j->i=j
 tn:∀i,i<B.length->(toB B i).Nodup
 tr:∀i,i<B.length->∀s∈toB B i,∃k,k<B.length/\k≠0/\nmB B k=s
 re:∀k,k<B.length->Rc B k
noncomputable def M5(P:Prop):Bool:=@decide P (Classical.propDecidable P)
variable{P:Prop}
theorem qi(h:P):M5 P=true:=@decide_eq_true P (Classical.propDecidable P) h
theorem tg(h:¬ P):M5 P=false:=@decide_eq_false P (Classical.propDecidable P) h
theorem rz:M5 P=true ↔ P:=@decide_eq_true_iff P (Classical.propDecidable P)
def Zm(f:Func):Prop:=f.Blocks.length<=1000000/\∀b∈f.Blocks,b.End.To.length<=1000000
noncomputable def dR(f:Func):Bool:=M5 (Gd f.Blocks)
def jE(s:List UInt8):List Block->Int->Int×Bool
 |[],_=>(0,false)
 |b::r,i=>if b.Name=s then(i,true)else jE s r (i+1)
def aR(f:Func)(s:List UInt8):Int×Bool:=jE s f.Blocks 0
def B3{α:Type}[DecidableEq α](v:α):List α->Int->Int
 |[],_=>-1
 |x::r,i=>if v=x then i else B3 v r (i+1)
def JE(l:List Int)(v:Int):Int:=B3 v l 0
def Ao(l:List Int)(v:Int):Bool:=decide (0<=JE l v)
def JF(l:List (List UInt8))(v:List UInt8):Int:=B3 v l 0
def wE(l:List (List UInt8))(v:List UInt8):Bool:=decide (0<=JF l v)
def sJ(f:Func):Prop:=f.Blocks.length<=1000000/\∀b∈f.Blocks,b.End.To.length<=1000000
def pc(f:Func)(s:List UInt8):Option Int:=if(aR f s).2=true then some (aR f s).1 else none
def jN(f:Func):List (List Int):=f.Blocks.map λb=>b.End.To.filterMap (pc f)
def vo(g:List (List Int)):Prop:=g.length<=1000000/\∀l∈g,l.length<=1000000
def QW(g:List (List Int))(k:Nat):List Int:=((List.range g.length).filter λi=>decide ((k:Int)∈g.getD i [])).map λ(i:Nat)=>(i:Int)
def iM(g:List (List Int)):List (List Int):=(List.range g.length).map (QW g)
def A9(g:List (List Int)):Prop:=vo g/\0<g.length/\∀l∈g,∀k∈l,0<=k/\k < (g.length:Int)
inductive Gr (g:List (List Int)):Nat->Prop
 |first:Gr g 0
 |next (i k:Nat):Gr g i->(k:Int)∈g.getD i []->Gr g k
structure Od (g:List (List Int)) (l:List Int):Prop where
 lt:∀k∈l,0<=k/\k < (g.length:Int)
 all:∀k,Gr g k->(k:Int)∈l
 nd:l.Nodup
 pr:∀i,i<l.length->l.getD i 0≠0->∃j,j<i/\l.getD i 0∈g.getD (l.getD j 0).toNat []
def DX(g:List (List Int))(l:List Int):Prop:=Od g l
abbrev Vs:=Option (List (List UInt8×Bool))
def bE(s:Vs)(v:List UInt8):Bool:=((Go.Am.aU .s (s.getD []) v).getD false)
def okV(s:Vs)(n:Nat):Prop:=∃l,s=some l/\(l.map (·.1)).Nodup/\(∀x∈l,x.2=true)/\l.length<=n
def Cn(s:Vs)(l:List (List UInt8)):Vs:=some (l.foldl (λm v=>Go.Am.dz .s m v true) (s.getD []))
def Iu(f:Func):Vs:=Cn (some []) (f.Params.map (·.Name))
def xH(s:Vs)(_:Block):Prop:=s.isSome=true
def mB(s:Vs)(b:Block):Vs:=Cn s (b.Phis.map (·.Dst))
def dp(b:Block):List (List UInt8):=(b.Code.map (·.Dst)).filter λd=>!decide (d=[])
def jg(s:Vs)(b:Block):Vs:=Cn s (dp b)
def QT(a b:Vs):Prop:=a=none\/∃n,okV a n
def KS(a b y:Vs):Prop:=(a=none->y=b)/\(a≠none->(∀n,okV a n->okV y n)/\∀v,bE y v=(bE a v&&bE b v))
abbrev bkB(f:Func)(i:Nat):Block:=f.Blocks.getD i default
abbrev phB(f:Func)(i:Nat):List (List UInt8):=(bkB f i).Phis.map (·.Dst)
inductive Bare (f:Func) (v:List UInt8):Nat->Prop
 |first:v ∉ f.Params.map (·.Name)->Bare f v 0
 |next (i k:Nat):Bare f v i->v ∉ phB f i->v ∉ dp (bkB f i)->i<f.Blocks.length->k<f.Blocks.length->nmB f.Blocks k∈toB f.Blocks i->Bare f v k
def aj2(f:Func):Nat:=(f.Params.map (·.Name)++f.Blocks.flatMap λb=>b.Phis.map (·.Dst)++b.Code.map (·.Dst)).length
def vk(f:Func):Prop:=sJ f/\Gd f.Blocks/\f.Params.length<=1000000/\∀b∈f.Blocks,b.Phis.length<=1000000/\b.Code.length<=1000000
def adW(f:Func)(y:List Vs):Prop:=y.length=f.Blocks.length/\∀k,k<f.Blocks.length->(y.getD k none).isSome=true/\∀v,bE (y.getD k none) v=true ↔ (¬ Bare f v k\/v∈phB f k)
def qw(f:Func)(y:List Vs):Prop:=adW f y/\∀k,k<f.Blocks.length->okV (y.getD k none) (aj2 f)
def pV(i:Instr)(v:List UInt8):Prop:=(∃a∈i.Args,a.Kind=1/\a.S=v)\/(∃f∈i.Frames,∃b∈f.Vars,b.A.Kind=1/\b.A.S=v)\/∃o∈i.Objs,∃a∈o.Vals,a.Kind=1/\a.S=v
def Ep(i:Instr):Nat:=i.Args.length+(i.Frames.map λf=>f.Vars.length).sum+(i.Objs.map λo=>o.Vals.length).sum
def iT(i:Instr):Prop:=Ep i<=1000000
def lG(s:Vs):Prop:=s.isSome=true/\(s.getD []).length<=1000000
def vj(i:Instr)(l:List (List UInt8)):Prop:=∀v,v∈l ↔ pV i v
def jv(s:Vs)(l:List (List UInt8)):Prop:=(∀v,v∈l ↔ v∈(s.getD []).map (·.1))/\l.length<=(s.getD []).length
def mU(P:List UInt8->Prop)(b:Block):Prop:=(∀j,j<b.Code.length->∀v,pV (b.Code.getD j default) v->P v\/v∈((b.Code.take j).map (·.Dst)).filter λd=>!decide (d=[]))/\((b.End.Kind=2\/b.End.Kind=3)->b.End.A.Kind=1->P b.End.A.S\/b.End.A.S∈dp b)
def Zh(s:Vs)(b:Block):Prop:=s.isSome=true/\∀x∈b.Code,iT x
noncomputable def oA(s:Vs)(b:Block):Bool:=M5 (mU (λv=>bE s v=true) b)
def tw(a:List UInt8)(s:List UInt8):List Block->Bool
 |[]=>false
 |b::r=>if b.Name=s then wE b.End.To a else tw a s r
def yp(f:Func)(s a:List UInt8):Bool:=tw a s f.Blocks
def qu(f:Func)(o:Option (List (List UInt8×Vs)))(b:Block)(i:In):Bool:=!((Go.Am.aU .s (o.getD []) i.Block).isSome&&yp f i.Block b.Name)||(!decide (i.A.Kind=1)||bE ((Go.Am.aU .s (o.getD []) i.Block).getD none) i.A.S)
def EJ(f:Func)(o:Option (List (List UInt8×Vs))):Bool:=f.Blocks.all λb=>b.Phis.all λx=>x.Ins.all (qu f o b)
def Ow(f:Func):Prop:=vk f/\∀b∈f.Blocks,∀x∈b.Code,iT x
def zt(f:Func)(k:Nat)(v:List UInt8):Prop:=(¬ Bare f v k\/v∈phB f k)\/v∈dp (bkB f k)
def sS(f:Func):Prop:=∀b∈f.Blocks,∀x∈b.Phis,∀i∈x.Ins,∀k,k<f.Blocks.length->nmB f.Blocks k=i.Block->b.Name∈toB f.Blocks k->i.A.Kind=1->zt f k i.A.S
noncomputable def gO(f:Func):Bool:=M5 ((∀k,k<f.Blocks.length->mU (λv=>¬ Bare f v k\/v∈phB f k) (bkB f k))/\sS f)
noncomputable def tU(p:Program):List Func->Int
 |[]=>0
 |f::r=>if dR f=false then 5 else if kn p f=false then 4 else if gO f=false then 4 else tU p r
def bZ(p:Program):Prop:=jR p/\∀f∈p.Funcs,lI p f/\sJ f/\f.Params.length<=1000000/\(∀b∈f.Blocks,b.Phis.length<=1000000/\b.Code.length<=1000000)/\∀b∈f.Blocks,∀x∈b.Code,iT x
noncomputable def bq(p:Program):Int:=if aY p=false\/jz p=false then 3 else if iK p=false then 2 else if gm p=false then 4 else tU p p.Funcs
def yq:Bool:=true
end Lt
end

section
namespace Go.Am
open Go
def GF(a:UInt8)(KK:Bool->Prop):Prop:=aa (α:=Bool) (λb=>if decide ((((97:UInt8).toNat:Nat):Int)<=((a.toNat:Nat):Int))then(if decide (((a.toNat:Nat):Int)<=(((122:UInt8).toNat:Nat):Int))then(b true)else(if decide ((((65:UInt8).toNat:Nat):Int)<=((a.toNat:Nat):Int))then(if decide (((a.toNat:Nat):Int)<=(((90:UInt8).toNat:Nat):Int))then(b true)else(b (decide (((a.toNat:Nat):Int)=(((95:UInt8).toNat:Nat):Int)))))else(b (decide (((a.toNat:Nat):Int)=(((95:UInt8).toNat:Nat):Int))))))else(if decide ((((65:UInt8).toNat:Nat):Int)<=((a.toNat:Nat):Int))then(if decide (((a.toNat:Nat):Int)<=(((90:UInt8).toNat:Nat):Int))then(b true)else(b (decide (((a.toNat:Nat):Int)=(((95:UInt8).toNat:Nat):Int)))))else(b (decide (((a.toNat:Nat):Int)=(((95:UInt8).toNat:Nat):Int)))))) (λc=>KK c)
def VL(a:List UInt8)(KK:Bool->Prop):Prop:=aa (α:=Bool) (λb=>if decide (a=[110,117,108,108])then(b true)else(if decide (a=[105,110,116])then(b true)else(b (decide (a=[102,108,111,97,116]))))) (λc=>KK c)
def xt(a:UInt8)(KK:Bool->Prop):Prop:=if decide ((((48:UInt8).toNat:Nat):Int)<=((a.toNat:Nat):Int))then(KK (decide (((a.toNat:Nat):Int)<=(((57:UInt8).toNat:Nat):Int))))else(KK false)
def VF(a:List UInt8)(KK:Bool->Prop):Prop:=aa (α:=Bool) (λb=>if decide (a=([]:List UInt8))then(b true)else(if decide (16 < (a.length:Int))then(b true)else(((0:Int)<=0/\0<a.length)/\if !(Lt.letter (a.getD 0 0))then(b true)else(b (Lt.kept a))))) (λe=>if e then(KK false)else((a.length<=4611686018427387904->ab (α:=Int) (λd v4=>if decide (v4 < (a.length:Int))then(aa (α:=Bool) (λc=>(0<=v4/\v4.toNat<a.length)/\if !(Lt.letter (a.getD v4.toNat 0))then((0<=v4/\v4.toNat<a.length)/\c (!(kY (a.getD v4.toNat 0))))else(c false)) (λf=>if f then(KK false)else(d (i64.wrap (v4+1)))))else(KK true)) 0)))
def VN(a:List UInt8)(KK:Bool->Prop):Prop:=aa (α:=Bool) (λb=>if decide (a=[105,110,116])then(b true)else(if decide (a=[102,108,111,97,116])then(b true)else(b (Lt.Name a)))) (λc=>KK c)
def PO(a:List Lt.Var)(b:Int)(KK:Bool->Prop):Prop:=(a.length<=4611686018427387904->if decide (b < (a.length:Int))then(KK false)else((a.length<=4611686018427387904->ab (α:=Int) (λe c=>if decide (c < (a.length:Int))then((0<=c/\c.toNat<a.length)/\aa (α:=Bool) (λd=>if !(Lt.Name ((a.getD c.toNat default).Name))then(d true)else(d (!(Lt.kind ((a.getD c.toNat default).Type_))))) (λv4=>if v4 then(KK false)else(e (i64.wrap (c+1)))))else(KK true)) 0)))
def Pm(a:Int)(KK:Int->Prop):Prop:=aa (α:=Bool) (λb=>if decide ((i64.wrap ((BitVec.ofInt i64.bits a &&& BitVec.ofInt i64.bits 9218868437227405312).toNat:Nat))=9218868437227405312)then(b (!decide ((i64.wrap ((BitVec.ofInt i64.bits a &&& BitVec.ofInt i64.bits 4503599627370495).toNat:Nat))=0)))else(b false)) (λc=>if c then(KK 9221120237041090560)else(KK a))
def xu(a:Lt.Arg)(KK:Bool->Prop):Prop:=if decide (a.Kind=1)then(if Lt.Name a.S then(KK (decide (a.N=0)))else(KK false))else(if decide (a.Kind=2)then(KK (decide (a.S=([]:List UInt8))))else(if decide (a.Kind=3)then(aa (α:=Bool) (λb=>if decide (a.S=([]:List UInt8))then((b (decide ((Lt.Plain a.N)=a.N)))/\(b (decide ((Lt.Plain a.N)=a.N))))else((b false)/\(b false))) (λd=>KK d))else(if decide (a.Kind=4)then(if decide (a.S=([]:List UInt8))then(KK (decide (a.N=0)))else(KK false))else(if decide (a.Kind=5)then(aa (α:=Bool) (λc=>if decide (a.S=([]:List UInt8))then(if decide (0<=a.N)then(c (decide (a.N<=999)))else(c false))else(c false)) (λv4=>KK v4))else(KK false)))))
def zb(a:List Lt.Arg)(b:Bool)(KK:Bool->Prop):Prop:=(a.length<=4611686018427387904->ab (α:=Int) (λe c=>if decide (c < (a.length:Int))then((0<=c/\c.toNat<a.length)/\aa (α:=Bool) (λd=>if !(bk (a.getD c.toNat default))then(d true)else(if decide ((a.getD c.toNat default).Kind=5)then(d (!b))else(d false))) (λv4=>if v4 then(KK false)else(e (i64.wrap (c+1)))))else(KK true)) 0)
def CU(a:Lt.Term)(KK:Bool->Prop):Prop:=(a.To.length<=4611686018427387904->ab (α:=Int) (λf b=>if decide (b < (a.To.length:Int))then((0<=b/\b.toNat<a.To.length)/\if !(Lt.Name (a.To.getD b.toNat default))then(KK false)else(f (i64.wrap (b+1))))else(if decide (a.Kind=1)then(aa (α:=Bool) (λd=>if decide (a.A.Kind=0)&&(decide (a.A.S=([]:List UInt8))&&decide (a.A.N=0))then(if decide ((a.To.length:Int)=1)then(d (decide (a.N=0)))else(d false))else(d false)) (λv4=>KK v4))else(if decide (a.Kind=2)then(aa (α:=Bool) (λc=>if cb [a.A] false then(if decide ((a.To.length:Int)=2)then(c (decide (a.N=0)))else(c false))else(c false)) (λg=>KK g))else(if decide (a.Kind=3)then(aa (α:=Bool) (λe=>if cb [a.A] false then(if decide ((a.To.length:Int)=0)then(e (decide (a.N=0)))else(e false))else(e false)) (λh=>KK h))else(if decide (a.Kind=4)then(if decide (a.A.Kind=0)&&(decide (a.A.S=([]:List UInt8))&&decide (a.A.N=0))then(KK (decide ((a.To.length:Int)=0)))else(KK false))else(KK false)))))) 0)
def aeW(a:Lt.Phi)(KK:Bool->Prop):Prop:=aa (α:=Bool) (λb=>if !(Lt.Name a.Dst)then(b true)else(if decide ((a.Ins.length:Int)=0)then(b true)else(b (decide (256 < (a.Ins.length:Int)))))) (λe=>if e then(KK false)else((a.Ins.length<=4611686018427387904->ab (α:=Int) (λd v4=>if decide (v4 < (a.Ins.length:Int))then((0<=v4/\v4.toNat<a.Ins.length)/\aa (α:=Bool) (λc=>if !(Lt.Name ((a.Ins.getD v4.toNat default).Block))then(c true)else(c (!(cb [((a.Ins.getD v4.toNat default).A)] false)))) (λf=>if f then(KK false)else(d (i64.wrap (v4+1)))))else(KK true)) 0)))
def aeV(a:List UInt8)(c:Int)(KK:(List UInt8)->Prop):Prop:=ab (α:=Int×Int×Int) (λe b=>(a.length<=4611686018427387904->if decide (b.2.2 < (a.length:Int))then(aa (α:=Int×Int) (λd=>(0<=b.2.2/\b.2.2.toNat<a.length)/\if !decide ((((a.getD b.2.2.toNat 0).toNat:Nat):Int)=(((32:UInt8).toNat:Nat):Int))then(d (b.1,b.2.1))else(if decide ((i64.wrap (b.1 - 1))=0)then((0:Int)<=(i64.wrap (b.2.1+1))/\(0:Int)<=b.2.2/\((i64.wrap (b.2.1+1)).toNat<=b.2.2.toNat/\b.2.2.toNat<=a.length)/\KK ((a.drop (i64.wrap (b.2.1+1)).toNat).take (b.2.2.toNat - (i64.wrap (b.2.1+1)).toNat)))else(d ((i64.wrap (b.1 - 1)),b.2.2)))) (λv4=>e (v4.1,v4.2,(i64.wrap (b.2.2+1)))))else(KK ([]:List UInt8)))) (c,0,1)
def aiK(a:Int)(KK:(Lt.Form×Bool)->Prop):Prop:=aa (α:=Bool) (λc=>if decide (1<=a)then(c (decide (a<=21)))else(c false)) (λd=>if d then(KK ((Lt.Form.mk (Lt.nth (32::97::100::100::32::115::117::98::32::109::117::108::32::100::105::118::32::114::101::109::32::97::110::100::32::111::114::32::120::111::114::32::115::104::108::32::115::104::114::32::101::113::32::110::101::32::108::116::32::108::101::32::102::97::100::100::32::102::115::117::98::32::102::109::117::108::32::102::100::105::118::32::102::101::113::32::102::108::116::32::102::108::101::32::([]:List UInt8)) a) true false 2 2),true))else(aa (α:=Bool) (λb=>if decide (22<=a)then(b (decide (a<=24)))else(b false)) (λv4=>if v4 then(KK ((Lt.Form.mk (Lt.nth [32,105,116,111,102,32,102,116,111,105,32,109,111,118,32] (i64.wrap (a - 21))) true false 1 1),true))else(if decide (a=25)then(KK ((Lt.Form.mk [110,101,119] true true 0 8),true))else(if decide (a=26)then(KK ((Lt.Form.mk [108,111,97,100] true true 1 1),true))else(if decide (a=27)then(KK ((Lt.Form.mk [115,116,111,114,101] false true 2 2),true))else(if decide (a=28)then(KK ((Lt.Form.mk [115,97,109,101] true false 2 2),true))else(if decide (a=29)then(KK ((Lt.Form.mk [103,108,111,97,100] true true 0 0),true))else(if decide (a=30)then(KK ((Lt.Form.mk [103,115,116,111,114,101] false true 1 1),true))else(if decide (a=31)then(KK ((Lt.Form.mk [99,97,108,108] true true 0 8),true))else(if decide (a=32)then(KK ((Lt.Form.mk [101,120,116] true true 0 8),true))else(if decide (a=33)then(KK ((Lt.Form.mk [111,117,116] false false 1 1),true))else(if decide (a=34)then(KK ((Lt.Form.mk [103,117,97,114,100] false false 0 0),true))else(KK ((Lt.Form.mk ([]:List UInt8) false false 0 0),false)))))))))))))))
def Pu(a:Lt.Frame)(KK:Bool->Prop):Prop:=aa (α:=Bool) (λb=>if !(Lt.Name a.Func)then(b true)else(if !(Lt.Name a.Block)then(b true)else(if decide (a.At < 0)then(b true)else(if decide (1024<a.At)then(b true)else(b (decide (16 < (a.Vars.length:Int)))))))) (λe=>if e then(KK false)else((a.Vars.length<=4611686018427387904->ab (α:=Int) (λd v4=>if decide (v4 < (a.Vars.length:Int))then((0<=v4/\v4.toNat<a.Vars.length)/\aa (α:=Bool) (λc=>if !(Lt.Name ((a.Vars.getD v4.toNat default).Name))then(c true)else(c (!(cb [((a.Vars.getD v4.toNat default).A)] true)))) (λf=>if f then(KK false)else(d (i64.wrap (v4+1)))))else(KK true)) 0)))
def Pv(a:Lt.Instr)(KK:Bool->Prop):Prop:=aa (α:=Bool) (λc=>if !((Lt.Of a.Op).2)then(c true)else(if !(((Lt.Of a.Op).1).Dst==(!decide (a.Dst=([]:List UInt8))))then(c true)else(if !(((Lt.Of a.Op).1).Named==(!decide (a.Name=([]:List UInt8))))then(c true)else(if ((Lt.Of a.Op).1).Dst then(if !(Lt.Name a.Dst)then(c true)else(if ((Lt.Of a.Op).1).Named then(c (!(Lt.Name a.Name)))else(c false)))else(if ((Lt.Of a.Op).1).Named then(c (!(Lt.Name a.Name)))else(c false)))))) (λk=>if k then(KK false)else(aa (α:=Bool) (λe=>(a.Args.length<=4611686018427387904->if decide ((a.Args.length:Int) < ((Lt.Of a.Op).1).Least)then(e true)else(if decide (((Lt.Of a.Op).1).Most < (a.Args.length:Int))then(e true)else(if !(cb a.Args false)then(e true)else(if decide (16 < (a.Frames.length:Int))then(e true)else(e (decide (99 < (a.Objs.length:Int))))))))) (λv4=>if v4 then(KK false)else(aa (α:=Bool) (λi=>if !decide (a.Op=31)then(i (!decide (a.Op=34)))else(i false)) (λl=>if l then((a.Frames.length<=4611686018427387904->if decide ((a.Frames.length:Int)=0)then(KK (decide ((a.Objs.length:Int)=0)))else(KK false)))else((a.Frames.length<=4611686018427387904->ab (α:=Int) (λm f=>if decide (f < (a.Frames.length:Int))then((0<=f/\f.toNat<a.Frames.length)/\if !(Lt.frame (a.Frames.getD f.toNat default))then(KK false)else(m (i64.wrap (f+1))))else((a.Objs.length<=4611686018427387904->ab (α:=Int) (λj b=>have h:=a.Objs.getD b.toNat default;if decide (b < (a.Objs.length:Int))then((0<=b/\b.toNat<a.Objs.length)/\aa (α:=Bool) (λd=>if !(Lt.Name (h.Class))then(d true)else(if decide (8 < ((h.Vals).length:Int))then(d true)else(d (!(cb (h.Vals) true))))) (λg=>if g then(KK false)else(j (i64.wrap (b+1)))))else(KK true)) 0))) 0)))))))
def Ps(a:Lt.Block)(KK:Bool->Prop):Prop:=aa (α:=Bool) (λc=>if !(Lt.Name a.Name)then(c true)else(c (!(fJ a.End)))) (λe=>if e then(KK false)else((a.Phis.length<=4611686018427387904->ab (α:=Int) (λd v4=>if decide (v4 < (a.Phis.length:Int))then((0<=v4/\v4.toNat<a.Phis.length)/\if !(Lt.phi (a.Phis.getD v4.toNat default))then(KK false)else(d (i64.wrap (v4+1))))else((a.Code.length<=4611686018427387904->ab (α:=Int) (λf b=>if decide (b < (a.Code.length:Int))then((0<=b/\b.toNat<a.Code.length)/\if !(Lt.instr (a.Code.getD b.toNat default))then(KK false)else(f (i64.wrap (b+1))))else(KK true)) 0))) 0)))
def pM(a:Lt.Func)(KK:Bool->Prop):Prop:=aa (α:=Bool) (λc=>if !(Lt.Name a.Name)then(c true)else(if !(Lt.kind a.Result)then(c true)else(if !(Lt.typed a.Params 6)then(c true)else(if !(Lt.typed a.Vars 1024)then(c true)else(if decide ((a.Blocks.length:Int)=0)then(c true)else(c (decide (256 < (a.Blocks.length:Int))))))))) (λi=>if i then(KK false)else((a.Blocks.length<=4611686018427387904->ab (α:=Int×Int) (λg v4=>have b:=a.Blocks.getD v4.2.toNat default;have f:=(i64.wrap (v4.1+(i64.wrap (((b.Phis).length:Int)+((b.Code).length:Int)))));if decide (v4.2 < (a.Blocks.length:Int))then((0<=v4.2/\v4.2.toNat<a.Blocks.length)/\aa (α:=Bool) (λd=>((b.Phis).length<=4611686018427387904->if decide (1024 < ((b.Phis).length:Int))then(d true)else(d (decide (1024 < ((b.Code).length:Int)))))) (λj=>if j then(KK false)else(((b.Phis).length<=4611686018427387904->((b.Code).length<=4611686018427387904->aa (α:=Bool) (λe=>if decide (1024<f)then(e true)else(e (!(Lt.block (Lt.Block.mk (b.Name) (b.Phis) (b.Code) (Lt.Term.mk ((b.End).Kind) ((b.End).A) ((b.End).To) ((b.End).N))))))) (λh=>if h then(KK false)else(g (f,(i64.wrap (v4.2+1))))))))))else(KK true)) (0,0))))
def xr(a:Lt.Program)(KK:Bool->Prop):Prop:=aa (α:=Bool) (λd=>(a.Classes.length<=4611686018427387904->if decide (8 < (a.Classes.length:Int))then(d true)else(if decide (8 < (a.Externs.length:Int))then(d true)else(if decide (8 < (a.Funcs.length:Int))then(d true)else(d (!(Lt.typed a.Globals 8))))))) (λk=>if k then(KK false)else((a.Classes.length<=4611686018427387904->ab (α:=Int) (λj v4=>if decide (v4 < (a.Classes.length:Int))then((0<=v4/\v4.toNat<a.Classes.length)/\aa (α:=Bool) (λi=>if !(Lt.Name ((a.Classes.getD v4.toNat default).Name))then(i true)else(i (!(Lt.typed ((a.Classes.getD v4.toNat default).Fields) 8)))) (λl=>if l then(KK false)else(j (i64.wrap (v4+1)))))else((a.Externs.length<=4611686018427387904->ab (α:=Int) (λm c=>have e:=a.Externs.getD c.toNat default;if decide (c < (a.Externs.length:Int))then((0<=c/\c.toNat<a.Externs.length)/\aa (α:=Bool) (λg=>if !(Lt.Name (e.Name))then(g true)else(if decide (e.N < 0)then(g true)else(g (decide (8<e.N))))) (λh=>if h then(KK false)else(m (i64.wrap (c+1)))))else((a.Funcs.length<=4611686018427387904->ab (α:=Int) (λf b=>if decide (b < (a.Funcs.length:Int))then((0<=b/\b.toNat<a.Funcs.length)/\if !(aF (a.Funcs.getD b.toNat default))then(KK false)else(f (i64.wrap (b+1))))else(KK true)) 0))) 0))) 0)))
def Pp(a:Lt.Func)(KK:(List (Option (List ((List UInt8)×Bool))))->Prop):Prop:=have z5:=(a.Blocks.length:Int);have p:=((0:Int)<=z5/\z5<=4611686018427387904/\8*z5.toNat<=281474976710656);(sJ a)/\(vo (jN a))/\(A9 (jN a))/\(∀h:List Int,DX (jN a) h->(a.Blocks.length<=4611686018427387904->p/\(a.Blocks.length<=4611686018427387904->p/\ab (α:=List (Option (List ((List UInt8)×Bool)))×List (Option (List ((List UInt8)×Bool)))×Bool) (λu v3=>if v3.2.2 then((h.length<=4611686018427387904->ab (α:=List (Option (List ((List UInt8)×Bool)))×List (Option (List ((List UInt8)×Bool)))×Bool×Int) (λt v5=>have b:=h.getD v5.2.2.2.toNat default;have l:=((0:Int)<=b/\b < ((v5.1.length:Nat):Int));have k:=(iM (jN a)).getD b.toNat [];have z4:=a.Blocks.getD b.toNat default;have d:=Lt.Block.mk (z4.Name) (z4.Phis) (z4.Code) (Lt.Term.mk ((z4.End).Kind) ((z4.End).A) ((z4.End).To) ((z4.End).N));if decide (v5.2.2.2 < (h.length:Int))then((0<=v5.2.2.2/\v5.2.2.2.toNat<h.length)/\aa (α:=Option (List ((List UInt8)×Bool))) (λq=>if decide (b=0)then(q (Iu a))else(q none)) (λv=>(0<=b/\b.toNat < (iM (jN a)).length)/\(k.length<=4611686018427387904->ab (α:=Option (List ((List UInt8)×Bool))×Int) (λr v9=>have z3:=k.getD v9.2.toNat default;if decide (v9.2 < (k.length:Int))then(aa (α:=Option (List ((List UInt8)×Bool))) (λg=>(0<=v9.2/\v9.2.toNat<k.length)/\((0:Int)<=z3/\z3 < ((v5.2.1.length:Nat):Int))/\if !(v5.2.1.getD z3.toNat default).isNone then(((0:Int)<=z3/\z3 < ((v5.2.1.length:Nat):Int))/\(QT v9.1 (v5.2.1.getD z3.toNat default))/\(∀i:Option (List ((List UInt8)×Bool)),KS v9.1 (v5.2.1.getD z3.toNat default) i->g i))else(g v9.1)) (λm=>r (m,(i64.wrap (v9.2+1)))))else(aa (α:=Option (List ((List UInt8)×Bool))) (λe=>if v9.1.isNone then(e (some []))else(e v9.1)) (λc=>(0<=b/\b.toNat<a.Blocks.length)/\(xH c d)/\aa (α:=Bool) (λf=>aa (α:=Bool) (λj=>l/\if (v5.1.getD b.toNat default).isNone then(j true)else(l/\((v5.1.getD b.toNat default).getD []).length<=4611686018427387904/\((mB c d).getD []).length<=4611686018427387904/\j (!decide ((((v5.1.getD b.toNat default).getD []).length:Int)=(((mB c d).getD []).length:Int))))) (λn=>if n then(f true)else(f v5.2.2.1))) (λo=>(0<=b/\b.toNat<a.Blocks.length)/\(xH (mB c d) d)/\l/\b.toNat<v5.1.length/\((0:Int)<=b/\b < ((v5.2.1.length:Nat):Int))/\b.toNat<v5.2.1.length/\t ((v5.1.set b.toNat (mB c d)),(v5.2.1.set b.toNat (jg (mB c d) d)),o,(i64.wrap (v5.2.2.2+1))))))) (v,0))))else(u (v5.1,v5.2.1,v5.2.2.1))) (v3.1,v3.2.1,false,0)))else(KK v3.1)) ((List.replicate z5.toNat (dflt (.mp .s .bo))),(List.replicate z5.toNat (dflt (.mp .s .bo))),true))))
def CC(a:Lt.Func)(KK:Bool->Prop):Prop:=(vk a)/\(∀d:List (Option (List ((List UInt8)×Bool))),qw a d->(d.length<=4611686018427387904->ab (α:=Int×List ((List UInt8)×(Option (List ((List UInt8)×Bool))))) (λf v3=>have z4:=d.getD v3.1.toNat default;have z3:=(0<=v3.1/\v3.1.toNat<a.Blocks.length);have b:=a.Blocks.getD v3.1.toNat default;have c:=Lt.Block.mk (b.Name) (b.Phis) (b.Code) (Lt.Term.mk ((b.End).Kind) ((b.End).A) ((b.End).To) ((b.End).N));if decide (v3.1 < (d.length:Int))then(aa (α:=List ((List UInt8)×(Option (List ((List UInt8)×Bool))))) (λe=>(0<=v3.1/\v3.1.toNat<d.length)/\z3/\(Zh z4 c)/\if !(oA z4 c)then(KK false)else(z3/\(z3/\(xH z4 c)/\e (dz .s v3.2 (b.Name) (jg z4 c)))/\((xH z4 c)/\z3/\e (dz .s v3.2 (b.Name) (jg z4 c))))) (λv5=>f ((i64.wrap (v3.1+1)),v5)))else(KK (EJ a (some v3.2)))) (0,[])))
def CB(d:Option (List ((List UInt8)×Bool)))(a:Lt.Block)(KK:Bool->Prop):Prop:=d.isSome=true/\(a.Code.length<=4611686018427387904->ab (α:=Int×List ((List UInt8)×Bool)) (λj c=>have f:=a.Code.getD c.1.toNat default;if decide (c.1 < (a.Code.length:Int))then(aa (α:=List ((List UInt8)×Bool)) (λi=>(0<=c.1/\c.1.toNat<a.Code.length)/\aa (α:=Bool) (λh=>(iT f)/\(∀e:List (List UInt8),vj f e->(e.length<=4611686018427387904->ab (α:=Int) (λk v9=>if decide (v9 < (e.length:Int))then((0<=v9/\v9.toNat<e.length)/\if !((aU (β:=Bool) .s c.2 (e.getD v9.toNat default)).getD (dflt .bo))then(h true)else(k (i64.wrap (v9+1))))else(h false)) 0))) (λl=>if l then(KK false)else(if !decide (f.Dst=([]:List UInt8))then(i (dz .s c.2 (f.Dst) true))else(i c.2)))) (λv4=>j ((i64.wrap (c.1+1)),v4)))else(aa (α:=Bool) (λb=>if !decide (a.End.Kind=2)then(if !decide (a.End.Kind=3)then(b true)else(if !decide (a.End.A.Kind=1)then(b true)else(b ((aU (β:=Bool) .s c.2 a.End.A.S).getD (dflt .bo)))))else(if !decide (a.End.A.Kind=1)then(b true)else(b ((aU (β:=Bool) .s c.2 a.End.A.S).getD (dflt .bo))))) (λg=>KK g))) (0,(d.getD [])))
def VH(a:Lt.Func)(b:Option (List ((List UInt8)×(Option (List ((List UInt8)×Bool))))))(KK:Bool->Prop):Prop:=(a.Blocks.length<=4611686018427387904->ab (α:=Int) (λh c=>have e:=a.Blocks.getD c.toNat default;if decide (c < (a.Blocks.length:Int))then((0<=c/\c.toNat<a.Blocks.length)/\((e.Phis).length<=4611686018427387904->ab (α:=Int) (λi v4=>have f:=((e.Phis).getD v4.toNat default).Ins;if decide (v4 < ((e.Phis).length:Int))then((0<=v4/\v4.toNat < (e.Phis).length)/\(f.length<=4611686018427387904->ab (α:=Int) (λk d=>have z4:=f.getD d.toNat default;have z3:=aU (β:=Option (List ((List UInt8)×Bool))) .s (b.getD []) (z4.Block);if decide (d < (f.length:Int))then((0<=d/\d.toNat<f.length)/\aa (α:=Bool) (λg=>if z3.isSome then(if yp a (z4.Block) (e.Name)then(if !decide ((z4.A).Kind=1)then(g false)else(g (!((aU (β:=Bool) .s ((z3.getD (dflt (.mp .s .bo))).getD []) ((z4.A).S)).getD (dflt .bo)))))else(g false))else(g false)) (λj=>if j then(KK false)else(k (i64.wrap (d+1)))))else(i (i64.wrap (v4+1)))) 0))else(h (i64.wrap (c+1)))) 0))else(KK true)) 0)
def Rs(a:Lt.Func)(b:List UInt8)(c:List UInt8)(KK:Bool->Prop):Prop:=(a.Blocks.length<=4611686018427387904->ab (α:=Int) (λe d=>if decide (d < (a.Blocks.length:Int))then((0<=d/\d.toNat<a.Blocks.length)/\if decide ((a.Blocks.getD d.toNat default).Name=b)then(KK (wE (((a.Blocks.getD d.toNat default).End).To) c))else(e (i64.wrap (d+1))))else(KK false)) 0)
def GG(a:Lt.Instr)(KK:(List (List UInt8))->Prop):Prop:=(a.Args.length<=4611686018427387904->ab (α:=Int×List ((List UInt8)×Bool)) (λr d=>if decide (d.1 < (a.Args.length:Int))then(aa (α:=List ((List UInt8)×Bool)) (λo=>(0<=d.1/\d.1.toNat<a.Args.length)/\if decide ((a.Args.getD d.1.toNat default).Kind=1)then(o (dz .s d.2 ((a.Args.getD d.1.toNat default).S) true))else(o d.2)) (λv4=>r ((i64.wrap (d.1+1)),v4)))else((a.Frames.length<=4611686018427387904->ab (α:=Int×List ((List UInt8)×Bool)) (λq f=>have g:=(a.Frames.getD f.1.toNat default).Vars;if decide (f.1 < (a.Frames.length:Int))then((0<=f.1/\f.1.toNat<a.Frames.length)/\(g.length<=4611686018427387904->ab (α:=Int×List ((List UInt8)×Bool)) (λt e=>if decide (e.1 < (g.length:Int))then(aa (α:=List ((List UInt8)×Bool)) (λp=>(0<=e.1/\e.1.toNat<g.length)/\if decide (((g.getD e.1.toNat default).A).Kind=1)then(p (dz .s e.2 (((g.getD e.1.toNat default).A).S) true))else(p e.2)) (λn=>t ((i64.wrap (e.1+1)),n)))else(q ((i64.wrap (f.1+1)),e.2))) (0,f.2)))else((a.Objs.length<=4611686018427387904->ab (α:=Int×List ((List UInt8)×Bool)) (λm c=>have i:=(a.Objs.getD c.1.toNat default).Vals;if decide (c.1 < (a.Objs.length:Int))then((0<=c.1/\c.1.toNat<a.Objs.length)/\(i.length<=4611686018427387904->ab (α:=Int×List ((List UInt8)×Bool)) (λk b=>if decide (b.1 < (i.length:Int))then(aa (α:=List ((List UInt8)×Bool)) (λh=>(0<=b.1/\b.1.toNat<i.length)/\if decide ((i.getD b.1.toNat default).Kind=1)then(h (dz .s b.2 ((i.getD b.1.toNat default).S) true))else(h b.2)) (λl=>k ((i64.wrap (b.1+1)),l)))else(m ((i64.wrap (c.1+1)),b.2))) (0,c.2)))else((lG (some c.2))/\(∀j:List (List UInt8),jv (some c.2) j->KK j))) (0,f.2)))) (0,d.2)))) (0,[]))
def yX(a:Lt.Program)(KK:Int->Prop):Prop:=have z3:=(([(Lt.Asked.mk (Lt.Clo.mk 18 [.Program a]) 3),(Lt.Asked.mk (Lt.Clo.mk 21 [.Program a]) 2),(Lt.Asked.mk (Lt.Clo.mk 23 [.Program a]) 4)].length:Nat):Int);([(Lt.Asked.mk (Lt.Clo.mk 18 [.Program a]) 3),(Lt.Asked.mk (Lt.Clo.mk 21 [.Program a]) 2),(Lt.Asked.mk (Lt.Clo.mk 23 [.Program a]) 4)].length<=4611686018427387904->((0:Int)<=0/\0<z3)/\if aY a then(if !(jz a)then(KK 3)else(((0:Int)<=1/\1<z3)/\(DZ a)/\if !(iK a)then(KK 2)else(((0:Int)<=2/\2<z3)/\(jR a)/\if !(gm a)then(KK 4)else((a.Funcs.length<=4611686018427387904->ab (α:=Int) (λe c=>have b:=a.Funcs.getD c.toNat default;have d:=(([(Lt.Asked.mk (Lt.Clo.mk 25 [.Func b]) 5),(Lt.Asked.mk (Lt.Clo.mk 27 [.Program a,.Func b]) 4),(Lt.Asked.mk (Lt.Clo.mk 29 [.Func b]) 4)].length:Nat):Int);if decide (c < (a.Funcs.length:Int))then((0<=c/\c.toNat<a.Funcs.length)/\([(Lt.Asked.mk (Lt.Clo.mk 25 [.Func b]) 5),(Lt.Asked.mk (Lt.Clo.mk 27 [.Program a,.Func b]) 4),(Lt.Asked.mk (Lt.Clo.mk 29 [.Func b]) 4)].length<=4611686018427387904->((0:Int)<=0/\0<d)/\(Zm b)/\if !(dR b)then(KK 5)else(((0:Int)<=1/\1<d)/\(lI a b)/\if !(kn a b)then(KK 4)else(((0:Int)<=2/\2<d)/\(Ow b)/\if !(gO b)then(KK 4)else(e (i64.wrap (c+1)))))))else(KK 0)) 0)))))else(KK 3))
def CV(a:Lt.Func)(b:List UInt8)(KK:(Int×Bool)->Prop):Prop:=(a.Blocks.length<=4611686018427387904->ab (α:=Int) (λd c=>if decide (c < (a.Blocks.length:Int))then((0<=c/\c.toNat<a.Blocks.length)/\if decide ((a.Blocks.getD c.toNat default).Name=b)then(KK (c,true))else(d (i64.wrap (c+1))))else(KK (0,false))) 0)
def Pw(a:List Int)(c:Int)(KK:Int->Prop):Prop:=(a.length<=4611686018427387904->ab (α:=Int) (λd b=>if decide (b < (a.length:Int))then((0<=b/\b.toNat<a.length)/\if decide (c=(a.getD b.toNat default))then(KK b)else(d (i64.wrap (b+1))))else(KK (-1))) 0)
def VJ(a:List Int)(b:Int)(KK:Bool->Prop):Prop:=KK (decide (0<=(JE a b)))
def Px(a:List (List UInt8))(c:List UInt8)(KK:Int->Prop):Prop:=(a.length<=4611686018427387904->ab (α:=Int) (λd b=>if decide (b < (a.length:Int))then((0<=b/\b.toNat<a.length)/\if decide (c=(a.getD b.toNat default))then(KK b)else(d (i64.wrap (b+1))))else(KK (-1))) 0)
def VK(a:List (List UInt8))(b:List UInt8)(KK:Bool->Prop):Prop:=KK (decide (0<=(JF a b)))
def VI(a:Lt.Func)(KK:(List (List Int))->Prop):Prop:=have z3:=(a.Blocks.length:Int);(a.Blocks.length<=4611686018427387904->((0:Int)<=z3/\z3<=4611686018427387904/\24*z3.toNat<=281474976710656)/\(a.Blocks.length<=4611686018427387904->ab (α:=List (List Int)×Int) (λf b=>have c:=((a.Blocks.getD b.2.toNat default).End).To;if decide (b.2<z3)then((0<=b.2/\b.2.toNat<a.Blocks.length)/\(c.length<=4611686018427387904->ab (α:=List (List Int)×Int) (λg v4=>have d:=aR a (c.getD v4.2.toNat default);if decide (v4.2 < (c.length:Int))then(aa (α:=List (List Int)) (λe=>(0<=v4.2/\v4.2.toNat<c.length)/\if d.2 then(((0:Int)<=b.2/\b.2 < ((v4.1.length:Nat):Int))/\((v4.1.getD b.2.toNat []).length+([d.1]:List Int).length<=4611686018427387904/\((v4.1.getD b.2.toNat []).length+([d.1]:List Int).length)*8<=140737488355328)/\((0:Int)<=b.2/\b.2 < ((v4.1.length:Nat):Int))/\b.2.toNat<v4.1.length/\b.2.toNat=b.2.toNat/\e (v4.1.set b.2.toNat ((v4.1.getD b.2.toNat [])++([d.1]:List Int))))else(e v4.1)) (λh=>g (h,(i64.wrap (v4.2+1)))))else(f (v4.1,(i64.wrap (b.2+1))))) (b.1,0)))else(KK b.1)) ((List.replicate z3.toNat (dflt (.sl (.i .i64)))),0)))
def CJ(a:List (List Int))(KK:(List (List Int))->Prop):Prop:=(a.length<=4611686018427387904->((0:Int)<=(a.length:Int)/\(a.length:Int)<=4611686018427387904/\24*(a.length:Int).toNat<=281474976710656)/\(a.length<=4611686018427387904->ab (α:=List (List Int)×Int) (λg c=>have z3:=a.getD c.2.toNat [];if decide (c.2 < (a.length:Int))then((0<=c.2/\c.2.toNat<a.length)/\(z3.length<=4611686018427387904->ab (α:=List (List Int)×Int) (λh v4=>have b:=z3.getD v4.2.toNat default;have e:=((0:Int)<=b/\b < ((v4.1.length:Nat):Int));if decide (v4.2 < (z3.length:Int))then(aa (α:=List (List Int)) (λf=>(0<=v4.2/\v4.2.toNat<z3.length)/\aa (α:=Bool) (λd=>if decide (0<=b)then(if decide (b < (a.length:Int))then(e/\True/\d (!(Ao (v4.1.getD b.toNat []) c.2)))else(d false))else(d false)) (λj=>if j then(e/\((v4.1.getD b.toNat []).length+([c.2]:List Int).length<=4611686018427387904/\((v4.1.getD b.toNat []).length+([c.2]:List Int).length)*8<=140737488355328)/\e/\b.toNat<v4.1.length/\b.toNat=b.toNat/\f (v4.1.set b.toNat ((v4.1.getD b.toNat [])++([c.2]:List Int))))else(f v4.1))) (λk=>h (k,(i64.wrap (v4.2+1)))))else(g (v4.1,(i64.wrap (c.2+1))))) (c.1,0)))else(KK c.1)) ((List.replicate (a.length:Int).toNat (dflt (.sl (.i .i64)))),0)))
def yW(a:Lt.Func)(KK:(Option (List ((List UInt8)×Bool)))->Prop):Prop:=(a.Params.length<=4611686018427387904->ab (α:=Int×List ((List UInt8)×Bool)) (λc b=>if decide (b.1 < (a.Params.length:Int))then((0<=b.1/\b.1.toNat<a.Params.length)/\c ((i64.wrap (b.1+1)),(dz .s b.2 ((a.Params.getD b.1.toNat default).Name) true)))else(KK (some b.2))) (0,[]))
def Gy(b:Option (List ((List UInt8)×Bool)))(a:Lt.Block)(KK:(Option (List ((List UInt8)×Bool)))->Prop):Prop:=b.isSome=true/\(a.Phis.length<=4611686018427387904->ab (α:=Int×List ((List UInt8)×Bool)) (λd c=>if decide (c.1 < (a.Phis.length:Int))then((0<=c.1/\c.1.toNat<a.Phis.length)/\d ((i64.wrap (c.1+1)),(dz .s c.2 ((a.Phis.getD c.1.toNat default).Dst) true)))else(KK (some c.2))) (0,(b.getD [])))
def Gx(c:Option (List ((List UInt8)×Bool)))(a:Lt.Block)(KK:(Option (List ((List UInt8)×Bool)))->Prop):Prop:=c.isSome=true/\(a.Code.length<=4611686018427387904->ab (α:=Int×List ((List UInt8)×Bool)) (λe b=>if decide (b.1 < (a.Code.length:Int))then(aa (α:=List ((List UInt8)×Bool)) (λd=>(0<=b.1/\b.1.toNat<a.Code.length)/\if !decide ((a.Code.getD b.1.toNat default).Dst=([]:List UInt8))then(d (dz .s b.2 ((a.Code.getD b.1.toNat default).Dst) true))else(d b.2)) (λv4=>e ((i64.wrap (b.1+1)),v4)))else(KK (some b.2))) (0,(c.getD [])))
def Gz(b:Option (List ((List UInt8)×Bool)))(c:Option (List ((List UInt8)×Bool)))(KK:(Option (List ((List UInt8)×Bool)))->Prop):Prop:=if b.isNone then(KK c)else(ab (α:=List ((List UInt8)×Bool)×List ((List UInt8)×Bool)) (λe a=>(a.2=[]->KK (some a.1))/\∀d:Nat,d<a.2.length->if (aU (β:=Bool) .s (c.getD []) ((a.2.getD d default).1)).getD (dflt .bo)then(e ((dz .s a.1 ((a.2.getD d default).1) true),(a.2.eraseIdx d)))else(e (a.1,(a.2.eraseIdx d)))) ([],(b.getD [])))
def CS(a:Lt.Func)(KK:Bool->Prop):Prop:=have h:=(a.Blocks.length:Int);(a.Blocks.length<=4611686018427387904->if decide (h=0)then(KK false)else((a.Blocks.length<=4611686018427387904->(a.Blocks.length<=4611686018427387904->ab (α:=Int×List ((List UInt8)×Int)) (λw d=>if decide (d.1<h)then((0<=d.1/\d.1.toNat<a.Blocks.length)/\if (aU (β:=Int) .s d.2 ((a.Blocks.getD d.1.toNat default).Name)).isSome then(KK false)else(w ((i64.wrap (d.1+1)),(dz .s d.2 ((a.Blocks.getD d.1.toNat default).Name) d.1))))else((a.Blocks.length<=4611686018427387904->ab (α:=Int) (λt v4=>have z5:=((a.Blocks.getD v4.toNat default).End).To;if decide (v4<h)then((0<=v4/\v4.toNat<a.Blocks.length)/\(z5.length<=4611686018427387904->ab (α:=Int×List ((List UInt8)×Bool)) (λv j=>have n:=z5.getD j.1.toNat default;if decide (j.1 < (z5.length:Int))then((0<=j.1/\j.1.toNat<z5.length)/\aa (α:=Bool) (λo=>if !((aU (β:=Int) .s d.2 n).isSome)then(o true)else(if decide (((aU (β:=Int) .s d.2 n).getD (dflt (.i .i64)))=0)then(o true)else(o ((aU (β:=Bool) .s j.2 n).getD (dflt .bo))))) (λx=>if x then(KK false)else(v ((i64.wrap (j.1+1)),(dz .s j.2 n true)))))else(t (i64.wrap (v4+1)))) (0,[])))else(if false then(KK false)else((a.Blocks.length<=4611686018427387904->((0:Int)<=h/\h<=4611686018427387904/\1*h.toNat<=281474976710656)/\((0:Int)<=0/\0 < (((List.replicate h.toNat (dflt .bo)).length:Nat):Int))/\0 < (List.replicate h.toNat (dflt .bo)).length/\ab (α:=List Bool×List Int) (λu c=>have z4:=(i64.wrap ((c.2.length:Int) - 1));have z3:=(a.Blocks.getD (c.2.getD z4.toNat default).toNat default);(c.2.length<=4611686018427387904->if decide (0 < (c.2.length:Int))then(aa (α:=Lt.Block) (λq=>have k:=(((0:Int)<=(c.2.getD z4.toNat default)/\(c.2.getD z4.toNat default).toNat<a.Blocks.length)/\q (Lt.Block.mk (z3.Name) (z3.Phis) (z3.Code) (Lt.Term.mk ((z3.End).Kind) ((z3.End).A) ((z3.End).To) ((z3.End).N))));(c.2.length<=4611686018427387904->((0:Int)<=z4/\z4 < ((c.2.length:Nat):Int))/\(k/\k)/\(k/\k)/\k)) (λg=>(c.2.length<=4611686018427387904->(0<=z4/\z4.toNat<=c.2.length)/\(g.End.To.length<=4611686018427387904->ab (α:=List Bool×List Int×Int) (λr b=>have f:=(aU (β:=Int) .s d.2 (g.End.To.getD b.2.2.toNat default)).getD (dflt (.i .i64));if decide (b.2.2 < (g.End.To.length:Int))then(aa (α:=List Bool×List Int) (λl=>(0<=b.2.2/\b.2.2.toNat<g.End.To.length)/\((0:Int)<=f/\f < ((b.1.length:Nat):Int))/\if !(b.1.getD f.toNat default)then(((0:Int)<=f/\f < ((b.1.length:Nat):Int))/\f.toNat<b.1.length/\(b.2.1.length+([f]:List Int).length<=4611686018427387904/\(b.2.1.length+([f]:List Int).length)*8<=140737488355328)/\l ((b.1.set f.toNat true),(b.2.1++([f]:List Int))))else(l (b.1,b.2.1))) (λm=>r (m.1,m.2,(i64.wrap (b.2.2+1)))))else(u (b.1,b.2.1))) (c.1,(c.2.take z4.toNat),0)))))else((c.1.length<=4611686018427387904->ab (α:=Int) (λp e=>if decide (e < (c.1.length:Int))then(((0:Int)<=e/\e < ((c.1.length:Nat):Int))/\if !(c.1.getD e.toNat default)then(KK false)else(p (i64.wrap (e+1))))else(KK true)) 0)))) (((List.replicate h.toNat (dflt .bo)).set 0 true),[0]))))) 0))) (0,[])))))
def V3(a:Lt.Program)(b:List UInt8)(KK:(Lt.Class×Bool)->Prop):Prop:=(a.Classes.length<=4611686018427387904->ab (α:=Int) (λd c=>if decide (c < (a.Classes.length:Int))then((0<=c/\c.toNat<a.Classes.length)/\if decide ((a.Classes.getD c.toNat default).Name=b)then(KK ((a.Classes.getD c.toNat default),true))else(d (i64.wrap (c+1))))else(KK ((Lt.Class.mk ([]:List UInt8) []),false))) 0)
def aaJ(a:Lt.Program)(b:List UInt8)(KK:(Lt.Func×Bool)->Prop):Prop:=(a.Funcs.length<=4611686018427387904->ab (α:=Int) (λd c=>if decide (c < (a.Funcs.length:Int))then((0<=c/\c.toNat<a.Funcs.length)/\if decide ((a.Funcs.getD c.toNat default).Name=b)then(KK ((a.Funcs.getD c.toNat default),true))else(d (i64.wrap (c+1))))else(KK ((Lt.Func.mk ([]:List UInt8) ([]:List UInt8) [] [] []),false))) 0)
def RA(a:Lt.Program)(b:List UInt8)(KK:(Lt.Var×Bool)->Prop):Prop:=(a.Globals.length<=4611686018427387904->ab (α:=Int) (λd c=>if decide (c < (a.Globals.length:Int))then((0<=c/\c.toNat<a.Globals.length)/\if decide ((a.Globals.getD c.toNat default).Name=b)then(KK ((a.Globals.getD c.toNat default),true))else(d (i64.wrap (c+1))))else(KK ((Lt.Var.mk ([]:List UInt8) ([]:List UInt8)),false))) 0)
def Rz(a:Lt.Program)(b:List UInt8)(KK:(Lt.Extern×Bool)->Prop):Prop:=(a.Externs.length<=4611686018427387904->ab (α:=Int) (λd c=>if decide (c < (a.Externs.length:Int))then((0<=c/\c.toNat<a.Externs.length)/\if decide ((a.Externs.getD c.toNat default).Name=b)then(KK ((a.Externs.getD c.toNat default),true))else(d (i64.wrap (c+1))))else(KK ((Lt.Extern.mk ([]:List UInt8) 0),false))) 0)
def G4(a:Lt.Func)(b:List UInt8)(KK:(Lt.Var×Bool)->Prop):Prop:=aa (α:=Bool×Lt.Var) (λe=>(a.Params.length<=4611686018427387904->ab (α:=Int) (λf v4=>if decide (v4 < (a.Params.length:Int))then((0<=v4/\v4.toNat<a.Params.length)/\if decide ((a.Params.getD v4.toNat default).Name=b)then(e (true,(a.Params.getD v4.toNat default)))else(f (i64.wrap (v4+1))))else(e (false,(Lt.Var.mk ([]:List UInt8) ([]:List UInt8))))) 0)) (λd=>if d.1 then(KK (d.2,true))else((a.Vars.length<=4611686018427387904->ab (α:=Int) (λg c=>if decide (c < (a.Vars.length:Int))then((0<=c/\c.toNat<a.Vars.length)/\if decide ((a.Vars.getD c.toNat default).Name=b)then(KK ((a.Vars.getD c.toNat default),true))else(g (i64.wrap (c+1))))else(KK ((Lt.Var.mk ([]:List UInt8) ([]:List UInt8)),false))) 0)))
def V5(b:Lt.Program)(a:List UInt8)(c:List UInt8)(KK:(Lt.Var×Bool)->Prop):Prop:=if !((bG b a).2)then(KK ((Lt.Var.mk ([]:List UInt8) ([]:List UInt8)),false))else(((((bG b a).1).Fields).length<=4611686018427387904->ab (α:=Int) (λe d=>if decide (d < ((((bG b a).1).Fields).length:Int))then((0<=d/\d.toNat < (((bG b a).1).Fields).length)/\if decide (((((bG b a).1).Fields).getD d.toNat default).Name=c)then(KK (((((bG b a).1).Fields).getD d.toNat default),true))else(e (i64.wrap (d+1))))else(KK ((Lt.Var.mk ([]:List UInt8) ([]:List UInt8)),false))) 0))
def aeX(b:Lt.Func)(a:Lt.Arg)(KK:(List UInt8×Bool)->Prop):Prop:=if decide (a.Kind=1)then(KK (((iz b a.S).1).Type_,(iz b a.S).2))else(if decide (a.Kind=2)then(KK ([105,110,116],true))else(if decide (a.Kind=3)then(KK ([102,108,111,97,116],true))else(if decide (a.Kind=4)then(KK ([110,117,108,108],true))else(KK (([]:List UInt8),false)))))
def V7(a:List UInt8)(KK:Bool->Prop):Prop:=if !decide (a=[105,110,116])then(KK (!decide (a=[102,108,111,97,116])))else(KK false)
def aaI(b:List UInt8)(a:List UInt8)(KK:Bool->Prop):Prop:=aa (α:=Bool) (λc=>if decide (b=a)then(c true)else(if decide (b=[110,117,108,108])then(c (iy a))else(c false))) (λd=>KK d)
def afW(a:List (List UInt8))(b:List Lt.Var)(KK:Bool->Prop):Prop:=(a.length<=4611686018427387904->(b.length<=4611686018427387904->if !decide ((a.length:Int)=(b.length:Int))then(KK false)else((a.length<=4611686018427387904->ab (α:=Int) (λd c=>if decide (c < (a.length:Int))then((0<=c/\c.toNat<a.length)/\(0<=c/\c.toNat<b.length)/\if !(fj (a.getD c.toNat default) ((b.getD c.toNat default).Type_))then(KK false)else(d (i64.wrap (c+1))))else(KK true)) 0))))
def V6(b:Lt.Program)(a:List UInt8)(KK:Bool->Prop):Prop:=aa (α:=Bool) (λc=>if decide (a=[105,110,116])then(c true)else(if decide (a=[102,108,111,97,116])then(c true)else(c ((bG b a).2)))) (λd=>KK d)
def G1(c:Lt.Program)(a:List Lt.Var)(KK:Bool->Prop):Prop:=(a.length<=4611686018427387904->ab (α:=Int) (λd b=>if decide (b < (a.length:Int))then((0<=b/\b.toNat<a.length)/\if !(ij c ((a.getD b.toNat default).Type_))then(KK false)else(d (i64.wrap (b+1))))else((a.length<=4611686018427387904->ab (α:=Int×List ((List UInt8)×Bool)) (λe v4=>if decide (v4.1 < (a.length:Int))then((0<=v4.1/\v4.1.toNat<a.length)/\if (aU (β:=Bool) .s v4.2 ((a.getD v4.1.toNat default).Name)).getD (dflt .bo)then(KK false)else(e ((i64.wrap (v4.1+1)),(dz .s v4.2 ((a.getD v4.1.toNat default).Name) true))))else(KK true)) (0,[])))) 0)
def G2(a:Lt.Program)(KK:Bool->Prop):Prop:=aa (α:=Bool) (λi=>(a.Classes.length<=4611686018427387904->ab (α:=Int×List ((List UInt8)×Bool)) (λn v4=>if decide (v4.1 < (a.Classes.length:Int))then((0<=v4.1/\v4.1.toNat<a.Classes.length)/\if (aU (β:=Bool) .s v4.2 ((a.Classes.getD v4.1.toNat default).Name)).getD (dflt .bo)then(i true)else(n ((i64.wrap (v4.1+1)),(dz .s v4.2 ((a.Classes.getD v4.1.toNat default).Name) true))))else((a.Externs.length<=4611686018427387904->ab (α:=Int×List ((List UInt8)×Bool)) (λr f=>if decide (f.1 < (a.Externs.length:Int))then((0<=f.1/\f.1.toNat<a.Externs.length)/\if (aU (β:=Bool) .s f.2 ((a.Externs.getD f.1.toNat default).Name)).getD (dflt .bo)then(i true)else(r ((i64.wrap (f.1+1)),(dz .s f.2 ((a.Externs.getD f.1.toNat default).Name) true))))else((a.Funcs.length<=4611686018427387904->ab (α:=Int×List ((List UInt8)×Bool)) (λq e=>if decide (e.1 < (a.Funcs.length:Int))then((0<=e.1/\e.1.toNat<a.Funcs.length)/\if (aU (β:=Bool) .s e.2 ((a.Funcs.getD e.1.toNat default).Name)).getD (dflt .bo)then(i true)else(q ((i64.wrap (e.1+1)),(dz .s e.2 ((a.Funcs.getD e.1.toNat default).Name) true))))else(i (!(cV a a.Globals)))) (0,[])))) (0,[])))) (0,[]))) (λp=>if p then(KK false)else((a.Classes.length<=4611686018427387904->ab (α:=Int) (λo c=>if decide (c < (a.Classes.length:Int))then((0<=c/\c.toNat<a.Classes.length)/\if !(cV a ((a.Classes.getD c.toNat default).Fields))then(KK false)else(o (i64.wrap (c+1))))else((a.Funcs.length<=4611686018427387904->ab (α:=Int) (λk b=>have d:=a.Funcs.getD b.toNat default;if decide (b < (a.Funcs.length:Int))then((0<=b/\b.toNat<a.Funcs.length)/\aa (α:=List Lt.Var) (λl=>have g:=((([]:List Lt.Var).length+(d.Params).length<=4611686018427387904/\(([]:List Lt.Var).length+(d.Params).length)*32<=140737488355328)/\((d.Params).length+(d.Vars).length<=4611686018427387904/\((d.Params).length+(d.Vars).length)*32<=140737488355328)/\l ((d.Params)++(d.Vars)));(g/\g)/\((g/\g)/\g)/\(g/\g)) (λm=>aa (α:=Bool) (λh=>if !(ij a (d.Result))then(h true)else(h (!(cV a m)))) (λj=>if j then(KK false)else(k (i64.wrap (b+1))))))else(KK true)) 0))) 0)))
def aaK(b:List UInt8)(a:List UInt8)(KK:Bool->Prop):Prop:=aa (α:=Bool) (λc=>if iy b then(if iy a then(if decide (b=a)then(c true)else(if decide (b=[110,117,108,108])then(c true)else(c (decide (a=[110,117,108,108])))))else(c false))else(c false)) (λd=>KK d)
def aaL(a:Lt.asked)(b:List UInt8)(c:List UInt8)(KK:Bool->Prop):Prop:=(a.args.length<=4611686018427387904->ab (α:=Int) (λe d=>if decide (d < (a.args.length:Int))then((0<=d/\d.toNat<a.args.length)/\if !decide ((a.args.getD d.toNat default)=b)then(KK false)else(e (i64.wrap (d+1))))else(KK (decide (a.dst=c)))) 0)
def V8(a:Lt.asked)(KK:Bool->Prop):Prop:=aa (α:=Bool) (λb=>if (bG a.p a.i.Name).2 then(if decide (a.dst=((bG a.p a.i.Name).1).Name)then(if decide ((a.args.length:Int)=0)then(b true)else(b (g9 a.args (((bG a.p a.i.Name).1).Fields))))else(b false))else(b false)) (λc=>KK c)
def RB(a:Lt.asked)(KK:(Lt.Var×Bool)->Prop):Prop:=((0:Int)<=0/\0<a.i.Args.length)/\if !decide ((a.i.Args.getD 0 default).Kind=1)then(KK ((Lt.Var.mk ([]:List UInt8) ([]:List UInt8)),false))else(((0:Int)<=0/\0<a.args.length)/\KK (((pd a.p (a.args.getD 0 default) a.i.Name).1),(pd a.p (a.args.getD 0 default) a.i.Name).2))
def zc(a:Lt.asked)(KK:Bool->Prop):Prop:=if decide (a.i.Op=29)then(if (fR a.p a.i.Name).2 then(KK (decide (((fR a.p a.i.Name).1).Type_=a.dst)))else(KK false))else(if (fR a.p a.i.Name).2 then(((0:Int)<=0/\0<a.args.length)/\KK (fj (a.args.getD 0 default) (((fR a.p a.i.Name).1).Type_)))else(KK false))
def CW(a:Lt.asked)(KK:Bool->Prop):Prop:=have b:=((0:Int)<=0/\0<a.args.length);if decide (a.i.Op<=14)then(KK (lQ a [105,110,116] [105,110,116]))else(if decide (a.i.Op<=18)then(KK (lQ a [102,108,111,97,116] [102,108,111,97,116]))else(if decide (a.i.Op<=21)then(KK (lQ a [102,108,111,97,116] [105,110,116]))else(if decide (a.i.Op=22)then(KK (lQ a [105,110,116] [102,108,111,97,116]))else(if decide (a.i.Op=23)then(KK (lQ a [102,108,111,97,116] [105,110,116]))else(if decide (a.i.Op=24)then(b/\KK (fj (a.args.getD 0 default) a.dst))else(if decide (a.i.Op=25)then(KK (BN a))else(if decide (a.i.Op=26)then((Ox a)/\if (gP a).2 then(KK (decide (((gP a).1).Type_=a.dst)))else(KK false))else(if decide (a.i.Op=27)then((Ox a)/\if (gP a).2 then(((0:Int)<=1/\1<a.args.length)/\KK (fj (a.args.getD 1 default) (((gP a).1).Type_)))else(KK false))else(if decide (a.i.Op=28)then(if decide (a.dst=[105,110,116])then(b/\((0:Int)<=1/\1<a.args.length)/\KK (Lw (a.args.getD 0 default) (a.args.getD 1 default)))else(KK false))else(aa (α:=Bool) (λe=>if decide (a.i.Op=29)then(e (decide (a.i.Op=29)))else(e (decide (a.i.Op=30)))) (λf=>if f then((Oy a)/\KK (oc a))else(if decide (a.i.Op=31)then(aa (α:=Bool) (λd=>if (lJ a.p a.i.Name).2 then(if g9 a.args (((lJ a.p a.i.Name).1).Params)then(d (decide (a.dst=((lJ a.p a.i.Name).1).Result)))else(d false))else(d false)) (λv4=>KK v4))else(if decide (a.i.Op=32)then(aa (α:=Bool) (λc=>if (gG a.p a.i.Name).2 then(if decide ((a.args.length:Int)=((gG a.p a.i.Name).1).N)then(c (lQ a [105,110,116] [105,110,116]))else(c false))else(c false)) (λg=>KK g))else(if decide (a.i.Op=33)then(b/\KK (!(iy (a.args.getD 0 default))))else(KK true)))))))))))))))
def V2(d:Lt.Program)(b:Lt.Func)(a:Lt.Instr)(KK:(Lt.asked×Bool)->Prop):Prop:=have e:=(Lt.asked.mk (Lt.Program.mk false [] [] [] []) (Lt.Instr.mk 0 ([]:List UInt8) ([]:List UInt8) [] [] []) ([]:List UInt8) []);aa (α:=Bool) (λf=>if !((Lt.Of a.Op).2)then(f true)else(if decide ((a.Args.length:Int) < ((Lt.Of a.Op).1).Least)then(f true)else(f (decide (((Lt.Of a.Op).1).Most < (a.Args.length:Int)))))) (λj=>if j then(KK (e,false))else(aa (α:=Lt.asked) (λh=>if ((Lt.Of a.Op).1).Dst then(if !((iz b a.Dst).2)then(KK (e,false))else(h (Lt.asked.mk d a (((iz b a.Dst).1).Type_) [])))else(h (Lt.asked.mk d a ([]:List UInt8) []))) (λv4=>(a.Args.length<=4611686018427387904->ab (α:=Int×Lt.asked) (λk c=>have g:=([(iC b (a.Args.getD c.1.toNat default)).1]:List (List UInt8));if decide (c.1 < (a.Args.length:Int))then((0<=c.1/\c.1.toNat<a.Args.length)/\if !((iC b (a.Args.getD c.1.toNat default)).2)then(KK (e,false))else((c.2.args.length+g.length<=4611686018427387904/\(c.2.args.length+g.length)*16<=140737488355328)/\k ((i64.wrap (c.1+1)),(Lt.asked.mk c.2.p c.2.i c.2.dst (c.2.args++g)))))else(KK (c.2,true))) (0,(Lt.asked.mk v4.p v4.i v4.dst []))))))
def G3(c:Lt.Program)(a:Lt.Func)(b:Lt.Instr)(KK:Bool->Prop):Prop:=(vm c a b)/\if (pu c a b).2 then((Bb (Lt.asked.mk (((pu c a b).1).p) (((pu c a b).1).i) (((pu c a b).1).dst) (((pu c a b).1).args)))/\KK (vR (Lt.asked.mk (((pu c a b).1).p) (((pu c a b).1).i) (((pu c a b).1).dst) (((pu c a b).1).args))))else(KK false)
def V4(b:Lt.Func)(a:Lt.Term)(KK:Bool->Prop):Prop:=if decide (a.Kind=1)then(KK true)else(if decide (a.Kind=2)then(if (iC b a.A).2 then(KK (decide ((iC b a.A).1=[105,110,116])))else(KK false))else(if decide (a.Kind=3)then(if (iC b a.A).2 then(KK (fj ((iC b a.A).1) b.Result))else(KK false))else(if decide (a.Kind=4)then(KK (decide (10<=a.N)))else(KK false))))
def GA(a:Lt.Func)(KK:Int->Prop):Prop:=(a.Blocks.length<=4611686018427387904->ab (α:=Int×Int) (λc b=>if decide (b.2 < (a.Blocks.length:Int))then((0<=b.2/\b.2.toNat<a.Blocks.length)/\(((a.Blocks.getD b.2.toNat default).Code).length<=4611686018427387904->c ((i64.wrap (b.1+(((a.Blocks.getD b.2.toNat default).Code).length:Int))),(i64.wrap (b.2+1)))))else(KK b.1)) (0,0))
def CF(a:Lt.Program)(KK:Bool->Prop):Prop:=(a.Funcs.length<=4611686018427387904->ab (α:=Int) (λg c=>have e:=(a.Funcs.getD c.toNat default).Blocks;if decide (c < (a.Funcs.length:Int))then((0<=c/\c.toNat<a.Funcs.length)/\(e.length<=4611686018427387904->ab (α:=Int) (λh v4=>have b:=e.getD v4.toNat default;if decide (v4 < (e.length:Int))then((0<=v4/\v4.toNat<e.length)/\((b.Phis).length<=4611686018427387904->if decide (0 < ((b.Phis).length:Int))then(KK false)else(((b.Code).length<=4611686018427387904->ab (α:=Int) (λj d=>have z3:=(b.Code).getD d.toNat default;if decide (d < ((b.Code).length:Int))then((0<=d/\d.toNat < (b.Code).length)/\aa (α:=Bool) (λf=>((z3.Frames).length<=4611686018427387904->if decide (0 < ((z3.Frames).length:Int))then(f true)else(f (decide (0 < ((z3.Objs).length:Int)))))) (λi=>if i then(KK false)else(j (i64.wrap (d+1)))))else(h (i64.wrap (v4+1)))) 0))))else(g (i64.wrap (c+1)))) 0))else(KK (!a.SSA))) 0)
def yY(a:Lt.Program)(KK:Bool->Prop):Prop:=(a.Funcs.length<=4611686018427387904->ab (α:=Int) (λd b=>if decide (b < (a.Funcs.length:Int))then((0<=b/\b.toNat<a.Funcs.length)/\aa (α:=Bool) (λc=>(((a.Funcs.getD b.toNat default).Blocks).length<=4611686018427387904->if decide (32 < (((a.Funcs.getD b.toNat default).Blocks).length:Int))then(c true)else((vp (a.Funcs.getD b.toNat default))/\if decide (200 < (vw (a.Funcs.getD b.toNat default)))then(c true)else(c (decide (16 < (i64.wrap ((((a.Funcs.getD b.toNat default).Params).length:Int)+(((a.Funcs.getD b.toNat default).Vars).length:Int))))))))) (λv4=>if v4 then(KK false)else(d (i64.wrap (b+1)))))else(KK true)) 0)
def CG(c:Lt.Program)(a:Lt.Func)(KK:Bool->Prop):Prop:=(a.Blocks.length<=4611686018427387904->ab (α:=Int) (λd b=>if decide (b < (a.Blocks.length:Int))then((0<=b/\b.toNat<a.Blocks.length)/\(((a.Blocks.getD b.toNat default).Code).length<=4611686018427387904->ab (α:=Int) (λe v4=>if decide (v4 < (((a.Blocks.getD b.toNat default).Code).length:Int))then((0<=v4/\v4.toNat < ((a.Blocks.getD b.toNat default).Code).length)/\(afK c a (((a.Blocks.getD b.toNat default).Code).getD v4.toNat default))/\if !(lP c a (((a.Blocks.getD b.toNat default).Code).getD v4.toNat default))then(KK false)else(e (i64.wrap (v4+1))))else(if !(vz a (Lt.Term.mk (((a.Blocks.getD b.toNat default).End).Kind) (((a.Blocks.getD b.toNat default).End).A) (((a.Blocks.getD b.toNat default).End).To) (((a.Blocks.getD b.toNat default).End).N)))then(KK false)else(d (i64.wrap (b+1))))) 0))else(KK true)) 0)
def LEN:Nat:=4611686018427387904
variable{i n:Nat}
theorem ob(h:i<n):(0:Int)<=(i:Int)/\(i:Int).toNat<n:=by rw[Int.toNat_natCast];exact⟨akQ i,h⟩
theorem aW(h:i<n):decide ((i:Int) < (n:Int))=true:=by simpa using h
theorem kw:decide ((n:Int) < (n:Int))=false:=by simp
section
variable {α:Type}
theorem ac(x:α)(B:α->Prop):aa (λJ=>J x) B=B x:=propext ⟨λh=>h B (λ_ h=>h),λh J a=>a x h⟩
theorem aX(c:Prop)[Decidable c](A a:(α->Prop)->Prop)(B:α->Prop):aa (λJ=>if c then A J else a J) B=if c then aa A B else aa a B:=by unfold aa;by_cases hc:c<;>simp only[hc,if_true,if_false]
theorem am(P:Prop)(A:(α->Prop)->Prop)(B:α->Prop):aa (λJ=>P/\A J) B=(P/\aa A B):=propext ⟨λh=>⟨(h (λ_=>True) (λ_ _=>trivial)).1,λJ a=>(h J a).2⟩,λh J a=>⟨h.1,h.2 J a⟩⟩
theorem ap(P:Prop)(A:(α->Prop)->Prop)(B:α->Prop):aa (λJ=>P->A J) B=(P->aa A B):=propext ⟨λh hp J a=>h J a hp,λh J a hp=>h hp J a⟩
theorem aK(P:Prop)(B:α->Prop):aa (λ_=>P) B=P:=propext ⟨λh=>h (λ_=>True) (λ_ _=>trivial),λh _ _=>h⟩
theorem jval(c:Prop)[Decidable c](x y:α)(J:α->Prop):(if c then J x else J y)=J (if c then x else y):=by split<;>rfl
theorem bor(b c:Bool):(if b then true else c)=(b||c):=by cases b<;>rfl
theorem band(b c:Bool):(if b then c else false)=(b&&c):=by cases b<;>rfl
theorem bnand(b c:Bool):(if b then false else c)=(!b&&c):=by cases b<;>rfl
theorem bimp(b c:Bool):(if b then c else true)=(!b||c):=by cases b<;>rfl
theorem pw(c:Prop)[Decidable c](P A B:Prop):(if c then(P/\A)else B)=((c->P)/\if c then A else B):=by by_cases hc:c<;>simp[hc]
theorem px(c:Prop)[Decidable c](P A B:Prop):(if c then A else(P/\B))=((¬ c->P)/\if c then A else B):=by by_cases hc:c<;>simp[hc]
theorem iW(c:Prop)[Decidable c](P A B:Prop):(if c then(P/\A)else(P/\B))=(P/\if c then A else B):=by by_cases hc:c<;>simp[hc]
end
theorem ao{α:Type}(body:(α->Prop)->α->Prop)(m:Nat)(P:Nat->α->Prop)
  (hs:∀R i x,i<m->P i x->(∀y,P (i+1) y->R y)->body R x) (a:∀R x,P m x->body R x) (x:α) (h:P 0 x):ab body x:=by
 have key:∀k i x,i+k=m->P i x->mj body (k+1) x:=by
  intro k;induction k with
  |zero=>
   intro i x hi h;have e:i=m:=by omega
   subst e;exact a _ x h
  |succ k ih=>intro i x hi h;exact hs _ i x kQ1 h (λy hy=>ih (i+1) y kQ1 hy)
 exact⟨m+1,key m 0 x kQ1 h⟩
variable{β:Type}
theorem s8{α ρ σ:Type}[Inhabited α](l:List α)(hl:l.length<=LEN)(st:β->Int->σ)(c:List α->β->ρ)(KK:ρ->Prop)(body:(σ->Prop)->σ->Prop)
  (hs:∀R b i,i<l.length->(∀b',KK (c (l.drop (i+1)) b')->R (st b' (i64.wrap ((i:Int)+1))))->KK (c (l.getD i default::l.drop (i+1)) b)->body R (st b i))
  (d:∀R b,KK (c [] b)->body R (st b l.length)) (b:β) (h:KK (c l b)):ab body (st b 0):=by
 have key:∀k i b,i+k=l.length->KK (c (l.drop i) b)->mj body (k+1) (st b (i:Int)):=by
  intro k;induction k with
  |zero=>
   intro i b hi h;have e:i=l.length:=by omega
   subst e;rw[alM]at h;exact d _ b h
  |succ k ih=>
   intro i b hi h;have a:i<l.length:=by omega
   rw[akX a]at h;have e:l.getD i default=l[i]:=by rw[List.getD,akL a];rfl
   rw[<- e]at h;refine hs _ b i a (λb' h'=>?_) h;rw[ae (by unfold LEN at hl;omega)];exact ih (i+1) b' kQ1 h'
 exact⟨l.length+1,key l.length 0 b kQ1 h⟩
theorem dN{α:Type}[Inhabited α](l:List α)(hl:l.length<=LEN)(p:α->Bool)(rest:Bool)(KK:Bool->Prop)(body:(Int->Prop)->Int->Prop)
  (hs:∀R i,i<l.length->(p (l.getD i default)=true->R (i64.wrap ((i:Int)+1)))->(p (l.getD i default)=false->KK false)->body R (i:Int))
  (a:∀R,KK rest->body R (l.length:Int)) (h:KK (l.all p&&rest)):ab body 0:=by
 refine s8 l hl (λ(_:Unit) i=>i) (λt _=>t.all p&&rest) KK body (λR _ i hi ih h=>?_) (λR _ h=>a R (by simpa using h)) () h;refine hs R i hi (λhp=>ih () ?_) (λhp=>?_)
 .simp only[akW,hp,alH]at h;exact h
 simp only[akW,hp,amA]at h;exact h
theorem Jy(N:Nat)(hN:N<=LEN)(g:Nat->β)(body:(β×Int->Prop)->β×Int->Prop)
  (hs:∀R i,i<N->R (g (i+1),i64.wrap ((i:Int)+1))->body R (g i,(i:Int)))
  (a:∀R,body R (g N,(N:Int))) {b:β} (hb:g 0=b):ab body (b,0):=by
 subst hb;refine ao body N (λi x=>x=(g i,(i:Int))) (λR i x hi hx ih=>?_) (λR x hx=>?_) _ rfl
 .subst hx;refine hs R i hi (ih _ ?_);rw[ae (by unfold LEN at hN;omega)]
 subst hx;exact a R
theorem aZ{α:Type}[Inhabited α](l:List α)(h:i<l.length):l.take (i+1)=l.take i++[l.getD i default]:=by rw[List.take_add_one,List.getD,akL h];rfl
theorem az{α:Type}[Inhabited α](l:List α)(h:i<l.length):l.getD i default∈l:=by rw[List.getD,akL h];exact amF h
theorem ifk{c:Prop}[Decidable c]{A B:Prop}(h1:c->A)(h2:¬ c->B):if c then A else B:=by grind
theorem dJ{α σ:Type}[Inhabited α]{body:(σ->Prop)->σ->Prop}(l:List α)(st:β->Int->σ)(P:List α->β->Prop)
  (hs:∀R b i x r,i<l.length->l.getD i default=x->x∈l->(l.length<=4611686018427387904->∀b',P r b'->R (st b' (i64.wrap ((i:Int)+1))))->P (x::r) b->body R (st b (i:Int)))
  (c:∀R b,P [] b->body R (st b (l.length:Int))) (b:β) (h:P l b):ab body (st b 0):=by
 have key:∀k i b,i+k=l.length->P (l.drop i) b->mj body (k+1) (st b (i:Int)):=by
  intro k;induction k with
  |zero=>
   intro i b hi h;have e:i=l.length:=by omega
   subst e;rw[alM]at h;exact c _ b h
  |succ k ih=>
   intro i b hi h;have a:i<l.length:=by omega
   rw[akX a]at h;have e:l.getD i default=l[i]:=by grind
   refine hs _ b i _ (l.drop (i+1)) a e (amF a) (λhl b' h'=>?_) h
   grind [ae]
 exact⟨l.length+1,key l.length 0 b kQ1 h⟩
variable{body:(Int->Prop)->Int->Prop}
theorem b9{α:Type}[Inhabited α](l:List α)(P:List α->Prop)
  (hs:∀R i x r,i<l.length->l.getD i default=x->x∈l->(l.length<=4611686018427387904->P r->R (i64.wrap ((i:Int)+1)))->P (x::r)->body R (i:Int))
  (a:∀R,P []->body R (l.length:Int)) (h:P l):ab body 0:=
 dJ l (λ(_:Unit) i=>i) (λr _=>P r) (λR _ i x r h1 h2 h3 h4 h5=>hs R i x r h1 h2 h3 (λhl hp=>h4 hl () hp) h5) (λR _ h=>a R h) () h
theorem kK{α:Type}[Inhabited α](l:List α)(p:α->Bool)(rest:Bool)(KK:Bool->Prop)
  (hs:∀R i x,i<l.length->l.getD i default=x->x∈l->(l.length<=4611686018427387904->p x=true->R (i64.wrap ((i:Int)+1)))->(p x=false->KK false)->body R (i:Int))
  (a:∀R,KK rest->body R (l.length:Int)) (h:KK (l.all p&&rest)):ab body 0:=by
 refine b9 l (λr=>KK (r.all p&&rest)) (λR i x r h1 h2 h3 h4 h5=>hs R i x h1 h2 h3 (λhl hp=>h4 hl ?_) (λhp=>?_)) (λR h=>a R (by grind)) h
 all_goals grind
theorem NM(p:Lt.Program)(s:List UInt8)(KK:Lt.Class×Bool->Prop)(h:KK (bG p s)):V3 p s KK:=by
 intro hl;refine b9 p.Classes (λl=>KK (Lt.fnd (·.Name) s l)) (λR i x r hi hx _ ih h=>?_) (λR h=>?_) h
 .grind [Lt.fnd]
 rw[if_neg (by simp)];exact h
theorem T4(p:Lt.Program)(s:List UInt8)(KK:Lt.Func×Bool->Prop)(h:KK (lJ p s)):aaJ p s KK:=by
 intro hl;refine b9 p.Funcs (λl=>KK (Lt.fnd (·.Name) s l)) (λR i x r hi hx _ ih h=>?_) (λR h=>?_) h
 .grind [Lt.fnd]
 rw[if_neg (by simp)];exact h
theorem Ke(p:Lt.Program)(s:List UInt8)(KK:Lt.Var×Bool->Prop)(h:KK (fR p s)):RA p s KK:=by
 intro hl;refine b9 p.Globals (λl=>KK (Lt.fnd (·.Name) s l)) (λR i x r hi hx _ ih h=>?_) (λR h=>?_) h
 .grind [Lt.fnd]
 rw[if_neg (by simp)];exact h
theorem Kd(p:Lt.Program)(s:List UInt8)(KK:Lt.Extern×Bool->Prop)(h:KK (gG p s)):Rz p s KK:=by
 intro hl;refine b9 p.Externs (λl=>KK (Lt.fnd (·.Name) s l)) (λR i x r hi hx _ ih h=>?_) (λR h=>?_) h
 .grind [Lt.fnd]
 rw[if_neg (by simp)];exact h
theorem NN(p:Lt.Program)(c s:List UInt8)(KK:Lt.Var×Bool->Prop)(h:KK (pd p c s)):V5 p c s KK:=by
 unfold pd at h;refine ifk (λhc=>?_) (λhc hl=>?_)
 .have e:∀l:List Lt.Class,(Lt.fnd (·.Name) c l).2=false->(Lt.fnd (·.Name) c l).1=default:=by
   intro l;induction l with
   |nil=>exact λ_=>rfl
   |cons x r ih=>grind [Lt.fnd]
  have a:(bG p c).1=default:=e _ (by grind [bG])
  rw[a]at h;exact h
 refine b9 (bG p c).1.Fields (λl=>KK (Lt.fnd (·.Name) s l)) (λR i x r hi hx _ ih h=>?_) (λR h=>?_) h
 .grind [Lt.fnd]
 rw[if_neg (by simp)];exact h
theorem Ca(f:Lt.Func)(s:List UInt8)(KK:Lt.Var×Bool->Prop)(h:KK (iz f s)):G4 f s KK:=by
 intro J a hl;have b:J ((sv f.Params s).2,(sv f.Params s).1):=a _ (by
  refine ifk (λhc=>?_) (λhc hl=>?_)
  .grind [iz]
  unfold iz at h;rw[if_neg hc]at h;refine b9 f.Vars (λl=>KK (Lt.fnd (·.Name) s l)) (λR i x r hi hx _ ih h=>?_) (λR h=>?_) h
  .grind [Lt.fnd]
  rw[if_neg (by simp)];exact h)
 refine b9 f.Params (λl=>J ((Lt.fnd (λx:Lt.Var=>x.Name) s l).2,(Lt.fnd (λx:Lt.Var=>x.Name) s l).1)) (λR i x r hi hx _ ih h=>?_) (λR h=>?_) b
 .grind [Lt.fnd]
 rw[if_neg (by simp)];exact h
theorem ac6(f:Lt.Func)(a:Lt.Arg)(KK:List UInt8×Bool->Prop)(h:KK (iC f a)):aeX f a KK:=by grind [aeX,iC]
theorem YE(t:List UInt8)(KK:Bool->Prop)(h:KK (iy t)):V7 t KK:=by grind [V7,iy]
theorem T3(a b:List UInt8)(KK:Bool->Prop)(h:KK (fj a b)):aaI a b KK:=by
 unfold fj at h;intro J c
 grind
theorem T5(a b:List UInt8)(KK:Bool->Prop)(h:KK (Lw a b)):aaK a b KK:=by
 unfold Lw at h;intro J c
 grind
theorem NQ(p:Lt.Program)(t:List UInt8)(KK:Bool->Prop)(h:KK (ij p t)):V6 p t KK:=by
 unfold ij iy at h;intro J a
 grind
theorem fE{α:Type}[Inhabited α](l:List α)(h:i<l.length):l.drop i=l.getD i default::l.drop (i+1):=by grind [akX]
theorem Bj:∀(l:List (List UInt8))(v:List Lt.Var),l.length≠v.length->g9 l v=false
 |[],[],h=>absurd rfl h
 |_::l,_::v,h=>by unfold g9;rw[Bj l v (by grind),Bool.and_false]
 |[],_::_,_=>rfl
 |_::_,[],_=>rfl
theorem YD(l:List (List UInt8))(v:List Lt.Var)(KK:Bool->Prop)(h:KK (g9 l v)):afW l v KK:=by
 intro _ _;refine ifk (λhc=>?_) (λhc hl=>?_)
 .grind [Bj]
 have a:l.length=v.length:=by grind
 refine ao _ l.length (λi x=>x=(i:Int)/\KK (g9 (l.drop i) (v.drop i))) (λR i x hi hx ih=>?_) (λR x hx=>?_) 0 ⟨rfl,h⟩
 .grind [fE,g9,ae]
 obtain⟨rfl,h⟩:=hx;rw[if_neg (by simp)];rw[alM,a,alM]at h;exact h
theorem nL(v:β):∀(m:List (List UInt8×β))(k0 k:List UInt8),aU .s (dz .s m k0 v) k=if k0=k then some v else aU .s m k
 |[],k0,k=>by grind [dz,aU,uV]
 |x::l,k0,k=>by
  have ih:=nL v l k0 k
  grind [dz,aU,uV]
theorem vS{α:Type}[Inhabited α]{body:(Int×List (List UInt8×Bool)->Prop)->Int×List (List UInt8×Bool)->Prop}(l:List α)(nm:α->List UInt8)(N:Prop)
  (hs:∀R(i:Nat)m x,i<l.length->l.getD i default=x->((aU (β:=Bool) .s m (nm x)).getD (dflt .bo)=true->N)->((aU (β:=Bool) .s m (nm x)).getD (dflt .bo)=false->l.length<=4611686018427387904->R (i64.wrap ((i:Int)+1),dz .s m (nm x) true))->body R ((i:Int),m))
  (b:∀R m,(l.map nm).Nodup->body R ((l.length:Int),m)) (hN:¬ (l.map nm).Nodup->N):ab body (0,[]):=by
 refine ao _ l.length (λi x=>x.1=(i:Int)/\(∀s,(aU (β:=Bool) .s x.2 s).getD (dflt .bo)=decide (s∈(l.take i).map nm))/\((l.take i).map nm).Nodup) (λR i x hi hx ih=>?_) (λR x hx=>?_) _ ⟨rfl,λs=>by rfl,by simp⟩
 .obtain⟨a,m⟩:=x;obtain⟨h1,h2,h3⟩:=hx;dsimp only at h1 h2;subst h1;refine hs R i m _ hi rfl (λhc=>hN λhd=>?_) (λhc hl=>ih _ ⟨ae kQ1,λs=>?_,?_⟩)
  .grind [amI]
  .grind [nL,aZ]
  grind [aZ]
 grind
theorem B9(p:Lt.Program)(l:List Lt.Var)(KK:Bool->Prop)(h:KK (cV p l)):G1 p l KK:=by
 intro hl;unfold cV at h;refine kK l (λx=>ij p x.Type_) (mI (l.map (·.Name))) KK (λR i x hi hx _ ih hf=>?_) (λR h=>?_) h
 .grind
 rw[if_neg (by simp)];intro _;refine vS l (·.Name) (KK false) (λR i m x hi hx h1 h2=>?_) (λR m hd=>?_) (λhd=>?_)
 all_goals grind [Int.toNat_natCast,mI]
theorem NO(p:Lt.Program)(hp:jR p)(KK:Bool->Prop)(h:KK (gm p)):G2 p KK:=by
 unfold G2;intro J e j;have a:∀b1 b2 b3 b4 b5 b6:Bool,gm p=(b1&&b2&&b3&&b4&&b5&&b6)->(b1=false\/b2=false\/b3=false\/b4=false\/b5=false\/b6=false)->KK false:=by grind
 have a:=a _ _ _ _ _ _ rfl
 have d:KK false->J true:=λh=>e true (by grind)
 refine vS p.Classes (·.Name) (J true) (λR i m x hi hx h1 h2=>?_) (λR m s=>?_) (λhd=>d (a (.inl (decide_eq_false hd))))
 .grind
 rw[if_neg (by simp)];intro g;refine vS p.Externs (·.Name) (J true) (λR i m x hi hx h1 h2=>?_) (λR m t=>?_) (λhd=>d (a (.inr (.inl (decide_eq_false hd)))))
 .grind
 rw[if_neg (by simp)];intro o;refine vS p.Funcs (·.Name) (J true) (λR i m x hi hx h1 h2=>?_) (λR m n=>?_) (λhd=>d (a (.inr (.inr (.inl (decide_eq_false hd))))))
 .grind
 rw[if_neg (by simp)];refine e _ ?_;dsimp only;refine ifk (λhc=>a (.inr (.inr (.inr (.inl (by grind)))))) (λhc l=>?_);refine kK p.Classes (λc=>cV p c.Fields) (p.Funcs.all λf=>ij p f.Result&&cV p (f.Params++f.Vars)) KK (λR i x hi hx _ ih hf=>?_) (λR h=>?_) ?_
 .grind
 .rw[if_neg (by simp)];intro r;refine kK p.Funcs (λf=>ij p f.Result&&cV p (f.Params++f.Vars)) true KK (λR i x hi hx hm ih hf=>?_) (λR h=>?_) (by grind)
  .simp only[aW hi,Int.toNat_natCast,hi,akQ,and_self,true_and];have hb:=hp x hm
   intro q b;have u:q (x.Params++x.Vars):=b _ (by
    intro v k
    grind)
   grind
  grind
 grind [gm,mI]
theorem YC(f:Lt.Func)(t:Lt.Term)(KK:Bool->Prop)(h:KK (vz f t)):V4 f t KK:=by
 unfold V4;unfold vz at h;by_cases h1:t.Kind=1
 .grind
 by_cases h2:t.Kind=2
 .cases ho:(iC f t.A).2<;>simpa[h2,ho]using h
 by_cases h3:t.Kind=3
 .cases ho:(iC f t.A).2<;>simpa[h3,ho]using h
 grind
theorem T6(q:Lt.asked)(a d:List UInt8)(KK:Bool->Prop)(h:KK (lQ q a d)):aaL q a d KK:=by
 intro hl;refine kK q.args (λx=>decide (x=a)) (decide (q.dst=d)) KK (λR i x hi hx _ ih hf=>?_) (λR h=>?_) h
 all_goals grind
theorem NR(q:Lt.asked)(KK:Bool->Prop)(h:KK (BN q)):V8 q KK:=by
 intro J a;unfold BN at h;have e:∀l:List Lt.Class,(Lt.fnd (·.Name) q.i.Name l).2=true->(Lt.fnd (·.Name) q.i.Name l).1.Name=q.i.Name:=by
  intro l;induction l with
  |nil=>intro h;cases h
  |cons x r ih=>grind [Lt.fnd]
 grind [decide,bG]
theorem Kf(q:Lt.asked)(hp:Ox q)(KK:Lt.Var×Bool->Prop)(h:KK (gP q)):RB q KK:=by
 unfold gP at h;obtain⟨h1,h2⟩:=hp;refine⟨⟨by omega,by omega⟩,ifk (λhc=>?_) (λhc=>⟨⟨by omega,h1⟩,?_⟩)⟩
 .rw[if_neg (by grind)]at h;exact h
 grind
theorem Fq(q:Lt.asked)(hp:Oy q)(KK:Bool->Prop)(h:KK (oc q)):zc q KK:=by grind [zc,oc,Oy]
end Go.Am
end

section
namespace Go.Am
open Go
open Lt (nmB toB Gd Rc)
def jl(l:List Bool):Nat:=(l.filter λb=>!b).length
theorem lk:∀(l:List Bool)(k:Nat),l.getD k true=false->jl (l.set k true)+1=jl l
 |[],k,h=>by grind
 |b::r,0,h=>by grind [jl]
 |b::r,k+1,h=>by
  have:=lk r k (by grind)
  grind [jl]
theorem ml{α:Type}{body:(α->Prop)->α->Prop}(P:α->Prop)(a:α->Nat)(hs:∀R x,P x->(∀y,P y->a y<a x->R y)->body R x)(x:α)(h:P x):ab body x:=by
 have key:∀n x,P x->a x<n->mj body n x:=by
  intro n;induction n with
  |zero=>omega
  |succ n ih=>intro x hx hm;exact hs _ x hx (λy hy b=>ih y hy kQ1)
 exact⟨_,key (a x+1) x h kQ1⟩
theorem dF{n:Int}(h1:-9223372036854775808<=n)(h2:n < 9223372036854775808):i64.wrap n=n:=by grind [IntKind.wrap,IntKind.signed,IntKind.bits]
variable{l:List Bool}
theorem xb{k:Nat}(h:k<l.length)(b d:Bool):(l.set k b).getD k d=b:=by grind
theorem iv{i:Nat}(h:i<l.length)(k:Nat):(l.set i true).getD k false=(decide (k=i)||l.getD k false):=by grind
structure CI (B:List Lt.Block) (out:List Bool) (todo:List Int) (j:Nat):Prop where
 ol:out.length=B.length
 td:∀k∈todo,0<=k/\k < (B.length:Int)/\out.getD k.toNat false=true
 o0:out.getD 0 false=true
 sd:∀k,out.getD k false=true->Rc B k
 cl:∀i,i<B.length->i≠j->out.getD i false=true->(i:Int)∈todo\/∀k,k<B.length->nmB B k∈toB B i->out.getD k false=true
theorem CI.mark{B:List Lt.Block}{out:List Bool}{todo:List Int}{j t:Nat}(h:CI B out todo j)(ht:t<B.length)(hr:Rc B t):CI B (out.set t true) (todo++[(t:Int)]) j:=by
 have hl:t<out.length:=by grind [ol]
 refine⟨by grind [ol],λk hk=>?_,?_,λk hk=>?_,λi hi hij hm=>?_⟩
 .rcases akS.1 hk with hk|hk
  .obtain⟨a,b,c⟩:=h.td k hk
   grind
  grind
 all_goals grind [iv,o0,sd,cl]
theorem aeD{m:List (List UInt8×Bool)}{K:List (List UInt8)}(h:∀s,(aU (β:=Bool) .s m s).getD (dflt .bo)=decide (s∈K))(x:List UInt8):∀s,(aU (β:=Bool) .s (dz .s m x true) s).getD (dflt .bo)=decide (s∈K++[x]):=λs=>by grind [nL]
theorem J0(f:Lt.Func)(hp:Zm f)(KK:Bool->Prop)(h:KK (dR f)):CS f KK:=by
 unfold CS;obtain⟨hn,I⟩:=hp;have W:¬ Gd f.Blocks->KK false:=λhg=>by grind [dR,tg]
 have kT:Gd f.Blocks->KK true:=λhg=>by grind [dR,qi]
 dsimp only;intro _;refine ifk (λe=>W λg=>by grind [Gd.ps]) (λal=>?_);have N:0<f.Blocks.length:=by grind
 intro _ _;refine ao _ f.Blocks.length (λi v=>v.1=(i:Int)/\(∀k,k<i->aU (β:=Int) .s v.2 (nmB f.Blocks k)=some (k:Int))/\(∀s,(∀k,k<i->nmB f.Blocks k≠s)->aU (β:=Int) .s v.2 s=none)/\∀a b,a<i->b<i->nmB f.Blocks a=nmB f.Blocks b->a=b) (λR i v hi⟨e,h1,h2,h3⟩ih=>?_) (λR v⟨e,h1,h2,aa⟩=>?_) _ ⟨rfl,λk hk=>by omega,λ_ _=>rfl,λa b D=>by omega⟩
 .obtain⟨v1,L⟩:=v;dsimp only at e h1 h2|-;subst e;rw[if_pos (aW hi)];refine⟨ob hi,?_⟩;rw[Int.toNat_natCast];by_cases hx:∃k,k<i/\nmB f.Blocks k=nmB f.Blocks i
  .rw[if_pos]
   .exact W λg=>by grind [Gd.nd]
   grind
  have hx:∀k,k<i->nmB f.Blocks k≠nmB f.Blocks i:=λk hk e=>hx ⟨k,hk,e⟩
  have hno:aU (β:=Int) .s L (nmB f.Blocks i)=none:=h2 _ hx
  rw[if_neg (by grind)];refine ih _ ⟨ae kQ1,λk hk=>?_,λs hs=>?_,λa b D hb e=>?_⟩
  .grind [nL]
  .rw[nL,if_neg (hs i kQ1)]
   grind
  grind
 obtain⟨v1,L⟩:=v;dsimp only at e h1 h2|-;subst e;rw[if_neg (by simp)];intro _;have hL:∀s t,aU (β:=Int) .s L s=some t->∃k,k<f.Blocks.length/\nmB f.Blocks k=s/\t=(k:Int):=λs t e=>by grind
 refine ao _ f.Blocks.length (λi v=>v=(i:Int)/\∀a,a<i->(toB f.Blocks a).Nodup/\∀s∈toB f.Blocks a,∃k,k<f.Blocks.length/\k≠0/\nmB f.Blocks k=s) (λR i v hi⟨e,n⟩ih=>?_) (λR v⟨e,n⟩=>?_) _ ⟨rfl,λa D=>by omega⟩
 .subst e;rw[if_pos (aW hi)];refine⟨ob hi,λ_=>?_⟩;dsimp +instances only [Int.toNat_natCast]
  have z:=I _ (az _ hi)
  have Y:Gd f.Blocks->(f.Blocks.getD i default).End.To.Nodup:=λg=>g.tn i hi
  have gtr:Gd f.Blocks->∀s∈(f.Blocks.getD i default).End.To,∃k,k<f.Blocks.length/\k≠0/\nmB f.Blocks k=s:=λg=>g.tr i hi
  have K:∀T:List (List UInt8),T=(f.Blocks.getD i default).End.To->(T.Nodup/\∀s∈T,∃k,k<f.Blocks.length/\k≠0/\nmB f.Blocks k=s)->R (i64.wrap ((i:Int)+1)):=λT e hT=>ih _ ⟨ae kQ1,λa D=>by
   rcases alY a i with h'|h'
   all_goals grind⟩
  generalize(f.Blocks.getD i default).End.To=T at Y gtr z K;refine ao _ T.length (λk v=>v.1=(k:Int)/\(∀s,(aU (β:=Bool) .s v.2 s).getD (dflt .bo)=decide (s∈T.take k))/\(T.take k).Nodup/\∀s∈T.take k,∃k,k<f.Blocks.length/\k≠0/\nmB f.Blocks k=s) (λR5 k v hk⟨e,hm,hd,hq⟩Z=>?_) (λR5 v⟨e,hm,hd,hq⟩=>?_) _ ⟨rfl,λs=>by rfl,by simp,λs hs=>by grind⟩
  .obtain⟨v1,m⟩:=v;dsimp only at e hm|-;subst e;rw[if_pos (aW hk)];dsimp +instances only [Int.toNat_natCast]
   refine⟨ob hk,λJ X=>?_⟩;have eg:T.getD k default=T[k]:=by grind
   have d:T.getD k default∈T:=by grind
   have jF:¬ Gd f.Blocks->J true:=λhg=>X true (by grind)
   refine ifk (λhc=>jF λg=>?_) (λhc=>ifk (λhz=>jF λg=>?_) (λhz=>?_))
   .obtain⟨t,P,t2,t3⟩:=gtr g _ d
    grind
   .obtain⟨t,P,t2,t3⟩:=gtr g _ d
    grind
   have C:∃t,aU (β:=Int) .s L (T.getD k default)=some t:=by
    cases hl:aU (β:=Int) .s L (T.getD k default)with
    |_=>grind
   obtain⟨t,ht⟩:=C;obtain⟨q,q1,q2,rfl⟩:=hL _ _ ht;refine X _ ?_;dsimp only;rw[hm];refine ifk (λA=>W λg=>?_) (λA=>Z _ ⟨ae kQ1,?_,?_,?_⟩)
   .grind [amI,fE]
   .rw[aZ T hk];exact aeD hm _
   .have A:T.getD k default ∉ T.take k:=λh'=>A (decide_eq_true h')
    rw[aZ T hk,List.nodup_append]
    grind
   intro s hs;rw[aZ T hk]at hs;rcases akS.1 hs with hs|hs
   .exact hq s hs
   grind
  grind
 subst e;rw[if_neg (by simp),if_neg (by simp)];have gd:(∀k,k<f.Blocks.length->Rc f.Blocks k)->Gd f.Blocks:=λam=>⟨N,aa,λi hi=>(n i hi).1,λi hi=>(n i hi).2,am⟩
 have r:∀i,i<f.Blocks.length->∀s∈toB f.Blocks i,∃k,k<f.Blocks.length/\k≠0/\nmB f.Blocks k=s:=λi hi=>(n i hi).2
 have hz:(f.Blocks.length:Int).toNat=f.Blocks.length:=Int.toNat_natCast _
 intro _;rw[hz];have hr:(List.replicate f.Blocks.length (dflt .bo):List Bool).length=f.Blocks.length:=al4
 refine⟨⟨by omega,by omega,by omega⟩,⟨by omega,by omega⟩,by omega,?_⟩;have aq:jl ((List.replicate f.Blocks.length (dflt .bo):List Bool).set 0 true)<=f.Blocks.length:=by grind [jl]
 have O:∀out,CI f.Blocks out [] f.Blocks.length->∀k,Rc f.Blocks k->out.getD k false=true:=λout c k ad=>by
  induction ad with
  |first _=>exact c.o0
  |next i k _ hi hk hm ih=>
   rcases c.cl i hi kQ1 ih with h'|h'
   all_goals grind
 have p:CI f.Blocks ((List.replicate f.Blocks.length (dflt .bo):List Bool).set 0 true) [0] f.Blocks.length:=by
  have au:∀i,i≠0->((List.replicate f.Blocks.length (dflt .bo):List Bool).set 0 true).getD i false=true->False:=λi e hm=>by
   rw[List.getD,amN (λe'=>e e'.symm),List.getElem?_replicate]at hm;split at hm
   .exact absurd hm (by decide)
   grind
  refine⟨by grind,λk hk=>?_,xb kQ1 _ _,λk hk=>?_,λi hi al hm=>?_⟩
  .obtain rfl:=akY.1 hk
   grind
  .by_cases e:k=0
   .subst e;exact .first N
   grind
  grind
 refine ml (λv=>CI f.Blocks v.1 v.2 f.Blocks.length/\2*jl v.1+v.2.length<=3000000) (λv=>2*jl v.1+v.2.length) (λR9 v⟨c,ag⟩F=>?_) _ ⟨p,by grind⟩;obtain⟨out,todo⟩:=v;dsimp only at c ag F|-;intro ar;refine ifk (λM=>?_) (λap=>?_)
 rotate_left
 .have ab:todo=[]:=alX (by grind)
  subst ab;have all:=O out c
  intro _;refine ao _ out.length (λi v=>v=(i:Int)/\∀a,a<i->out.getD a false=true) (λR i v hi⟨e,D⟩ih=>?_) (λR v⟨e,D⟩=>?_) _ ⟨rfl,λa D=>by omega⟩
  .subst e;rw[if_pos (aW hi)];refine⟨⟨by omega,by omega⟩,?_⟩;rw[Int.toNat_natCast];have ac:i<f.Blocks.length:=by grind [CI.ol]
   refine ifk (λhc=>W λg=>?_) (λhc=>ih _ ⟨ae kQ1,λa ay=>?_⟩)
   .have h5:=all i (g.re i ac)
    grind
   grind
  subst e;rw[if_neg (by simp)];exact kT (gd λk hk=>c.sd k (D k (by grind [CI.ol])))
 have M:0<todo.length:=by grind
 have hw:i64.wrap ((todo.length:Int) - 1)=((todo.length - 1:Nat):Int):=by grind [dF]
 rw[hw];dsimp +instances only [Int.toNat_natCast]
 generalize hmm:todo.length - 1=m;have l:todo=todo.take m++[todo.getD m default]:=by
  have:=aZ todo (i:=m) kQ1
  grind
 have U:todo.getD m default∈todo:=az _ kQ1
 generalize todo.getD m default=j at l U;obtain⟨j1,j2,j3⟩:=c.td j U;intro J X _;have aj:J (f.Blocks.getD j.toNat default):=X _ ?_
 .have H:(0<=j/\j.toNat<f.Blocks.length)/\J (f.Blocks.getD j.toNat default):=⟨⟨j1,by omega⟩,aj⟩
  exact⟨⟨by omega,by omega⟩,⟨H,H⟩,⟨H,H⟩,H⟩
 dsimp only;intro _;refine⟨⟨by omega,by omega⟩,λ_=>?_⟩;have B:j.toNat<f.Blocks.length:=by omega
 have r:∀s∈(f.Blocks.getD j.toNat default).End.To,∃k,k<f.Blocks.length/\k≠0/\nmB f.Blocks k=s:=r _ B
 have y:∀k,nmB f.Blocks k∈toB f.Blocks j.toNat->nmB f.Blocks k∈(f.Blocks.getD j.toNat default).End.To:=λk h=>h
 have w:∀k,k<f.Blocks.length->nmB f.Blocks k∈(f.Blocks.getD j.toNat default).End.To->Rc f.Blocks k:=λk hk hm=>.next j.toNat k (c.sd _ j3) B hk hm
 have z:=I _ (az _ B)
 have an:(todo.take m).length+1=todo.length:=by rw[List.length_take];omega
 have E:CI f.Blocks out (todo.take m) j.toNat:=by
  refine⟨c.ol,λk hk=>c.td k (List.mem_of_mem_take hk),c.o0,c.sd,λi hi av hm=>?_⟩;rcases c.cl i hi kQ1 hm with h'|h'
  .rw[l]at h';rcases akS.1 h' with h'|h'
   .grind
   have:=akY.1 h'
   omega
  grind
 generalize(f.Blocks.getD j.toNat default).End.To=T at r y z w;refine ao _ T.length (λk v=>v.2.2=(k:Int)/\CI f.Blocks v.1 v.2.1 j.toNat/\(∀q,q<k->∀u,u<f.Blocks.length->nmB f.Blocks u=T.getD q default->v.1.getD u false=true)/\2*jl v.1+v.2.1.length+1<=2*jl out+todo.length) (λah k v hk⟨e,hc,hq,S⟩V=>?_) (λah v⟨e,hc,hq,S⟩=>?_) _ ⟨rfl,E,λq hq=>by omega,by grind⟩
 .obtain⟨o3,t3,v3⟩:=v;dsimp only at e hc hq S|-;subst e;rw[if_pos (aW hk)];dsimp +instances only [Int.toNat_natCast]
  obtain⟨t,P,t2,t4⟩:=r (T.getD k default) (az _ hk);have el:=h1 t P
  rw[t4]at el;rw[el];intro af G;have ol:=hc.ol
  refine⟨ob hk,⟨by simp,by grind⟩,?_⟩;simp only[amG,Int.toNat_natCast];have x:t<o3.length:=by omega
  have on:∀o' t',CI f.Blocks o' t' j.toNat->o'.getD t false=true->(∀u,o3.getD u false=true->o'.getD u false=true)->2*jl o'+t'.length<=2*jl o3+t3.length->af (o',t'):=λo' t' a1 a2 a3 a4=>by
   refine G _ (V _ ⟨ae kQ1,a1,λq aw u hu e=>?_,by grind⟩);rcases alY q k with h'|h'
   all_goals grind
  refine ifk (λhf=>?_) (λhf=>?_)
  .have hf0:o3.getD t true=false:=by
    rw[List.getD,akL x]at hf|-
    grind
   have ax:=lk o3 t hf0
   refine⟨⟨by omega,by omega⟩,x,⟨by grind [ak8],by grind [ak8]⟩,on _ _ (hc.mark P (w t P (by grind [az]))) ?_ (λu hu=>?_) ?_⟩
   .grind [iv]
   .grind [iv]
   grind [ak3]
  have ak:o3.getD t default=true:=by grind
  exact on _ _ hc ak (λ_ h=>h) (akK _)
 obtain⟨o3,t3,v3⟩:=v;subst e;rw[if_neg (by simp)];refine F _ ⟨⟨hc.ol,hc.td,hc.o0,hc.sd,λi hi _ hm=>?_⟩,by grind⟩ (by grind);by_cases e:i=j.toNat
 .subst e;refine .inr λk hk d=>?_
  obtain⟨q,Q,ai⟩:=alA.1 (y k d);exact hq q Q k hk (by rw[<- ai,List.getD,akL Q];rfl)
 exact hc.cl i hi e hm
end Go.Am
end

section
namespace Go.Am
open Go
theorem Kc(f:Lt.Func)(s:List UInt8)(KK:Int×Bool->Prop)(h:KK (aR f s)):CV f s KK:=by
 unfold CV;intro hl;unfold aR at h;refine ao _ f.Blocks.length (λi x=>x=(i:Int)/\KK (jE s (f.Blocks.drop i) (i:Int))) (λR i x hi hx ih=>?_) (λR x hx=>?_) 0 ⟨rfl,h⟩
 .obtain⟨rfl,h⟩:=hx;rw[fE _ hi]at h
  grind [jE,ae]
 obtain⟨rfl,h⟩:=hx;rw[if_neg (by simp)];rw[alM]at h;exact h
theorem TM(l:List Int)(v:Int)(KK:Int->Prop)(h:KK (JE l v)):Pw l v KK:=by
 unfold Pw;intro hl;unfold JE at h;refine ao _ l.length (λi x=>x=(i:Int)/\KK (B3 v (l.drop i) (i:Int))) (λR i x hi hx ih=>?_) (λR x hx=>?_) 0 ⟨rfl,h⟩
 .obtain⟨rfl,h⟩:=hx;rw[fE _ hi]at h
  grind [B3,ae]
 obtain⟨rfl,h⟩:=hx;rw[if_neg (by simp)];rw[alM]at h;exact h
theorem TN(l:List (List UInt8))(v:List UInt8)(KK:Int->Prop)(h:KK (JF l v)):Px l v KK:=by
 unfold Px;intro hl;unfold JF at h;refine ao _ l.length (λi x=>x=(i:Int)/\KK (B3 v (l.drop i) (i:Int))) (λR i x hi hx ih=>?_) (λR x hx=>?_) 0 ⟨rfl,h⟩
 .obtain⟨rfl,h⟩:=hx;rw[fE _ hi]at h
  grind [B3,ae]
 obtain⟨rfl,h⟩:=hx;rw[if_neg (by simp)];rw[alM]at h;exact h
theorem Nf(l:List Int)(v:Int)(KK:Bool->Prop)(h:KK (Ao l v)):VJ l v KK:=h
theorem Ng(l:List (List UInt8))(v:List UInt8)(KK:Bool->Prop)(h:KK (wE l v)):VK l v KK:=h
variable{α:Type}
theorem Aw[DecidableEq α](v:α):∀(l:List α)(i:Int),0<=i->(0<=B3 v l i ↔ v∈l)
 |[],i,h=>by simp[B3]
 |x::r,i,h=>by
  unfold B3;by_cases e:v=x
  .grind
  rw[if_neg e,Aw v r (i+1) kQ1];simp[e]
theorem Tk(l:List Int)(v:Int):Ao l v=decide (v∈l):=by grind [Ao,JE,Aw]
theorem Tl(l:List (List UInt8))(v:List UInt8):wE l v=decide (v∈l):=by grind [wE,JF,Aw]
theorem gC(l:List α){i:Nat}(h:i<l.length)(k:Nat)(x d:α):(l.set i x).getD k d=if k=i then x else l.getD k d:=by grind
theorem Ab(d:α){l m:List α}(h:l.length=m.length)(h2:∀k,k<l.length->l.getD k d=m.getD k d):l=m:=by grind [List.ext_getElem]
theorem YT{β:Type}[Inhabited α](g:α->β)(l:List α){k:Nat}(h:k<l.length)(d:β):(l.map g).getD k d=g (l.getD k default):=by grind
theorem vC(n k:Nat)(d:α):(List.replicate n d).getD k d=d:=by grind
theorem Ch{β:Type}(g:α->Option β)(l:List α):(l.filterMap g).length<=l.length:=List.length_filterMap_le _ _
theorem Yq(f:Lt.Func)(hp:sJ f)(KK:List (List Int)->Prop)(h:KK (jN f)):VI f KK:=by
 unfold VI;obtain⟨hn,c⟩:=hp;dsimp only;have hz:(f.Blocks.length:Int).toNat=f.Blocks.length:=Int.toNat_natCast _
 intro _;rw[hz];refine⟨⟨by omega,by omega,by omega⟩,λ_=>?_⟩;refine ao _ f.Blocks.length (λi v=>v.2=(i:Int)/\v.1.length=f.Blocks.length/\(∀k,i<=k->v.1.getD k []=[])/\∀k,k<i->v.1.getD k []=(Lt.toB f.Blocks k).filterMap (pc f)) (λR i v hi⟨e,h1,h2,h3⟩ih=>?_) (λR v⟨e,h1,h2,h3⟩=>?_) _ ⟨rfl,by simp,λk _=>vC _ _ _,λk hk=>by omega⟩
 .obtain⟨out,g⟩:=v;dsimp only at e h1 h2 h3|-;subst e;rw[if_pos (aW hi)];refine⟨ob hi,λ_=>?_⟩;dsimp +instances only [Int.toNat_natCast]
  have b:=c _ (az _ hi)
  have a:∀T:List (List UInt8),T=Lt.toB f.Blocks i->∀o:List (List Int),o.length=f.Blocks.length->(∀k,k≠i->o.getD k []=out.getD k [])->o.getD i []=T.filterMap (pc f)->R (o,i64.wrap ((i:Int)+1)):=λT e o o1 o2 o3=>ih _ ⟨ae kQ1,o1,λk hk=>by grind,λk hk=>by grind⟩
  have b:(f.Blocks.getD i default).End.To.length<=1000000:=b
  have a:=a (f.Blocks.getD i default).End.To rfl
  generalize(f.Blocks.getD i default).End.To=T at b a;refine ao _ T.length (λj v=>v.2=(j:Int)/\v.1.length=f.Blocks.length/\(∀k,k≠i->v.1.getD k []=out.getD k [])/\v.1.getD i []=(T.take j).filterMap (pc f)) (λd j v hj⟨e,g1,g2,g3⟩m=>?_) (λd v⟨e,g1,g2,g3⟩=>?_) _ ⟨rfl,h1,λ_ _=>rfl,by grind⟩
  .obtain⟨o,v4⟩:=v;dsimp only at e g1 g2 g3|-;subst e;rw[if_pos (aW hj)];intro J n;refine⟨ob hj,?_⟩;dsimp +instances only [Int.toNat_natCast]
   have l:(o.getD i []).length<=1000000:=by grind
   grind [ae,pc,aZ]
  grind
 obtain⟨out,g⟩:=v;dsimp only at e h1 h2 h3|-;subst e;rw[if_neg (by simp)];have:out=jN f:=Ab [] (by grind [jN]) λk hk=>by grind [jN]
 grind
theorem ZI(p:Nat->Bool)(i:Nat):(List.range (i+1)).filter p=(List.range i).filter p++(if p i=true then [i]else []):=by grind [List.range_succ]
theorem JO(g:List (List Int))(hp:vo g)(KK:List (List Int)->Prop)(h:KK (iM g)):CJ g KK:=by
 unfold CJ;obtain⟨hn,f⟩:=hp;dsimp only;have hz:(g.length:Int).toNat=g.length:=Int.toNat_natCast _
 intro _;rw[hz];refine⟨⟨by omega,by omega,by omega⟩,λ_=>?_⟩
 let pr:Nat->Nat->List Int:=λi k=>((List.range i).filter λi=>decide ((k:Int)∈g.getD i [])).map λ(i:Nat)=>(i:Int)
 have pl:∀i k,(pr i k).length<=i:=λi k=>by grind
 have u:∀i k,(i:Int) ∉ pr i k:=λi k hm=>by grind
 have ps:∀i k,pr (i+1) k=pr i k++(if(k:Int)∈g.getD i []then [(i:Int)]else []):=λi k=>by grind [ZI]
 refine ao _ g.length (λi v=>v.2=(i:Int)/\v.1.length=g.length/\∀k,k<g.length->v.1.getD k []=pr i k) (λR i v hi⟨e,h1,h2⟩ih=>?_) (λR v⟨e,h1,h2⟩=>?_) _ ⟨rfl,by simp,λk _=>vC _ _ _⟩
 .obtain⟨out,t⟩:=v;dsimp only at e h1 h2|-;subst e;rw[if_pos (aW hi)];refine⟨ob hi,λ_=>?_⟩;dsimp +instances only [Int.toNat_natCast]
  have l:=f _ (by grind:g.getD i []∈g)
  have a:∀T:List Int,T=g.getD i []->∀o:List (List Int),o.length=g.length->(∀k,k<g.length->o.getD k []=pr i k++(if(k:Int)∈T then [(i:Int)]else []))->R (o,i64.wrap ((i:Int)+1)):=λT e o o1 o2=>ih _ ⟨ae kQ1,o1,λk hk=>by grind⟩
  have a:=a (g.getD i []) rfl
  generalize g.getD i []=T at l a;refine ao _ T.length (λj v=>v.2=(j:Int)/\v.1.length=g.length/\∀k,k<g.length->v.1.getD k []=pr i k++(if(k:Int)∈T.take j then [(i:Int)]else [])) (λr j v hj⟨e,g1,g2⟩d=>?_) (λr v⟨e,g1,g2⟩=>?_) _ ⟨rfl,h1,λk hk=>by grind⟩
  .obtain⟨o,v4⟩:=v;dsimp only at e g1 g2|-;subst e;rw[if_pos (aW hj)];intro J q;refine⟨ob hj,λx b=>?_⟩;dsimp +instances only [Int.toNat_natCast]at b|-
   have m:=aZ T hj
   generalize T.getD j default=z at b m|-;have stay:¬ (0<=z/\z < (g.length:Int))\/z∈T.take j->J o:=λw=>q _ (d _ ⟨ae kQ1,g1,λk hk=>by
    dsimp only;rw[g2 k hk,m];have:(k:Int)∈T.take j++[z] ↔ (k:Int)∈T.take j:=by
     rw[akS,akY]
     grind
    simp only[this]⟩)
   refine ifk (λh0=>ifk (λh1'=>?_) (λh1'=>?_)) (λh0=>?_)
   .have h0:=of_decide_eq_true h0
    have h1':=of_decide_eq_true h1'
    have c:z.toNat<o.length:=by omega
    have s:((z.toNat:Nat):Int)=z:=by omega
    have n:=g2 z.toNat kQ1
    rw[s]at n;have hb:(o.getD z.toNat []).length<=1000001:=by
     rw[n,ak6];have:=pl i z.toNat
     split<;>simp only[ak3,ak8]<;>omega
    have p:Ao (o.getD z.toNat []) (i:Int)=decide (z∈T.take j):=by
     rw[Tk,decide_eq_decide,n,akS];have:=u i z.toNat
     by_cases e:z∈T.take j
     all_goals grind
    refine⟨⟨by omega,by omega⟩,trivial,b _ ?_⟩;rw[p];refine ifk (λhc=>?_) (λhc=>stay (.inr (by grind)));have hc:z ∉ T.take j:=by grind
    refine⟨⟨by omega,by omega⟩,⟨by grind,by grind⟩,⟨by omega,by omega⟩,c,rfl,q _ (d _ ⟨ae kQ1,by grind,λk hk=>?_⟩)⟩;dsimp only;rw[gC _ c,m];by_cases e:k=z.toNat
    .grind
    rw[if_neg e,g2 k hk];have:(k:Int)∈T.take j++[z] ↔ (k:Int)∈T.take j:=by rw[akS,akY];exact⟨λh=>h.elim id λe'=>by omega,.inl⟩
    simp only[this]
   all_goals grind
  grind
 obtain⟨out,t⟩:=v;dsimp only at e h1 h2|-;subst e;rw[if_neg (by simp)];have:out=iM g:=Ab [] (by grind [iM]) λk hk=>by rw[h2 k kQ1];unfold iM;rw[YT _ _ (by grind),List.getD,List.getElem?_range kQ1];rfl
 grind
abbrev VM:=List (List UInt8×Bool)
def VMo(m:VM):Prop:=(m.map (·.1)).Nodup/\∀x∈m,x.2=true
theorem nw(k:List UInt8)(v:Bool):∀m:VM,(dz .s m k v).map (·.1)=if k∈m.map (·.1)then m.map (·.1)else m.map (·.1)++[k]
 |[]=>by rfl
 |x::l=>by
  have ih:=nw k v l
  grind [dz,uV]
theorem JA(k:List UInt8):∀m:VM,(∀x∈m,x.2=true)->∀x∈dz .s m k true,x.2=true
 |[],h,x,hx=>by grind [dz]
 |y::l,h,x,hx=>by
  simp only[dz,uV]at hx;by_cases e:y.1=k
  .grind
  rw[decide_eq_false e]at hx;rcases akU.1 hx with hx|hx
  .grind
  exact JA k l (λz hz=>h z (alF _ hz)) x hx
theorem VMo.ins{m:VM}(h:VMo m)(k:List UInt8):VMo (dz .s m k true):=by
 refine⟨?_,JA k m h.2⟩;rw[nw];split
 .exact h.1
 rename_i hk;rw[List.nodup_append];exact⟨h.1,by simp,λa ha b hb e=>by grind⟩
theorem VMo.nil:VMo []:=⟨List.nodup_nil,λx h=>by cases h⟩
theorem Kx:∀{m:VM},(∀x∈m,x.2=true)->∀v,(aU (β:=Bool) .s m v).getD false=decide (v∈m.map (·.1))
 |[],_,v=>by rfl
 |x::l,h,v=>by
  simp only[aU,uV];by_cases e:x.1=v
  .grind
  rw[decide_eq_false e];show(aU (β:=Bool) .s l v).getD false=_
  rw[Kx (λz hz=>h z (alF _ hz)) v,decide_eq_decide]
  grind
def okU(U:List (List UInt8))(s:Lt.Vs):Prop:=∃m,s=some m/\VMo m/\∀v∈m.map (·.1),v∈U
theorem kq{m:VM}(h:VMo m)(v:List UInt8):bE (some m) v=decide (v∈m.map (·.1)):=Kx h.2 v
variable{s:Lt.Vs}
theorem okU.len{U:List (List UInt8)}(h:okU U s):(s.getD []).length<=U.length:=by
 obtain⟨m,rfl,h1,h2⟩:=h;have:=List.Nodup.length_le_of_subset h1.1 (l₂:=U) h2
 grind
theorem okU.isS{U:List (List UInt8)}(h:okU U s):s.isSome=true:=by obtain⟨m,rfl,_⟩:=h;rfl
theorem okU.nil(U:List (List UInt8)):okU U (some []):=⟨[],rfl,.nil,λv h=>by cases h⟩
theorem okU.le{U:List (List UInt8)}{t:Lt.Vs}(hs:okU U s)(ht:okU U t)(h:∀v,bE s v=true->bE t v=true):(s.getD []).length<=(t.getD []).length:=by
 obtain⟨m,rfl,h1,_⟩:=hs;obtain⟨n,rfl,g1,_⟩:=ht;have:=List.Nodup.length_le_of_subset h1.1 (l₂:=n.map (·.1)) λv hv=>by
  have:=h v (by grind [kq])
  grind [kq]
 grind
theorem okU.same{U:List (List UInt8)}{t:Lt.Vs}(hs:okU U s)(ht:okU U t)(h:∀v,bE s v=true->bE t v=true)(e:(s.getD []).length=(t.getD []).length):∀v,bE t v=true->bE s v=true:=by
 obtain⟨m,rfl,h1,_⟩:=hs;obtain⟨n,rfl,g1,_⟩:=ht;intro v hv;rw[kq g1]at hv;have hv:=of_decide_eq_true hv
 rw[kq h1];refine decide_eq_true (Classical.byContradiction λhn=>?_);have:=List.Nodup.length_le_of_subset (l₁:=v::m.map (·.1)) (al2.2 ⟨hn,h1.1⟩) (l₂:=n.map (·.1)) λu hu=>by
  rcases akU.1 hu with rfl|hu
  .exact hv
  have:=h u (by grind [kq])
  grind [kq]
 grind
theorem Jt(m:VM)(k v:List UInt8):bE (some (dz .s m k true)) v=(decide (k=v)||bE (some m) v):=by grind [bE,nL]
theorem Jg:∀(l:List (List UInt8))(m:VM)v,bE (some (l.foldl (λm v=>dz .s m v true) m)) v=(bE (some m) v||decide (v∈l))
 |[],m,v=>by simp
 |k::r,m,v=>by
  rw[alZ,Jg r,Jt]
  grind
theorem yG(s:Lt.Vs)(l:List (List UInt8))(v:List UInt8):bE (Cn s l) v=(bE s v||decide (v∈l)):=by unfold Cn;rw[Jg];rfl
theorem Qv{U:List (List UInt8)}:∀(l:List (List UInt8))(m:VM),okU U (some m)->(∀v∈l,v∈U)->okU U (some (l.foldl (λm v=>dz .s m v true) m))
 |[],m,h,_=>h
 |k::r,m,h,hl=>by
  rw[alZ];refine Qv r _ ?_ λv hv=>hl v (alF _ hv)
  obtain⟨m',e,h1,h2⟩:=h;obtain rfl:=Option.some.inj e;refine⟨_,rfl,h1.ins k,λv hv=>?_⟩
  grind [nw]
theorem okU.put{U:List (List UInt8)}(h:okU U s){l:List (List UInt8)}(hl:∀v∈l,v∈U):okU U (Cn s l):=by obtain⟨m,rfl,h1,h2⟩:=h;exact Qv l m ⟨m,rfl,h1,h2⟩ hl
theorem Bg[Inhabited α]{body:(Int×VM->Prop)->Int×VM->Prop}(l:List α)(nm:α->List (List UInt8))(m:VM)(KK:Lt.Vs->Prop)
  (hs:∀R(i:Nat)m,i<l.length->(l.length<=4611686018427387904->R (i64.wrap ((i:Int)+1),(nm (l.getD i default)).foldl (λm v=>dz .s m v true) m))->body R ((i:Int),m))
  (a:∀R m,KK (some m)->body R ((l.length:Int),m)) (h:KK (Cn (some m) (l.flatMap nm))):ab body (0,m):=by
 refine dJ l (λm i=>(i,m)) (λr m=>KK (Cn (some m) (r.flatMap nm))) (λR m i x r hi hx _ ih h=>hs R i m hi λhl=>ih hl _ ?_) (λR m h=>a R m h) m h
 grind [Cn]
theorem Jf(g:α->List UInt8)(l:List α):l.flatMap (λx=>[g x])=l.map g:=by induction l<;>grind
theorem E7(f:Lt.Func)(KK:Lt.Vs->Prop)(h:KK (Iu f)):yW f KK:=by
 unfold yW;intro hl;refine Bg f.Params (λx=>[x.Name]) [] KK (λR i m hi ih=>?_) (λR m h=>?_) (by rw[Jf];exact h)
 all_goals grind
theorem M8(s:Lt.Vs)(b:Lt.Block)(hp:xH s b)(KK:Lt.Vs->Prop)(h:KK (mB s b)):Gy s b KK:=by
 unfold Gy;refine⟨hp,λhl=>?_⟩;have es:some (s.getD [])=s:=by unfold xH at hp;cases s<;>grind
 refine Bg b.Phis (λx=>[x.Dst]) (s.getD []) KK (λR i m hi ih=>?_) (λR m h=>?_) (by rw[Jf,es];exact h)
 all_goals grind
theorem acF(g:α->List UInt8)(l:List α):l.flatMap (λx=>if g x=[]then []else [g x])=(l.map g).filter λd=>!decide (d=[]):=by induction l<;>grind
theorem M7(s:Lt.Vs)(b:Lt.Block)(hp:xH s b)(KK:Lt.Vs->Prop)(h:KK (jg s b)):Gx s b KK:=by
 unfold Gx;refine⟨hp,λhl=>?_⟩;have es:some (s.getD [])=s:=by unfold xH at hp;cases s<;>grind
 refine Bg b.Code (λx=>if x.Dst=[]then []else [x.Dst]) (s.getD []) KK (λR i m hi ih=>?_) (λR m h=>?_) (by rw[acF,es];exact h)
 .rw[if_pos (aW hi)];intro J a
  grind
 grind
theorem u9:∀(l:List α)(i:Nat)(hi:i<l.length)(d:α)x,x∈l ↔ x=l.getD i d\/x∈l.eraseIdx i
 |[],i,hi,d,x=>by grind
 |y::l,0,hi,d,x=>by simp
 |y::l,i+1,hi,d,x=>by
  have:=u9 l i (by grind) d x
  grind
theorem M9(a b:Lt.Vs)(hp:QT a b)(KK:Lt.Vs->Prop)(h:∀y,KS a b y->KK y):Gz a b KK:=by
 unfold Gz;refine ifk (λg=>h b ⟨λ_=>rfl,λhn=>absurd (by simp_all) hn⟩) (λg=>?_);obtain⟨A,rfl⟩:∃A,a=some A:=by cases a<;>grind
 have j:VMo A:=by
  rcases hp with hp|⟨n,l,e,h1,h2,_⟩
  .cases hp
  obtain rfl:=Option.some.inj e;exact⟨h1,h2⟩
 refine ml (λv=>VMo v.1/\(∀x∈v.2,x∈A)/\(∀u,u∈v.1.map (·.1)->u∈A.map (·.1)/\bE b u=true)/\∀u,u∈A.map (·.1)->bE b u=true->u∈v.1.map (·.1)\/u∈v.2.map (·.1)) (λv=>v.2.length) (λR v⟨h1,h2,h3,h4⟩ih=>⟨λe=>h _ ⟨λe=>(by cases e),λ_=>⟨λn hn=>?_,λu=>?_⟩⟩,λi hi=>?_⟩) _ ⟨.nil,λx hx=>hx,λu c=>(by cases c),λu c _=>.inr c⟩
 .obtain⟨l,e',g1,g2,g3⟩:=hn;obtain rfl:=Option.some.inj e';refine⟨v.1,rfl,h1.1,h1.2,?_⟩;have:=List.Nodup.length_le_of_subset h1.1 (l₂:=A.map (·.1)) λu c=>(h3 u c).1
  grind
 .grind [kq]
 obtain⟨f,rest⟩:=v;dsimp only at h1 h2 h3 h4 ih hi|-;have hm:=u9 rest i hi default
 have d:(rest.eraseIdx i).length<rest.length:=by grind
 have hx:rest.getD i default∈A:=h2 _ ((hm _).2 (.inl rfl))
 generalize rest.getD i default=x at hm hx;have hb:∀w,(aU (β:=Bool) .s (b.getD []) w).getD (dflt .bo)=bE b w:=λw=>rfl
 grind [VMo.ins,nw]
def CH(a:List (List Int))(KK:(List Int)->Prop):Prop:=aa (α:=List Int) (λj=>(a.length<=4611686018427387904->((0:Int)<=(a.length:Int)/\(a.length:Int)<=4611686018427387904/\1*(a.length:Int).toNat<=281474976710656)/\(a.length<=4611686018427387904->if decide ((a.length:Int)=0)then(j [])else(((0:Int)<=0/\0 < (((List.replicate (a.length:Int).toNat (dflt .bo)).length:Nat):Int))/\0 < (List.replicate (a.length:Int).toNat (dflt .bo)).length/\ab (α:=List Bool×List Int×List Lt.step) (λg v4=>have z3:=(i64.wrap ((v4.2.2.length:Int) - 1));have c:=(v4.2.2.getD z3.toNat default);have e:=a.getD (c.at_).toNat [];have z4:=v4.2.2.set z3.toNat (Lt.step.mk (c.at_) (i64.wrap ((c.next)+1)));have d:=e.getD (c.next).toNat default;have f:=([(Lt.step.mk d 0)]:List Lt.step);(v4.2.2.length<=4611686018427387904->if decide (0 < (v4.2.2.length:Int))then((v4.2.2.length<=4611686018427387904->((0:Int)<=z3/\z3 < ((v4.2.2.length:Nat):Int))/\((0:Int)<=c.at_/\(c.at_).toNat<a.length)/\(e.length<=4611686018427387904->if decide (c.next=(e.length:Int))then((v4.2.1.length+([c.at_]:List Int).length<=4611686018427387904/\(v4.2.1.length+([c.at_]:List Int).length)*8<=140737488355328)/\(v4.2.2.length<=4611686018427387904->(0<=z3/\z3.toNat<=v4.2.2.length)/\g (v4.1,(v4.2.1++([c.at_]:List Int)),(v4.2.2.take z3.toNat))))else(((0:Int)<=c.at_/\(c.at_).toNat<a.length)/\((0:Int)<=c.next/\(c.next).toNat<e.length)/\z3.toNat<v4.2.2.length/\aa (α:=Bool) (λi=>if decide (0<=d)then(if decide (d < (a.length:Int))then(((0:Int)<=d/\d < ((v4.1.length:Nat):Int))/\i (!(v4.1.getD d.toNat default)))else(i false))else(i false)) (λk=>if k then(((0:Int)<=d/\d < ((v4.1.length:Nat):Int))/\d.toNat<v4.1.length/\(z4.length+f.length<=4611686018427387904/\(z4.length+f.length)*16<=140737488355328)/\g ((v4.1.set d.toNat true),v4.2.1,(z4++f)))else(g (v4.1,v4.2.1,z4)))))))else(j v4.2.1))) (((List.replicate (a.length:Int).toNat (dflt .bo)).set 0 true),[],[(Lt.step.mk 0 0)]))))) (λh=>(h.length<=4611686018427387904->ab (α:=Int×Int×List Int) (λl b=>have z5:=b.2.2.set b.1.toNat (b.2.2.getD b.2.1.toNat default);if decide (b.1<b.2.1)then(((0:Int)<=b.2.1/\b.2.1 < ((b.2.2.length:Nat):Int))/\((0:Int)<=b.1/\b.1 < ((b.2.2.length:Nat):Int))/\((0:Int)<=b.1/\b.1 < ((b.2.2.length:Nat):Int))/\b.1.toNat<b.2.2.length/\((0:Int)<=b.2.1/\b.2.1 < ((z5.length:Nat):Int))/\b.2.1.toNat<z5.length/\l ((i64.wrap (b.1+1)),(i64.wrap (b.2.1 - 1)),(z5.set b.2.1.toNat (b.2.2.getD b.1.toNat default))))else(KK b.2.2)) (0,(i64.wrap ((h.length:Int) - 1)),h)))
def PrF(g:List (List Int)):List Int->List Int->Prop
 |_,[]=>True
 |a,x::r=>(x≠0->∃y∈a,x∈g.getD y.toNat [])/\PrF g (x::a) r
variable{g:List (List Int)}
theorem PrF.mono:∀{r s t:List Int},PrF g s r->(∀x∈s,x∈t)->PrF g t r
 |[],s,t,_,_=>trivial
 |x::r,s,t,h,hs=>⟨λe=>by obtain⟨y,hy,h'⟩:=h.1 e;grind,h.2.mono λy hy=>by grind⟩
theorem EC:∀{a b s:List Int},PrF g s (a++b) ↔ PrF g s a/\PrF g (a.reverse++s) b
 |[],b,s=>by simp[PrF]
 |x::a,b,s=>by
  rw[al6,List.reverse_cons,al1];show((x≠0->∃y∈s,x∈g.getD y.toNat [])/\PrF g (x::s) (a++b)) ↔ ((x≠0->∃y∈s,x∈g.getD y.toNat [])/\PrF g (x::s) a)/\PrF g (a.reverse++(x::s)) b
  rw[EC (a:=a),and_assoc]
theorem PrF.at:∀{r s:List Int},PrF g s r->∀i,i<r.length->r.getD i 0≠0->(∃y∈s,r.getD i 0∈g.getD y.toNat [])\/∃j,j<i/\r.getD i 0∈g.getD (r.getD j 0).toNat []
 |[],s,h,i,hi,_=>by grind
 |x::r,s,h,0,hi,e=>.inl (h.1 e)
 |x::r,s,h,i+1,hi,e=>by
  rcases h.2.at i (by grind) e with⟨y,hy,h'⟩|⟨j,hj,h'⟩
  .rcases akU.1 hy with rfl|hy
   .exact .inr ⟨0,by omega,h'⟩
   grind
  exact .inr ⟨j+1,by omega,h'⟩
def atS(S:List Lt.step):List Int:=S.map (·.at_)
def wkS(g:List (List Int))(S:List Lt.step):Nat:=(S.map λs=>(g.getD s.at_.toNat []).length-s.next.toNat+1).sum
structure DF (g:List (List Int)) (mk:List Bool) (out:List Int) (S:List Lt.step):Prop where
 ol:mk.length=g.length
 lt:∀k∈atS S++out.reverse,0<=k/\k < (g.length:Int)
 mv:∀k:Nat,k<g.length->(mk.getD k false=true ↔ (k:Int)∈atS S++out.reverse)
 z:(0:Int)∈atS S++out.reverse
 nd:(atS S++out.reverse).Nodup
 pr:PrF g [] (atS S++out.reverse)
 nx:∀s∈S,0<=s.next/\s.next.toNat<=(g.getD s.at_.toNat []).length
 co:∀k∈out,∀s∈g.getD k.toNat [],s∈atS S++out.reverse
 cs:∀s∈S,∀j,j<s.next.toNat->(g.getD s.at_.toNat []).getD j default∈atS S++out.reverse
variable{mk:List Bool}
theorem DF.len{out:List Int}{S:List Lt.step}(h:DF g mk out S):S.length+out.length<=g.length:=by
 have:=List.Nodup.length_le_of_subset h.nd (l₂:=(List.range g.length).map λ(i:Nat)=>(i:Int)) λk hk=>by obtain⟨a,b⟩:=h.lt k hk;exact ak5.2 ⟨k.toNat,List.mem_range.2 kQ1,by omega⟩
 grind [atS]
theorem DF.od{out:List Int}(h:DF g mk out [])(hg:∀l∈g,∀k∈l,0<=k/\k < (g.length:Int)):Lt.Od g out.reverse:=by
 have e:atS []++out.reverse=out.reverse:=rfl
 refine⟨h.lt,λk hk=>?_,h.nd,λi hi hne=>?_⟩
 .induction hk<;>grind [z,co,Int.toNat_natCast]
 rcases h.pr.at i hi hne with⟨y,hy,_⟩|h'
 all_goals grind
variable{t:Lt.step}
theorem DF.pop{out:List Int}{S:List Lt.step}(h:DF g mk out (S++[t]))(ht:t.next.toNat=(g.getD t.at_.toNat []).length):DF g mk (out++[t.at_]) S:=by
 have e:atS S++(out++[t.at_]).reverse=atS (S++[t])++out.reverse:=by simp[atS]
 refine⟨h.ol,by rw[e];exact h.lt,by grind [mv],by grind [z],by grind [nd],by grind [pr],λs hs=>h.nx s (List.mem_append_left _ hs),λk hk s hs=>?_,λs hs j hj=>by grind [cs]⟩;rcases akS.1 hk with hk|hk
 .grind [co]
 obtain rfl:=akY.1 hk;obtain⟨j,hj,e2⟩:=alA.1 hs;have:=h.cs t (amJ _ (akY.2 rfl)) j kQ1
 grind
theorem DF.on{out:List Int}{S R:List Lt.step}(h:DF g mk out (S++t::R))(ht:t.next.toNat < (g.getD t.at_.toNat []).length)(hm:(g.getD t.at_.toNat []).getD t.next.toNat default∈atS (S++t::R)++out.reverse):DF g mk out (S++Lt.step.mk t.at_ (t.next+1)::R):=by
 have e:atS (S++Lt.step.mk t.at_ (t.next+1)::R)=atS (S++t::R):=by simp[atS]
 have tm:t∈S++t::R:=amJ _ (List.mem_cons_self)
 have tn:=(h.nx t tm).1
 have sp:∀s∈S++Lt.step.mk t.at_ (t.next+1)::R,s=Lt.step.mk t.at_ (t.next+1)\/s∈S++t::R:=λs hs=>by grind
 refine⟨h.ol,by rw[e];exact h.lt,by grind [mv],by grind [z],by grind [nd],by grind [pr],λs hs=>?_,by grind [co],λs hs j hj=>?_⟩
 .rcases sp s hs with rfl|hs
  .grind
  exact h.nx s hs
 grind [cs]
theorem DF.push{out:List Int}{S:List Lt.step}{z:Int}(h:DF g mk out (S++[t]))(hz:0<=z/\z < (g.length:Int))(hn:¬ mk.getD z.toNat false=true)(hm:z∈g.getD t.at_.toNat []):DF g (mk.set z.toNat true) out (S++[t]++[Lt.step.mk z 0]):=by
 have e:atS (S++[t]++[Lt.step.mk z 0])=atS (S++[t])++[z]:=by simp[atS]
 have hl:z.toNat<mk.length:=by grind [ol]
 have hni:z ∉ atS (S++[t])++out.reverse:=λhi=>hn ((h.mv z.toNat kQ1).2 (by grind))
 have up:∀k,k∈atS (S++[t])++out.reverse->k∈atS (S++[t]++[Lt.step.mk z 0])++out.reverse:=λk hk=>by grind
 have dn:∀k,k∈atS (S++[t]++[Lt.step.mk z 0])++out.reverse->k=z\/k∈atS (S++[t])++out.reverse:=λk hk=>by grind
 refine⟨by grind [ol],λk hk=>?_,λk hk=>?_,up _ h.z,?_,?_,λs hs=>?_,λk hk s hs=>up _ (h.co k hk s hs),λs hs j hj=>?_⟩
 .rcases dn k hk with rfl|hk
  .exact hz
  exact h.lt k hk
 .grind [iv,mv]
 .grind [nd]
 .rw[e,al1];have hp:=EC.1 h.pr
  refine EC.2 ⟨hp.1,λ_=>⟨t.at_,?_,hm⟩,hp.2.mono λx hx=>alF _ hx⟩;simp[atS]
 .rcases akS.1 hs with hs|hs
  .exact h.nx s hs
  grind
 grind [cs]
theorem ZL(S:List α)(t x:α){m:Nat}(h:m=S.length):(S++[t]).set m x=S++[x]:=by simp_all
theorem JN(g:List (List Int))(hp:A9 g)(KK:List Int->Prop)(h:∀y,DX g y->KK y):CH g KK:=by
 unfold CH;obtain⟨⟨hn,w⟩,ad,Q⟩:=hp;dsimp only;intro J hJ hl;have hz:(g.length:Int).toNat=g.length:=Int.toNat_natCast _
 rw[hz];have hr:(List.replicate g.length (dflt .bo):List Bool).length=g.length:=al4
 refine⟨⟨by omega,by omega,by omega⟩,λ_=>?_⟩;rw[if_neg (by grind)];refine⟨⟨by omega,by omega⟩,by omega,?_⟩;have U:∀mk out,DF g mk out []->J out:=λmk out hd=>by
  refine hJ out λF=>?_
  have b:=hd.len
  simp only[ak8,am1]at b;generalize hn':out.length=n at b F|-;rw[dF kQ1 kQ1];refine ml (λv=>∃i:Nat,v.1=(i:Int)/\v.2.1=(n:Int) - 1 - (i:Int)/\2*i<=n+1/\v.2.2.length=n/\∀k,k<n->v.2.2.getD k default=if k<i\/n<=k+i then out.getD (n - 1-k) default else out.getD k default) (λv=>(v.2.1-v.1).toNat) (λR v hv ih=>?_) _ ⟨0,rfl,by grind,by omega,hn',λk hk=>by grind⟩;obtain⟨v1,v2,l⟩:=v;obtain⟨i,V,P,h3,h4,h5⟩:=hv;dsimp only at V P h4 h5 ih|-;subst V P;refine ifk (λhc=>?_) (λhc=>?_)
  .have hc:=of_decide_eq_true hc
   generalize hj:((n:Int) - 1 - (i:Int)).toNat=j;have Z:j=n - 1-i:=by omega
   have u:i<l.length:=by omega
   have af:j<l.length:=by omega
   rw[Int.toNat_natCast];refine⟨⟨by omega,by omega⟩,⟨by omega,by omega⟩,⟨by omega,by omega⟩,u,⟨by omega,by grind⟩,by grind,?_⟩;rw[ae kQ1,dF kQ1 kQ1];refine ih _ ⟨i+1,rfl,by grind,by omega,by grind,λk hk=>?_⟩ (by grind);dsimp only;rw[gC _ (by grind),gC _ u];by_cases ej:k=j
   .grind
   grind
  have:l=out.reverse:=Ab default (by grind) λk hk=>by grind
  rw[this];exact h _ (hd.od Q)
 have H:DF g ((List.replicate g.length (dflt .bo):List Bool).set 0 true) [] [Lt.step.mk 0 0]:=by
  refine⟨by grind,λk hk=>?_,λk hk=>?_,by simp[atS],by simp[atS],⟨λe=>absurd rfl e,trivial⟩,λs hs=>?_,λk hk=>(by cases hk),λs hs j hj=>?_⟩
  .grind [atS]
  .rw[iv kQ1,show(List.replicate g.length (dflt .bo):List Bool).getD k false=false from vC _ _ _];simp[atS]
  all_goals grind
 refine ml (λv=>DF g v.1 v.2.1 v.2.2) (λv=>1000002*jl v.1+wkS g v.2.2) (λR v hd ih=>?_) _ H;obtain⟨mk,out,S⟩:=v;dsimp only at hd ih|-;have b:=hd.len
 intro _;refine ifk (λA=>?_) (λO=>?_)
 rotate_left
 .have e0:S=[]:=alX (by grind)
  grind
 have A:0<S.length:=by grind
 have hw:i64.wrap ((S.length:Int) - 1)=((S.length - 1:Nat):Int):=by grind [dF]
 rw[hw];dsimp +instances only [Int.toNat_natCast]
 generalize hmm:S.length - 1=m;have a:S=S.take m++[S.getD m default]:=by
  have:=aZ S (i:=m) kQ1
  grind
 have N:(S.take m).length=m:=by grind
 generalize S.getD m default=t at a;generalize hT:S.take m=T at a N;have B:t∈S:=by grind
 have C:=hd.lt t.at_ (List.mem_append_left _ (ak5.2 ⟨t,B,rfl⟩))
 obtain⟨I,hx1⟩:=hd.nx t B;have d:t.at_.toNat<g.length:=by omega
 have r:g.getD t.at_.toNat []∈g:=by grind
 have ab:=w _ r
 have E:=Q _ r
 have ac:wkS g S=wkS g T+((g.getD t.at_.toNat []).length-t.next.toNat+1):=by grind [wkS]
 rw[a]at hd;have q:∀x,S.set m x=T++[x]:=λx=>by grind [ZL]
 intro _;refine⟨⟨by omega,by omega⟩,⟨C.1,d⟩,λ_=>?_⟩;refine ifk (λhe=>?_) (λK=>?_)
 .grind [DF.pop]
 have K:¬ t.next=((g.getD t.at_.toNat []).length:Int):=by grind
 have c:t.next.toNat < (g.getD t.at_.toNat []).length:=by omega
 have f:(g.getD t.at_.toNat []).getD t.next.toNat default∈g.getD t.at_.toNat []:=az _ c
 have o:=E _ f
 have M:i64.wrap (t.next+1)=t.next+1:=dF kQ1 kQ1
 rw[q,M];have L:=hd.on c
 have X:wkS g (T++[Lt.step.mk t.at_ (t.next+1)])+1=wkS g S:=by grind [wkS]
 refine⟨⟨C.1,d⟩,⟨I,c⟩,by omega,λJ5 p=>?_⟩;generalize hze:(g.getD t.at_.toNat []).getD t.next.toNat default=z at f o L p|-;have G:=hd.mv z.toNat kQ1
 rw[Int.toNat_of_nonneg o.1]at G;rw[if_pos (by grind),if_pos (by grind)];have aa:=hd.ol
 refine⟨⟨by omega,by omega⟩,p _ ?_⟩;refine ifk (λhc=>?_) (λhc=>?_)
 .have hf:mk.getD z.toNat false=false:=by grind
  have hf0:mk.getD z.toNat true=false:=by grind
  have ag:=lk mk z.toNat hf0
  have W:z.toNat<g.length:=by omega
  have Y:(g.getD z.toNat []).length<=1000000:=w _ (by grind)
  refine⟨⟨by omega,by omega⟩,by omega,⟨?_,?_⟩,?_⟩
  .grind
  .grind
  have D:=hd.push o (by grind) f
  rw[al1]at D;have hq:=DF.on (S:=T) (R:=[Lt.step.mk z 0]) (t:=t) D c (by grind [atS])
  grind [wkS]
 grind
end Go.Am
end

section
namespace Go.Am
open Go
open Lt (nmB toB Gd Rc bkB phB dp Bare bE)
theorem dX(s:List UInt8):∀(l:List Lt.Block)(i:Int),((jE s l i).2=true->∃k,k<l.length/\(jE s l i).1=i+(k:Int)/\(l.getD k default).Name=s)/\((∃k,k<l.length/\(l.getD k default).Name=s)->(jE s l i).2=true)
 |[],i=>⟨λh=>(by cases h),λ⟨k,hk,_⟩=>absurd hk (Nat.not_lt_zero k)⟩
 |b::r,i=>by
  unfold jE;by_cases e:b.Name=s
  .grind
  rw[if_neg e];obtain⟨h1,h2⟩:=dX s r (i+1);refine⟨λh=>?_,λ⟨k,hk,h⟩=>h2 ?_⟩
  .obtain⟨k,hk,c,a⟩:=h1 h;exact⟨k+1,Nat.succ_lt_succ hk,by omega,a⟩
  grind
theorem qa(f:Lt.Func):(jN f).length=f.Blocks.length:=by grind [jN]
theorem XO(f:Lt.Func){i:Nat}(hi:i<f.Blocks.length):(jN f).getD i []=(toB f.Blocks i).filterMap (pc f):=by grind [jN]
theorem KQ(f:Lt.Func)(s:List UInt8)(z:Int)(h:pc f s=some z):∃k:Nat,k<f.Blocks.length/\z=(k:Int)/\nmB f.Blocks k=s:=by grind [pc,dX,aR]
variable{f:Lt.Func}{k:Nat}
theorem zY(a:Gd f.Blocks){i:Nat}:(k:Int)∈(jN f).getD i [] ↔ i<f.Blocks.length/\k<f.Blocks.length/\nmB f.Blocks k∈toB f.Blocks i:=by grind [qa,XO,aR,dX,pc,Gd.nd]
theorem Jd(hp:sJ f):vo (jN f):=by refine⟨by rw[qa];exact hp.1,λl hl=>?_⟩;unfold jN at hl;obtain⟨b,hb,rfl⟩:=ak5.1 hl;exact alV (Ch _ _) (hp.2 b hb)
theorem XP(hp:sJ f)(a:Gd f.Blocks):A9 (jN f):=by
 refine⟨Jd hp,by rw[qa];exact a.ps,λl hl k hk=>?_⟩
 grind [jN,KQ]
theorem Uv(a:Gd f.Blocks)(hk:k<f.Blocks.length)(z:Int):z∈(iM (jN f)).getD k [] ↔ ∃i:Nat,z=(i:Int)/\i<f.Blocks.length/\nmB f.Blocks k∈toB f.Blocks i:=by grind [iM,QW,jN,zY]
theorem UC(a:Gd f.Blocks)(hk:k<f.Blocks.length):Lt.Gr (jN f) k:=by
 have:=a.re k hk
 induction this with
 |first _=>exact .first
 |next i k _ hi hk hm ih=>exact .next i k (ih hi) ((zY a).2 ⟨hi,hk,hm⟩)
def univ(f:Lt.Func):List (List UInt8):=f.Params.map (·.Name)++f.Blocks.flatMap λb=>b.Phis.map (·.Dst)++b.Code.map (·.Dst)
theorem Je{α β:Type}(g:α->List β)(c:Nat):∀l:List α,(∀x∈l,(g x).length<=c)->(l.flatMap g).length<=l.length*c
 |[],_=>by simp
 |x::r,h=>by
  have:=Je g c r λy hy=>h y (alF _ hy)
  grind [Nat.succ_mul]
theorem Z1(hp:vk f):(univ f).length<=4000000000000:=by
 obtain⟨⟨h1,_⟩,_,h2,h3⟩:=hp;have:=Je (λb:Lt.Block=>b.Phis.map (·.Dst)++b.Code.map (·.Dst)) 2000000 f.Blocks λb hb=>by grind
 grind [univ]
theorem aiD:∀v∈f.Params.map (·.Name),v∈univ f:=λv hv=>List.mem_append_left _ hv
theorem aiC(hk:k<f.Blocks.length):∀v∈phB f k,v∈univ f:=λv hv=>amJ _ (amS.2 ⟨_,az _ hk,List.mem_append_left _ hv⟩)
theorem aiE(hk:k<f.Blocks.length):∀v∈dp (bkB f k),v∈univ f:=λv hv=>amJ _ (amS.2 ⟨_,az _ hk,amJ _ (List.mem_filter.1 hv).1⟩)
theorem okU.okV{U:List (List UInt8)}{s:Lt.Vs}(h:okU U s):Lt.okV s (s.getD []).length:=by obtain⟨m,rfl,h1,h2⟩:=h;exact⟨m,rfl,h1.1,h1.2,akK _⟩
theorem Y5{U:List (List UInt8)}{a b y:Lt.Vs}(h:okU U a)(hy:Lt.okV y (a.getD []).length)(c:∀v,bE y v=(bE a v&&bE b v)):okU U y:=by
 obtain⟨l,rfl,h1,h2,_⟩:=hy;refine⟨l,rfl,⟨h1,h2⟩,λv hv=>?_⟩;have e:=c v
 rw[kq ⟨h1,h2⟩,decide_eq_true hv]at e;have e:bE a v=true:=by grind
 obtain⟨m,rfl,g1,g2⟩:=h
 grind [kq]
def szV(n:Nat)(s:Lt.Vs):Nat:=match s with|none=>n+1|some m=>m.length
def Ly(n:Nat)(l:List Lt.Vs):Nat:=(l.map (szV n)).sum
theorem Lz(n:Nat):∀(l:List Lt.Vs)(k:Nat)(s:Lt.Vs),k<l.length->Ly n (l.set k s)+szV n (l.getD k none)=Ly n l+szV n s
 |[],k,s,h=>by grind
 |x::l,0,s,h=>by grind [Ly]
 |x::l,k+1,s,h=>by
  have:=Lz n l k s (by grind)
  grind [Ly]
theorem Zd(s:Lt.Vs)(f:Lt.Func)(k:Nat)(v:List UInt8):bE (mB s (bkB f k)) v=(bE s v||decide (v∈phB f k)):=yG s _ v
theorem qt(s:Lt.Vs)(b:Lt.Block)(v:List UInt8):bE (jg s b) v=(bE s v||decide (v∈dp b)):=yG s _ v
theorem rR(s:Lt.Vs)(b:Lt.Block):jg s b≠default:=λe=>by cases e
def pP(f:Lt.Func)(outs:List Lt.Vs)(k:Nat)(v:List UInt8):Prop:=(k=0->v∈f.Params.map (·.Name))/\∀i,i<f.Blocks.length->nmB f.Blocks k∈toB f.Blocks i->outs.getD i default≠default->bE (outs.getD i default) v=true
structure AI (f:Lt.Func) (ins outs:List Lt.Vs):Prop where
 li:ins.length=f.Blocks.length
 lo:outs.length=f.Blocks.length
 no:∀k,k<f.Blocks.length->ins.getD k default=default->outs.getD k default=default
 ok:∀k,k<f.Blocks.length->ins.getD k default≠default->okU (univ f) (ins.getD k default)/\outs.getD k default=jg (ins.getD k default) (bkB f k)
 ov:∀k,k<f.Blocks.length->ins.getD k default≠default->∀v,¬ Bare f v k->bE (ins.getD k default) v=true
 tr:∀k,k<f.Blocks.length->ins.getD k default≠default->∀v,pP f outs k v\/v∈phB f k->bE (ins.getD k default) v=true
variable{outs:List Lt.Vs}
theorem AI.on{ins:List Lt.Vs}(h:AI f ins outs)(hk:k<f.Blocks.length)(ho:outs.getD k default≠default):ins.getD k default≠default:=λe=>ho (h.no k hk e)
theorem AI.step{ins:List Lt.Vs}(h:AI f ins outs)(hk:k<f.Blocks.length){x:Lt.Vs}(hx:okU (univ f) x)(he:∀v,bE x v=true ↔ pP f outs k v\/v∈phB f k) :
  AI f (ins.set k x) (outs.set k (jg x (bkB f k)))/\(ins.getD k default≠default->∀v,bE x v=true->bE (ins.getD k default) v=true):=by
 have hki:k<ins.length:=by grind [li]
 have hko:k<outs.length:=by grind [lo]
 have less:ins.getD k default≠default->∀v,bE x v=true->bE (ins.getD k default) v=true:=λhs v hv=>h.tr k hk hs v ((he v).1 hv)
 have xs:x≠default:=λe=>by have:=hx.isS;grind
 have mdn:∀j v,pP f (outs.set k (jg x (bkB f k))) j v->pP f outs j v:=λj v hm=>by
  refine⟨hm.1,λi hi hmem hs=>?_⟩;have h2:=hm.2 i hi hmem
  rw[gC _ hko]at h2;by_cases e:i=k
  .subst e;rw[if_pos rfl]at h2;have h2:=h2 (rR _ _)
   have hin:=h.on hk hs
   rw[(h.ok i hk hin).2,qt]
   grind [qt]
  grind
 refine⟨⟨by grind [li],by grind [lo],λj hj hs=>?_,λj hj hs=>?_,λj hj hs v hv=>?_,λj hj hs v hv=>?_⟩,less⟩
 .grind [gC,no]
 .grind [gC,ok]
 .rw[gC _ hki]at hs|-;by_cases e:j=k
  .subst e;rw[if_pos rfl];refine(he v).2 (Classical.or_iff_not_imp_right.2 λhp=>⟨λe0=>Classical.byContradiction λhn=>hv (by subst e0;exact .first hn),λi hi hmem hso=>Classical.byContradiction λhn=>hv ?_⟩);have hin:=h.on hi hso
   rw[(h.ok i hi hin).2,qt]at hn;have n1:bE (ins.getD i default) v≠true:=λe=>hn (by grind)
   have n2:v ∉ dp (bkB f i):=λe=>hn (by grind)
   exact .next i j (Classical.byContradiction λhb=>n1 (h.ov i hi hin v hb)) (λhp=>n1 (h.tr i hi hin v (.inr hp))) n2 hi hj hmem
  grind [ov]
 grind [gC,tr]
theorem AI.fin{ins:List Lt.Vs}(h:AI f ins outs)(hs:∀k,k<f.Blocks.length->ins.getD k default≠default)(hx:∀k,k<f.Blocks.length->∀v,bE (ins.getD k default) v=true->pP f outs k v\/v∈phB f k):qw f ins:=by
 refine⟨⟨h.li,λk hk=>⟨(h.ok k hk (hs k hk)).1.isS,λv=>⟨λhv=>?_,λhv=>hv.elim (h.ov k hk (hs k hk) v) λhp=>h.tr k hk (hs k hk) v (.inr hp)⟩⟩⟩,λk hk=>?_⟩
 rotate_left
 .have hu:=(h.ok k hk (hs k hk)).1
  have hl:=hu.len
  obtain⟨m,e,g1,g2⟩:=hu;rw[e]at hl;exact⟨m,e,g1.1,g1.2,hl⟩
 refine Classical.or_iff_not_imp_right.2 λhp hb=>?_
 have key:∀k,Bare f v k->k<f.Blocks.length->v ∉ phB f k->bE (ins.getD k default) v≠true:=λk hb=>by
  induction hb with
  |first hn=>exact λhk hp hv=>hn (((hx 0 hk v hv).resolve_right hp).1 rfl)
  |next i k _ h1 h2 hi hk' hm ih=>
   intro hk hp hv;have hso:=(h.ok i hi (hs i hi)).2
   have h3:=((hx k hk v hv).resolve_right hp).2 i hi hm (by grind [rR])
   grind [qt]
 grind
structure RI (f:Lt.Func) (y:List Int) (t0:Nat) (j:Nat) (ins outs:List Lt.Vs) (ch:Bool):Prop where
 ai:AI f ins outs
 dn:∀i,i<j->ins.getD (y.getD i default).toNat default≠default
 sz:Ly (univ f).length ins<=t0
 s2:ch=true->Ly (univ f).length ins<t0
 fx:ch=false->∀i,i<j->∀v,bE (ins.getD (y.getD i default).toNat default) v=true->pP f outs (y.getD i default).toNat v\/v∈phB f (y.getD i default).toNat
variable{y:List Int}
theorem RI.step{t0 j:Nat}{ins:List Lt.Vs}{ch:Bool}(h:RI f y t0 j ins outs ch)(ek:y.getD j default=(k:Int))(hk:k<f.Blocks.length)(hy:∀i,i<j->(y.getD i default).toNat<f.Blocks.length){x:Lt.Vs}(hx:okU (univ f) x)(he:∀v,bE x v=true ↔ pP f outs k v\/v∈phB f k){c:Bool}
  (hc:c=(if(ins.getD k default).isNone=true then true else if !decide ((((ins.getD k default).getD []).length:Int)=((x.getD []).length:Int))then true else ch)) :
  RI f y t0 (j+1) (ins.set k x) (outs.set k (jg x (bkB f k))) c:=by
 obtain⟨ha,less⟩:=h.ai.step hk hx he;have hki:k<ins.length:=by rw[h.ai.li];exact hk
 have hko:k<outs.length:=by rw[h.ai.lo];exact hk
 have xs:x≠default:=λe=>by have:=hx.isS;grind
 have hsz:=Lz (univ f).length ins k x hki
 have hxl:=hx.len
 obtain⟨mx,rfl⟩:∃mx,x=some mx:=by cases x<;>grind
 have s1:szV (univ f).length (some mx)=mx.length:=rfl
 simp only[amG]at hxl hc;have ways:(ins.getD k default=none/\c=true)\/(∃m,ins.getD k default=some m/\mx.length<=m.length/\((mx.length<m.length/\c=true)\/(mx.length=m.length/\c=ch))):=by
  cases hi:ins.getD k default with
  |none=>grind
  |some m=>
   refine .inr ⟨m,rfl,?_⟩;have hne:ins.getD k default≠default:=by grind
   have hl:=less hne
   have hok:=(h.ai.ok k hk hne).1
   rw[hi]at hl hok hc;have hle:=hx.le hok hl
   grind
 refine⟨ha,λi hi=>?_,?_,λec=>?_,λec i hi v hv=>?_⟩
 .grind [gC,dn]
 .have:=h.sz
  grind [szV]
 .have:=h.sz
  rcases ways with⟨e,_⟩|⟨m,e,h1,⟨h2,_⟩|⟨h2,h3⟩⟩
  .grind [szV]
  .grind [szV]
  have e2:szV (univ f).length (ins.getD k none)=m.length:=by rw[show ins.getD k none=some m from e];rfl
  have:=h.s2 (by grind)
  omega
 rcases ways with⟨_,e⟩|⟨m,e,h1,⟨_,h2⟩|⟨h2,h3⟩⟩
 .grind
 .grind
 have hne:ins.getD k default≠default:=by grind
 have hok:=(h.ai.ok k hk hne)
 have hsame:=hx.same hok.1 (less hne) (by grind)
 have hiff:∀v,bE (some mx) v=bE (ins.getD k default) v:=λv=>by grind
 have mup:∀q v,pP f outs q v->pP f (outs.set k (jg (some mx) (bkB f k))) q v:=λq v hm=>by
  refine⟨hm.1,λi hi hmem hs=>?_⟩;rw[gC _ hko]at hs|-;by_cases ei:i=k
  .subst ei;rw[if_pos rfl];have:=hm.2 i hi hmem (by grind [rR])
   grind [qt]
  rw[if_neg ei]at hs|-;exact hm.2 i hi hmem hs
 rcases alY i j with h'|h'
 .grind [fx]
 grind
theorem Ou{t0:Nat}{ins:List Lt.Vs}{ch:Bool}(a:Gd f.Blocks)(hy:Lt.Od (jN f) y)(h:RI f y t0 y.length ins outs ch)(hc:ch=false):qw f ins:=by
 have pos:∀k,k<f.Blocks.length->∃i,i<y.length/\(y.getD i default).toNat=k:=λk hk=>by obtain⟨i,hi,e⟩:=alA.1 (hy.all k (UC a hk));exact⟨i,hi,by grind⟩
 refine h.ai.fin (λk hk=>?_) λk hk v hv=>?_
 all_goals grind [RI.dn,RI.fx]
theorem TF(f:Lt.Func)(hp:vk f)(KK:List Lt.Vs->Prop)(h:∀y,qw f y->KK y):Pp f KK:=by
 unfold Pp;have aq:=Z1 hp
 obtain⟨C,I,al,aA⟩:=hp;have hn:=C.1
 have ay:=I.ps
 dsimp only;have hz:(f.Blocks.length:Int).toNat=f.Blocks.length:=Int.toNat_natCast _
 rw[hz];refine⟨C,Jd C,XP C I,λy hy _=>⟨⟨by omega,by omega,by omega⟩,λ_=>⟨⟨by omega,by omega,by omega⟩,?_⟩⟩⟩;have hy:Lt.Od (jN f) y:=hy
 have aj:∀i,i<y.length->∃k:Nat,y.getD i default=(k:Int)/\k<f.Blocks.length:=λi hi=>by
  have:=hy.lt _ (az _ hi)
  rw[qa]at this;exact⟨(y.getD i default).toNat,by omega,by omega⟩
 have ap:(iM (jN f)).length=f.Blocks.length:=by grind [iM,qa]
 have W:AI f (List.replicate f.Blocks.length (dflt (.mp .s .bo))) (List.replicate f.Blocks.length (dflt (.mp .s .bo))):=by
  have e:∀k,(List.replicate f.Blocks.length (dflt (.mp .s .bo)):List Lt.Vs).getD k default=default:=λk=>vC _ _ _
  exact⟨al4,al4,λk _ _=>e k,λk _ hk=>absurd (e k) hk,λk _ hk=>absurd (e k) hk,λk _ hk=>absurd (e k) hk⟩
 refine ml (λv=>AI f v.1 v.2.1/\(v.2.2=false->qw f v.1)) (λv=>Ly (univ f).length v.1+v.2.2.toNat) (λR v⟨K,Q⟩ih=>?_) _ ⟨W,λe=>by cases e⟩;obtain⟨E,ah,aC⟩:=v;dsimp only at K Q ih|-;refine ifk (λD=>?_) (λD=>h _ (Q (by grind)));subst D;intro ax;refine ao _ y.length (λj v=>v.2.2.2=(j:Int)/\RI f y (Ly (univ f).length E) j v.1 v.2.1 v.2.2.1) (λR4 j v hj⟨e,d⟩V=>?_) (λR4 v⟨e,d⟩=>?_) _ ⟨rfl,⟨K,λi hi=>by omega,akK _,λe=>(by cases e),λ_ i hi=>by omega⟩⟩
 rotate_left
 .obtain⟨ins,outs,ch,v4⟩:=v;dsimp only at e d|-;subst e;rw[if_neg (by simp)];refine ih _ ⟨d.ai,Ou I hy d⟩ ?_;dsimp only;have h1:=d.sz
  cases ch with
  |true=>have:=d.s2 rfl;omega
  |false=>grind
 obtain⟨ins,outs,ch,v4⟩:=v;dsimp only at e d|-;subst e;rw[if_pos (aW hj)];refine⟨ob hj,?_⟩;obtain⟨k,Z,hk⟩:=aj j hj;dsimp +instances only [Int.toNat_natCast]
 have af:k≠0->∃i,i<f.Blocks.length/\nmB f.Blocks k∈toB f.Blocks i/\outs.getD i default≠default:=λo=>by
  obtain⟨j',X,hm⟩:=hy.pr j hj (by grind);have hm:y.getD j default∈(jN f).getD (y.getD j' default).toNat []:=hm
  rw[Z]at hm;obtain⟨h1,h2,h3⟩:=(zY I).1 hm;refine⟨_,h1,h3,?_⟩;rw[(d.ai.ok _ h1 (d.dn j' X)).2];exact rR _ _
 have J:∀i,i<j->(y.getD i default).toNat<f.Blocks.length:=λi hi=>by grind
 have B:=Uv I hk
 have p:=λx hx he c hc=>d.step (x:=x) (c:=c) Z hk J hx he hc
 rw[Z];dsimp +instances only [Int.toNat_natCast]
 generalize(iM (jN f)).getD k []=L at B;have aw:=d.ai.li
 have an:=d.ai.lo
 intro J6 ak;have u:∀A,(A=default/\k≠0)\/(okU (univ f) A/\∀v,bE A v=true ↔ (k=0->v∈f.Params.map (·.Name)))->J6 A:=λA H=>by
  refine ak _ ⟨⟨by omega,by omega⟩,λam=>?_⟩;refine ao _ L.length (λi v=>v.2=(i:Int)/\((v.1=default/\k≠0/\∀z∈L.take i,outs.getD z.toNat default=default)\/(okU (univ f) v.1/\∀w,bE v.1 w=true ↔ (k=0->w∈f.Params.map (·.Name))/\∀z∈L.take i,outs.getD z.toNat default≠default->bE (outs.getD z.toNat default) w=true))) (λR8 i v hi⟨e,l⟩S=>?_) (λR8 v⟨e,l⟩=>?_) _ ⟨rfl,H.imp (λ⟨a,b⟩=>⟨a,b,λz hz=>(by cases hz)⟩) (λ⟨a,b⟩=>⟨a,λw=>(b w).trans ⟨λh=>⟨h,λz hz=>(by cases hz)⟩,λh=>h.1⟩⟩)⟩
  .obtain⟨m,v9⟩:=v;dsimp only at e l|-;subst e;rw[if_pos (aW hi)];intro av r;dsimp +instances only [Int.toNat_natCast]at r|-
   have G:L.getD i default∈L:=az _ hi
   have tk:=aZ L hi
   generalize L.getD i default=z at G tk r|-;obtain⟨q,ez,hq,_⟩:=(B z).1 G;subst ez;rw[Int.toNat_natCast];refine⟨ob hi,⟨by omega,by omega⟩,?_⟩;have mem:∀T,T∈L.take (i+1) ↔ T∈L.take i\/T=(q:Int):=λT=>by grind
   refine ifk (λhc=>⟨⟨by omega,by omega⟩,?_,λx hx=>?_⟩) (λhc=>?_)
   .rcases l with⟨e,_⟩|⟨g,_⟩
    .exact .inl e
    exact .inr ⟨_,g.okV⟩
   .have n:outs.getD q default≠default:=λe=>by grind
    have M:=d.ai.ok q hq (d.ai.on hq n)
    have ac:okU (univ f) (outs.getD q default):=by rw[M.2];exact M.1.put (aiE hq)
    refine r _ (S _ ⟨ae kQ1,.inr ?_⟩);dsimp only;rcases l with⟨e,o,hno⟩|⟨g,hw⟩
    .have hx:=hx.1 e
     subst hx;refine⟨ac,λw=>⟨λhw=>⟨λe=>absurd e o,λz hz hs=>?_⟩,λhw=>?_⟩⟩
     .rcases(mem z).1 hz with hz|rfl
      .grind
      exact hw
     exact hw.2 (q:Int) ((mem _).2 (.inr rfl)) n
    have ag:m≠none:=λe=>by have:=g.isS;grind
    obtain⟨hx1,O⟩:=hx.2 ag;refine⟨Y5 g (hx1 _ g.okV) O,λw=>?_⟩;rw[O,akI,hw];refine⟨λ⟨⟨a,b⟩,c⟩=>⟨a,λz hz hs=>?_⟩,λ⟨a,b⟩=>⟨⟨a,λz hz hs=>b z ((mem z).2 (.inl hz)) hs⟩,b (q:Int) ((mem _).2 (.inr rfl)) n⟩⟩;rcases(mem z).1 hz with hz|rfl
    .grind
    exact c
   have t:outs.getD q default=default:=by cases e:outs.getD q default<;>grind
   refine r _ (S _ ⟨ae kQ1,?_⟩);dsimp only;rcases l with⟨e,o,hno⟩|⟨g,hw⟩
   .refine .inl ⟨e,o,λz hz=>?_⟩;rcases(mem z).1 hz with hz|rfl
    .grind
    exact t
   refine .inr ⟨g,λw=>(hw w).trans ⟨λ⟨a,b⟩=>⟨a,λz hz hs=>?_⟩,λ⟨a,b⟩=>⟨a,λz hz hs=>b z ((mem z).2 (.inl hz)) hs⟩⟩⟩;rcases(mem z).1 hz with hz|rfl
   .grind
   exact absurd t hs
  obtain⟨m,v9⟩:=v;dsimp only at e l|-;subst e;rw[if_neg (by simp)];rw[List.take_length]at l;have l:okU (univ f) m/\∀w,bE m w=true ↔ pP f outs k w:=by
   rcases l with⟨_,o,hno⟩|⟨g,hw⟩
   .obtain⟨i,h1,h2,h3⟩:=af o;exact absurd (hno (i:Int) ((B _).2 ⟨i,rfl,h1,h2⟩)) h3
   refine⟨g,λw=>(hw w).trans ⟨λ⟨a,b⟩=>⟨a,λi h1 h2 h3=>b (i:Int) ((B _).2 ⟨i,rfl,h1,h2⟩) h3⟩,λ⟨a,b⟩=>⟨a,λz hz hs=>?_⟩⟩⟩;obtain⟨i,rfl,h1,h2⟩:=(B z).1 hz;exact b i h1 h2 hs
  obtain⟨g,hw⟩:=l;intro au N;rw[if_neg (by have:=g.isS;cases m<;>grind)];refine N _ ⟨⟨by omega,hk⟩,g.isS,?_⟩;have hx:okU (univ f) (mB m (bkB f k)):=g.put (aiC hk)
  have he:∀v,bE (mB m (bkB f k)) v=true ↔ pP f outs k v\/v∈phB f k:=λv=>by grind [Zd]
  have p:=p _ hx he
  have U:=hx.len
  have ab:=hx.isS
  show aa (α:=Bool) _ _
  intro Y F aB P;have last:∀c,c=(if(ins.getD k default).isNone=true then true else if !decide ((((ins.getD k default).getD []).length:Int)=(((mB m (bkB f k)).getD []).length:Int))then true else ch)->Y c:=λc hc=>F c ⟨⟨by omega,hk⟩,ab,⟨by omega,by omega⟩,by omega,⟨by omega,by omega⟩,by omega,V _ ⟨ae kQ1,p c hc⟩⟩
  refine⟨⟨by omega,by omega⟩,?_⟩;by_cases hc:(ins.getD k default).isNone=true
  .grind
  rw[if_neg hc];have ad:ins.getD k default≠default:=λe=>hc (by grind)
  have ar:=(d.ai.ok k hk ad).1.len
  refine⟨⟨by omega,by omega⟩,by omega,?_,P _ ?_⟩
  .exact alV U kQ1
  dsimp only;refine ifk (λhd=>last true (by rw[if_neg hc];exact(if_pos hd).symm)) (λhd=>last ch (by rw[if_neg hc];exact(if_neg hd).symm))
 refine ifk (λhc=>u _ (.inr ⟨(okU.nil _).put aiD,λv=>?_⟩)) (λhc=>u _ (.inl ⟨rfl,λe=>hc (by grind)⟩));have o:k=0:=by grind
 show bE (Cn _ _) v=true ↔ _
 grind [yG,bE,aU]
end Go.Am
end

section
namespace Go.Am
open Go
theorem af0{n:Int}(h:(Lt.Of n).2=true):(1<=n/\n<=21/\(Lt.Of n).1.Least=2)\/(22<=n/\n<=24/\(Lt.Of n).1.Least=1)\/n=25\/(n=26/\(Lt.Of n).1.Least=1)\/(n=27/\(Lt.Of n).1.Least=2)\/(n=28/\(Lt.Of n).1.Least=2)\/n=29\/(n=30/\(Lt.Of n).1.Least=1)\/n=31\/n=32\/(n=33/\(Lt.Of n).1.Least=1)\/n=34:=by
 by_cases e:1<=n/\n<=21
 .grind [Lt.Of]
 by_cases d:22<=n/\n<=24
 .grind [Lt.Of]
 by_cases b:n=25
 .omega
 by_cases c:n=26
 .grind [Lt.Of]
 by_cases a:n=27
 all_goals grind [Lt.Of]
theorem Kg(q:Lt.asked)(hp:Bb q)(KK:Bool->Prop)(h:KK (vR q)):CW q KK:=by
 unfold CW;obtain⟨h1,h2,h3,h4⟩:=hp;have hl:=af0 h1
 unfold vR at h;have f:∀J:Bool->Prop,(if q.i.Op=29 then J (decide (q.i.Op=29))else J (decide (q.i.Op=30)))=J (decide (q.i.Op=29\/q.i.Op=30)):=λJ=>by grind
 simp only[decide_eq_true_eq];simp only[f,ac,decide_eq_true_eq];refine ifk (λn=>by grind) (λn=>?_);rw[if_neg n]at h;refine ifk (λk=>by grind) (λk=>?_);rw[if_neg k]at h;refine ifk (λc3=>by grind) (λc3=>?_);rw[if_neg c3]at h;refine ifk (λl=>by grind) (λl=>?_);rw[if_neg l]at h;refine ifk (λo=>by grind) (λo=>?_);rw[if_neg o]at h;refine ifk (λj=>?_) (λj=>?_)
 .rw[if_pos j]at h;exact⟨⟨by omega,by omega⟩,h⟩
 rw[if_neg j]at h;refine ifk (λm=>by grind) (λm=>?_);rw[if_neg m]at h;refine ifk (λg=>?_) (λg=>?_)
 .rw[if_pos g]at h;refine⟨⟨by omega,h2⟩,?_⟩
  grind
 rw[if_neg g]at h;refine ifk (λe=>?_) (λe=>?_)
 .rw[if_pos e]at h;refine⟨⟨by omega,h2⟩,?_⟩
  grind
 rw[if_neg e]at h;refine ifk (λd=>?_) (λd=>?_)
 .grind
 rw[if_neg d]at h;refine ifk (λb=>?_) (λb=>?_)
 .rw[if_pos b]at h;exact⟨λp=>by omega,h⟩
 rw[if_neg b]at h;refine ifk (λa=>?_) (λa=>?_)
 .rw[if_pos a]at h;intro J r
  grind
 rw[if_neg a]at h;refine ifk (λc=>?_) (λc=>?_)
 .rw[if_pos c]at h;intro J r
  grind
 grind
theorem YB(p:Lt.Program)(f:Lt.Func)(i:Lt.Instr)(hp:vm p f i)(KK:Lt.asked×Bool->Prop)(h:KK (pu p f i)):V2 p f i KK:=by
 unfold V2;dsimp only;have hp:i.Args.length<=1000000:=hp
 unfold pu at h;intro J g;have c:(jo f i&&i.Args.all λa=>(iC f a).2)=false->KK (⟨⟨false,[],[],[],[]⟩,⟨0,[],[],[],[],[]⟩,[],[]⟩,false):=λe=>by rw[if_neg (by grind)]at h;exact h
 have o:J (!((Lt.Of i.Op).2&&(decide ((Lt.Of i.Op).1.Least<=(i.Args.length:Int))&&decide ((i.Args.length:Int)<=(Lt.Of i.Op).1.Most)))):=g _ (by
  dsimp only;refine ifk (λhc=>c ?_) (λhc j b=>?_)
  .grind [jo]
  have hc:(Lt.Of i.Op).2=true/\(Lt.Of i.Op).1.Least<=(i.Args.length:Int)/\(i.Args.length:Int)<=(Lt.Of i.Op).1.Most:=by grind
  obtain⟨n,m,c3⟩:=hc;have fin:∀d:List UInt8,((!(Lt.Of i.Op).1.Dst||(iz f i.Dst).2)=true)->d=IX f i->j ⟨p,i,d,[]⟩:=λd hd e=>b _ (by
   dsimp only;intro hl;have hf:jo f i=true:=by grind [jo]
   rw[hf,alH]at h c;subst e;refine dJ i.Args (λ(q:Lt.asked) (k:Int)=>(k,q)) (λr q=>(q=⟨p,i,IX f i,q.args⟩/\(i.Args.all λa=>(iC f a).2)=(r.all λa=>(iC f a).2)/\q.args++l4 f r=l4 f i.Args)) (λR q k x r hi hx _ ih hq=>?_) (λR q hq=>?_) _ ⟨rfl,rfl,rfl⟩
   .obtain⟨l,q2,s⟩:=hq;dsimp only;rw[if_pos (aW hi)];refine⟨ob hi,?_⟩
    grind [Int.toNat_natCast,l4,akT]
   grind [l4])
  grind [jo,IX])
 grind
theorem NP(p:Lt.Program)(f:Lt.Func)(i:Lt.Instr)(hp:afK p f i)(KK:Bool->Prop)(h:KK (lP p f i)):G3 p f i KK:=by
 unfold G3;refine⟨hp,ifk (λhc=>⟨?_,?_⟩) (λhc=>?_)⟩
 .have e:(jo f i&&i.Args.all λa=>(iC f a).2)=true:=by grind [pu]
  have b:pu p f i=(⟨p,i,IX f i,l4 f i.Args⟩,true):=by grind [pu]
  rw[b];unfold jo at e;simp only[akI,decide_eq_true_eq]at e;refine⟨e.1.1,by simp[l4],?_,?_⟩
  all_goals grind [l4]
 all_goals grind [lP,pu]
end Go.Am
end

section
namespace Go.Am
open Go
open Lt (nmB toB Gd Rc bkB phB dp Bare bE pV mU)
theorem adJ(m:VM)(k v:List UInt8):v∈(dz .s m k true).map (·.1) ↔ v∈m.map (·.1)\/v=k:=by grind [nw]
theorem adB(m:VM)(k:List UInt8):(dz .s m k true).length<=m.length+1:=by grind [nw,akT]
theorem zy{α:Type}[Inhabited α]{body:(Int×VM->Prop)->Int×VM->Prop}(l:List α)(ar:α->Lt.Arg)(m:VM)(Q:VM->Prop)
  (hs:∀R(i:Nat)m,i<l.length->l.length<=4611686018427387904->((ar (l.getD i default)).Kind=1->R (i64.wrap ((i:Int)+1),dz .s m (ar (l.getD i default)).S true))->(¬ (ar (l.getD i default)).Kind=1->R (i64.wrap ((i:Int)+1),m))->body R ((i:Int),m))
  (b:∀R m,Q m->body R ((l.length:Int),m)) (hl:l.length<=4611686018427387904)
  (h:∀m',(∀v,v∈m'.map (·.1) ↔ v∈m.map (·.1)\/∃a∈l,(ar a).Kind=1/\(ar a).S=v)->m'.length<=m.length+l.length->Q m'):ab body (0,m):=by
 refine dJ l (λm i=>(i,m)) (λr m=>∀m',(∀v,v∈m'.map (·.1) ↔ v∈m.map (·.1)\/∃a∈r,(ar a).Kind=1/\(ar a).S=v)->m'.length<=m.length+r.length->Q m') (λR m i x r hi hx _ ih h=>hs R i m hi hl (λhc=>ih hl _ λm' hm hn=>h m' (λv=>?_) ?_) (λhc=>ih hl _ λm' hm hn=>h m' (λv=>?_) ?_)) (λR m h=>b R m (h m (λv=>by simp) (by simp))) m h
 all_goals grind [adJ,adB]
theorem Nl(x:Lt.Instr)(hp:iT x)(KK:List (List UInt8)->Prop)(h:∀y,vj x y->KK y):GG x KK:=by
 unfold GG;unfold iT Ep at hp;dsimp only;intro n;refine zy x.Args id [] (λm=>∀m',(∀v,v∈m'.map (·.1) ↔ v∈m.map (·.1)\/(∃f∈x.Frames,∃b∈f.Vars,b.A.Kind=1/\b.A.S=v)\/∃o∈x.Objs,∃a∈o.Vals,a.Kind=1/\a.S=v)->m'.length<=m.length+(x.Frames.map λf=>f.Vars.length).sum+(x.Objs.map λo=>o.Vals.length).sum->lG (some m')/\∀y,jv (some m') y->KK y) (λR i m hi hl k1 k2=>?_) (λR m d=>?_) n (λm hm hn m' k hn'=>⟨⟨rfl,?_⟩,λy hy=>h y λv=>by rw[hy.1 v];simp only[amG];rw[k,hm];simp only[alN,List.not_mem_nil,false_or];rfl⟩)
 .rw[if_pos (aW hi)];intro J t
  grind
 rotate_left
 .grind
 rw[if_neg (by simp)];intro j;refine dJ x.Frames (λm i=>(i,m)) (λr m=>∀m',(∀v,v∈m'.map (·.1) ↔ v∈m.map (·.1)\/(∃f∈r,∃b∈f.Vars,b.A.Kind=1/\b.A.S=v)\/∃o∈x.Objs,∃a∈o.Vals,a.Kind=1/\a.S=v)->m'.length<=m.length+(r.map λf=>f.Vars.length).sum+(x.Objs.map λo=>o.Vals.length).sum->lG (some m')/\∀y,jv (some m') y->KK y) (λR m i x' r hi hx _ ih h=>?_) (λR m d=>?_) m d
 .rw[if_pos (aW hi)];refine⟨ob hi,λhl=>?_⟩;dsimp +instances only [Int.toNat_natCast]
  rw[hx];refine zy x'.Vars (·.A) m (λm'=>∀c,(∀v,v∈c.map (·.1) ↔ v∈m'.map (·.1)\/(∃f∈r,∃b∈f.Vars,b.A.Kind=1/\b.A.S=v)\/∃o∈x.Objs,∃a∈o.Vals,a.Kind=1/\a.S=v)->c.length<=m'.length+(r.map λf=>f.Vars.length).sum+(x.Objs.map λo=>o.Vals.length).sum->lG (some c)/\∀y,jv (some c) y->KK y) (λR i m hi hl k1 k2=>?_) (λR m d=>?_) (by rw[<- hx];exact hl) (λu g l s e p=>h s (λv=>?_) ?_)
  .rw[if_pos (aW hi)];intro J t
   grind [Int.toNat_natCast]
  .rw[if_neg (by simp)];exact ih j _ d
  .rw[e,g]
   grind
  grind
 rw[if_neg (by simp)];intro q;refine dJ x.Objs (λm i=>(i,m)) (λr m=>∀m',(∀v,v∈m'.map (·.1) ↔ v∈m.map (·.1)\/∃o∈r,∃a∈o.Vals,a.Kind=1/\a.S=v)->m'.length<=m.length+(r.map λo=>o.Vals.length).sum->lG (some m')/\∀y,jv (some m') y->KK y) (λR m i x' r hi hx _ ih h=>?_) (λR m d=>?_) m (λm' hm hn=>d m' (λv=>by grind) kQ1)
 .rw[if_pos (aW hi)];refine⟨ob hi,λhl=>?_⟩;dsimp +instances only [Int.toNat_natCast]
  rw[hx];refine zy x'.Vals id m (λm'=>∀c,(∀v,v∈c.map (·.1) ↔ v∈m'.map (·.1)\/∃o∈r,∃a∈o.Vals,a.Kind=1/\a.S=v)->c.length<=m'.length+(r.map λo=>o.Vals.length).sum->lG (some c)/\∀y,jv (some c) y->KK y) (λR i m hi hl k1 k2=>?_) (λR m d=>?_) (by rw[<- hx];exact hl) (λu g l s e p=>h s (λv=>?_) ?_)
  .rw[if_pos (aW hi)];intro J t
   grind [Int.toNat_natCast]
  .rw[if_neg (by simp)];exact ih q _ d
  .rw[e,g]
   grind
  grind
 grind
theorem JH(s:Lt.Vs)(b:Lt.Block)(hp:Zh s b)(KK:Bool->Prop)(h:KK (oA s b)):CB s b KK:=by
 unfold CB;have o:¬ mU (λv=>bE s v=true) b->KK false:=λH=>by grind [oA,tg]
 have kT:mU (λv=>bE s v=true) b->KK true:=λH=>by grind [oA,qi]
 dsimp only;obtain⟨hp,z⟩:=hp;refine⟨hp,λhl=>?_⟩;have es:some (s.getD [])=s:=by cases s<;>grind
 have k:∀i,i<b.Code.length->iT (b.Code.getD i default):=λi hi=>z _ (az _ hi)
 let D:Nat->List (List UInt8):=λi=>((b.Code.take i).map (·.Dst)).filter λd=>!decide (d=[])
 have K:∀i v,i<b.Code.length->(v∈D (i+1) ↔ v∈D i\/(v=(b.Code.getD i default).Dst/\v≠[])):=λi v hi=>by grind [aZ]
 have E:∀v,v ∉ D 0:=λv hv=>by grind
 have G:D b.Code.length=dp b:=by
  show List.filter _ _=_
  rw[List.take_length];rfl
 refine ao _ b.Code.length (λi v=>v.1=(i:Int)/\(∀w,bE (some v.2) w=true ↔ bE s w=true\/w∈D i)/\∀j,j<i->∀w,pV (b.Code.getD j default) w->bE s w=true\/w∈D j) (λR i v hi⟨e,h1,h2⟩ih=>?_) (λR v⟨e,h1,h2⟩=>?_) _ ⟨rfl,λw=>by grind,λj hj=>by omega⟩
 .obtain⟨M,m⟩:=v;dsimp only at e h1 h2|-;subst e;rw[if_pos (aW hi)];intro C l;dsimp +instances only [Int.toNat_natCast]at l|-
  have hd:=K i
  have g:=k i hi
  have o:(¬ ∀w,pV (b.Code.getD i default) w->bE s w=true\/w∈D i)->KK false:=λhn=>o λhb=>hn (hb.1 i hi)
  have on:(∀w,pV (b.Code.getD i default) w->bE s w=true\/w∈D i)->∀m',(∀w,bE (some m') w=true ↔ bE s w=true\/w∈D (i+1))->C m':=λn m' t=>l _ (ih _ ⟨ae kQ1,t,λj hj w hw=>by grind⟩)
  generalize b.Code.getD i default=x at hd o on g|-;refine⟨ob hi,λF a=>⟨g,λy hy I=>?_⟩⟩;have r:(¬ ∀w,pV x w->bE s w=true\/w∈D i)->F true:=λhn=>a _ (by grind)
  refine ao _ y.length (λj v=>v=(j:Int)/\∀q,q<j->bE (some m) (y.getD q default)=true) (λB j v hj⟨e,hq⟩u=>?_) (λB v⟨e,hq⟩=>?_) _ ⟨rfl,λq hq=>by omega⟩
  .subst e;rw[if_pos (aW hj)];refine⟨ob hj,?_⟩;refine ifk (λhc=>r λn=>?_) (λhc=>u _ ⟨ae kQ1,λq J=>?_⟩)
   .have:=(h1 _).2 (n _ ((hy _).1 (az _ hj)))
    have hc:(!bE (some m) (y.getD j default))=true:=hc
    grind
   rcases alY q j with h'|h'
   .grind
   obtain rfl:q=j:=by omega
   have hc:¬ (!bE (some m) (y.getD q default))=true:=hc
   grind
  subst e;rw[if_neg (by simp)];have n:∀w,pV x w->bE s w=true\/w∈D i:=λw hw=>by
   obtain⟨q,L,e⟩:=alA.1 ((hy w).2 hw)
   grind
  refine a _ ?_;show if false then KK false else _
  rw[if_neg (by simp)];refine ifk (λhc=>on n _ λw=>?_) (λhc=>on n _ λw=>?_)
  .grind [Jt]
  grind
 obtain⟨M,m⟩:=v;subst e;rw[if_neg (by simp)];intro p f;have fin:∀c:Bool,(c=true ↔ ((b.End.Kind=2\/b.End.Kind=3)->b.End.A.Kind=1->bE s b.End.A.S=true\/b.End.A.S∈dp b))->p c:=λc hc=>by
  refine f _ ?_;cases c with
  |true=>exact kT ⟨h2,hc.1 rfl⟩
  |false=>exact o λhb=>by have:=hc.2 hb.2;grind
 have hm:∀w,(aU (β:=Bool) .s m w).getD (dflt .bo)=bE (some m) w:=λw=>rfl
 grind
theorem JI(f:Lt.Func)(s a:List UInt8)(KK:Bool->Prop)(h:KK (yp f s a)):Rs f s a KK:=by
 intro hl;refine b9 f.Blocks (λl=>KK (tw a s l)) (λR i x r hi hx _ ih h=>?_) (λR h=>?_) h
 .grind [tw]
 rw[if_neg (by simp)];exact h
theorem Na(f:Lt.Func)(o:Option (List (List UInt8×Lt.Vs)))(KK:Bool->Prop)(h:KK (EJ f o)):VH f o KK:=by
 intro _;refine b9 f.Blocks (λl=>KK (l.all λb=>b.Phis.all λx=>x.Ins.all (qu f o b))) (λR i b r hi hx _ ih h=>?_) (λR h=>?_) h
 .rw[if_pos (aW hi)];refine⟨ob hi,?_⟩;dsimp +instances only [Int.toNat_natCast]
  rw[hx];intro _;refine b9 b.Phis (λl=>KK ((l.all λx=>x.Ins.all (qu f o b))&&r.all λb=>b.Phis.all λx=>x.Ins.all (qu f o b))) (λk s x r3 a j _ p h=>?_) (λk h=>?_) h
  .rw[if_pos (aW a)];refine⟨ob a,?_⟩;dsimp +instances only [Int.toNat_natCast]
   rw[j];intro _;refine b9 x.Ins (λl=>KK ((l.all (qu f o b)&&r3.all λx=>x.Ins.all (qu f o b))&&r.all λb=>b.Phis.all λx=>x.Ins.all (qu f o b))) (λn t y r5 d g _ m h=>?_) (λn h=>?_) h
   .rw[if_pos (aW d)];refine⟨ob d,?_⟩;dsimp +instances only [Int.toNat_natCast]
    rw[g];intro J q;have fin:∀c:Bool,c=!qu f o b y->J c:=λc e=>by grind
    unfold qu at fin;refine ifk (λh1=>?_) (λh1=>fin _ (by grind));rw[h1]at fin;refine ifk (λh2=>?_) (λh2=>fin _ (by grind));rw[h2]at fin;refine ifk (λh3=>fin _ (by grind)) (λh3=>fin _ ?_);rw[show(!decide (y.A.Kind=1))=false from by grind];rfl
   grind
  grind
 grind
theorem Dw(a s:List UInt8):∀(l:List Lt.Block)(k:Nat),k<l.length->(l.getD k default).Name=s->(∀j,j<k->(l.getD j default).Name≠s)->tw a s l=wE (l.getD k default).End.To a
 |[],k,h,_,_=>absurd h (Nat.not_lt_zero _)
 |b::r,0,_,hn,_=>by grind [tw]
 |b::r,k+1,h,hn,hj=>by
  have h0:¬ b.Name=s:=hj 0 (Nat.succ_pos _)
  unfold tw;rw[if_neg h0];exact Dw a s r k (Nat.lt_of_succ_lt_succ h) hn λj h'=>hj (j+1) (Nat.succ_lt_succ h')
theorem DD{β:Type}(v:β):∀(m:List (List UInt8×β))(k0 k:List UInt8),aU .s (dz .s m k0 v) k=if k0=k then some v else aU .s m k
 |[],k0,k=>by grind [dz,aU,uV]
 |x::l,k0,k=>by
  have ih:=DD v l k0 k
  grind [dz,aU,uV]
def aiM(f:Lt.Func)(i:Nat)(m:List (List UInt8×Lt.Vs)):Prop:=∀s,(∀k,k<i->nmB f.Blocks k=s->∃V,aU .s m s=some V/\∀w,bE V w=true ↔ zt f k w)/\((∀k,k<i->nmB f.Blocks k≠s)->aU .s m s=none)
theorem Ze{f:Lt.Func}{m:List (List UInt8×Lt.Vs)}(d:Gd f.Blocks)(h:aiM f f.Blocks.length m):EJ f (some m)=true ↔ sS f:=by
 have key:∀(b:Lt.Block)(i:Lt.In),qu f (some m) b i=true ↔ ∀k,k<f.Blocks.length->nmB f.Blocks k=i.Block->b.Name∈toB f.Blocks k->i.A.Kind=1->zt f k i.A.S:=by
  intro b i;unfold qu;rw[amG];by_cases a:∃k,k<f.Blocks.length/\nmB f.Blocks k=i.Block
  .obtain⟨k,hk,hn⟩:=a;obtain⟨V,c,hw⟩:=(h i.Block).1 k hk hn
   grind [yp,Dw,Gd.nd,Tl]
  have hn:∀k,k<f.Blocks.length->nmB f.Blocks k≠i.Block:=λk hk e=>a ⟨k,hk,e⟩
  rw[(h i.Block).2 hn]
  grind
 simp_all[EJ,sS]
theorem JJ(f:Lt.Func)(hp:Ow f)(KK:Bool->Prop)(h:KK (gO f)):CC f KK:=by
 unfold CC;obtain⟨hp,j⟩:=hp;have n:Gd f.Blocks:=hp.2.1
 have o:(¬ ((∀k,k<f.Blocks.length->mU (λv=>¬ Bare f v k\/v∈phB f k) (bkB f k))/\sS f))->KK false:=λn=>by grind [gO,tg]
 have kT:((∀k,k<f.Blocks.length->mU (λv=>¬ Bare f v k\/v∈phB f k) (bkB f k))/\sS f)->KK true:=λn=>by grind [gO,qi]
 dsimp only;refine⟨hp,λy hy p=>?_⟩;obtain⟨⟨r,hy⟩,_⟩:=hy;have c:∀k,k<f.Blocks.length->(oA (y.getD k default) (bkB f k)=true ↔ mU (λv=>¬ Bare f v k\/v∈phB f k) (bkB f k)):=λk hk=>by grind [oA,rz]
 refine ao _ y.length (λi v=>v.1=(i:Int)/\(∀k,k<i->mU (λv=>¬ Bare f v k\/v∈phB f k) (bkB f k))/\aiM f i v.2) (λR i v hi⟨e,h1,g⟩ih=>?_) (λR v⟨e,h1,g⟩=>?_) _ ⟨rfl,λk hk=>by omega,λs=>⟨λk hk=>absurd hk (Nat.not_lt_zero _),λ_=>rfl⟩⟩
 .obtain⟨t,m⟩:=v;dsimp only at e h1 g|-;subst e;rw[if_pos (aW hi)];have hk:i<f.Blocks.length:=by omega
  have c:=c i hk
  have b:=(hy i hk).1
  intro q d;dsimp +instances only [Int.toNat_natCast]at d|-
  refine⟨ob hi,ob hk,⟨b,j _ (az _ hk)⟩,?_⟩;refine ifk (λhc=>o λl=>?_) (λhc=>?_)
  .simp_all
  have hc:¬ (!oA (y.getD i default) (bkB f i))=true:=hc
  have on:q (dz .s m (nmB f.Blocks i) (jg (y.getD i default) (bkB f i))):=d _ (ih _ ⟨ae kQ1,λk a=>by
   grind,λs=>by
   rw[DD];refine⟨λk a hn=>?_,λhno=>?_⟩
   .rcases alY k i with h'|h'
    .rw[if_neg (λe=>by grind [Gd.nd])];exact(g s).1 k h' hn
    grind [jg,yG,zt]
   rw[if_neg (hno i (Nat.lt_succ_self _))];exact(g s).2 λk a=>hno k (Nat.lt_succ_of_lt a)⟩)
  exact⟨ob hk,⟨ob hk,b,on⟩,b,ob hk,on⟩
 grind [Ze]
end Go.Am
end

section
namespace Go.Am
open Go
theorem Nb(f:Lt.Func)(hp:vp f)(KK:Int->Prop)(h:KK (vw f)):GA f KK:=by
 unfold GA;intro hl;refine dJ f.Blocks (λn i=>(n,i)) (λr n=>KK (Lt.rsz r n)) (λR n i x r hi hx _ ih h=>?_) (λR n h=>?_) 0 h
 .dsimp only;simp only[aW hi,Int.toNat_natCast,hx,hi,akQ,and_self,true_and,if_true];exact λ_=>ih hl _ h
 dsimp only;rw[if_neg (by simp)];exact h
theorem JL(p:Lt.Program)(KK:Bool->Prop)(h:KK (jz p)):CF p KK:=by
 unfold CF;intro hl;refine b9 p.Funcs (λr=>KK (r.all mK&&!p.SSA)) (λR i f r hi hx _ ih h=>?_) (λR h=>?_) h
 .try dsimp only
  simp only[aW hi,Int.toNat_natCast,hx,hi,akQ,and_self,true_and,if_true];rw[akW,Bool.and_assoc]at h;intro m;refine b9 f.Blocks (λr2=>KK (r2.all tK&&(r.all mK&&!p.SSA))) (λn u b r2 c e _ q h=>?_) (λn h=>?_) h
  .try dsimp only
   simp only[aW c,Int.toNat_natCast,e,c,akQ,and_self,true_and,if_true];rw[akW,Bool.and_assoc]at h;unfold tK at h;intro t;refine ifk (λhc=>?_) (λhc g=>?_)
   .grind [decide_eq_false]
   have s:¬ (0:Int) < (b.Phis.length:Int):=λh0=>hc (decide_eq_true h0)
   rw[show decide (b.Phis.length=0)=true from decide_eq_true kQ1,alH]at h;refine b9 b.Code (λr3=>KK (r3.all A8&&(r2.all tK&&(r.all mK&&!p.SSA)))) (λl v x r3 a d _ k h=>?_) (λl h=>?_) h
   .try dsimp only
    simp only[aW a,Int.toNat_natCast,d,a,akQ,and_self,true_and,if_true];rw[akW,Bool.and_assoc]at h;unfold A8 at h;intro J o _;have j:=o (!(decide (x.Frames.length=0)&&decide (x.Objs.length=0))) (by
     dsimp only;refine ifk (λhc=>?_) (λhc=>k g ?_)
     .grind
     rw[show(decide (x.Frames.length=0)&&decide (x.Objs.length=0))=true from by grind,alH]at h;exact h)
    grind [decide]
   grind
  grind
 grind
theorem E9(p:Lt.Program)(hp:DZ p)(KK:Bool->Prop)(h:KK (iK p)):yY p KK:=by
 unfold yY;intro hl;refine kK p.Funcs sb true KK (λR i f hi hx _ ih hf=>?_) (λR h=>?_) (by rw[amO];exact h)
 .simp only[aW hi,Int.toNat_natCast,hx,hi,akQ,and_self,true_and,if_true];intro J a _
  grind [sb,vp]
 grind
theorem JM(p:Lt.Program)(f:Lt.Func)(hp:lI p f)(KK:Bool->Prop)(h:KK (kn p f)):CG p f KK:=by
 unfold CG;intro hl;refine b9 f.Blocks (λr=>KK (r.all (tX p f))) (λR i b r hi hx hm ih h=>?_) (λR h=>?_) h
 .simp only[aW hi,Int.toNat_natCast,hx,hi,akQ,and_self,true_and,if_true];intro c;rw[akW]at h;unfold tX at h;rw[Bool.and_assoc]at h;refine b9 b.Code (λr2=>KK ((r2.all λi=>lP p f i)&&(vz f b.End&&r.all (tX p f)))) (λj k x r2 a d e g h=>?_) (λj h=>?_) h
  .simp only[aW a,Int.toNat_natCast,d,a,akQ,and_self,true_and,if_true];rw[akW,Bool.and_assoc]at h;refine⟨hp b hm x e,ifk (λhc=>?_) (λhc=>g c ?_)⟩
   all_goals grind
  grind [vz]
 grind
theorem E8(p:Lt.Program)(hp:bZ p)(KK:Int->Prop)(h:KK (bq p)):yX p KK:=by
 unfold yX;unfold bq at h;obtain⟨g,hf⟩:=hp;dsimp only;intro _;refine⟨⟨by simp,by simp only[ak3,ak8];omega⟩,?_⟩;refine ifk (λhc=>?_) (λhc=>by rw[if_pos (.inl (by simpa using hc))]at h;exact h);refine ifk (λb=>by rw[if_pos (.inr (by simpa using b))]at h;exact h) (λb=>?_);have b:jz p=true:=by simpa using b
 rw[if_neg (by rw[hc,b];simp)]at h;refine⟨⟨by simp,by simp only[ak3,ak8];omega⟩,trivial,?_⟩;refine ifk (λd=>by rw[if_pos (by simpa using d)]at h;exact h) (λd=>?_);rw[if_neg (by simpa using d)]at h;refine⟨⟨by simp,by simp only[ak3,ak8];omega⟩,g,?_⟩;refine ifk (λf=>by rw[if_pos (by simpa using f)]at h;exact h) (λf=>?_);rw[if_neg (by simpa using f)]at h;intro _;refine b9 p.Funcs (λl=>KK (tU p l)) (λR i x r hi hx hm ih h=>?_) (λR h=>?_) h
 .rw[if_pos (aW hi)];refine⟨ob hi,λ_=>?_⟩;dsimp +instances only [Int.toNat_natCast]
  rw[hx];obtain⟨h1,h2,h3,h4,h5⟩:=hf x hm;unfold tU at h;refine⟨⟨by simp,by simp only[ak3,ak8];omega⟩,h2,?_⟩;refine ifk (λa=>by rw[if_pos (by simpa using a)]at h;exact h) (λa=>?_);have a:dR x=true:=by simpa using a
  rw[if_neg (by rw[a];simp)]at h;refine⟨⟨by simp,by simp only[ak3,ak8];omega⟩,h1,?_⟩;refine ifk (λe=>by rw[if_pos (by simpa using e)]at h;exact h) (λe=>?_);rw[if_neg (by simpa using e)]at h;refine⟨⟨by simp,by simp only[ak3,ak8];omega⟩,⟨⟨h2,?_,h3,h4⟩,h5⟩,?_⟩
  .unfold dR at a;exact rz.1 a
  refine ifk (λc=>by rw[if_pos (by simpa using c)]at h;exact h) (λc=>?_);rw[if_neg (by simpa using c)]at h;exact ih (by assumption) h
 rw[if_neg (by simp)];exact h
theorem Rb(p:Lt.Program):∀l:List Lt.Func,tU p l=0 ↔ ∀f∈l,dR f=true/\kn p f=true/\gO f=true
 |[]=>by simp[tU]
 |f::r=>by
  have ih:=Rb p r
  unfold tU;simp only[akU,forall_eq_or_imp];rw[<- ih];by_cases h1:dR f=false
  .rw[if_pos h1];simp[h1]
  rw[if_neg h1];by_cases h2:kn p f=false
  .rw[if_pos h2];simp[h2]
  rw[if_neg h2];by_cases h3:gO f=false
  .rw[if_pos h3];simp[h3]
  rw[if_neg h3];simp only[akV]at h1 h2 h3;simp[h1,h2,h3]
theorem agW(p:Lt.Program):bq p=0 ↔ aY p=true/\jz p=true/\iK p=true/\gm p=true/\tU p p.Funcs=0:=by
 unfold bq;cases h1:aY p with
 |false=>simp
 |true=>
  cases h2:jz p with
  |false=>simp
  |true=>
   cases h3:iK p with
   |false=>simp
   |true=>
    cases h4:gm p with
    |false=>simp
    |true=>simp
end Go.Am
end
