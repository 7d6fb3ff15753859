/-
  Part 11: AmLay · AmNiceM · AmNice14 · AmNice14b · AmNice14c · AmNice14d · AmG23 · AmG22 · AmG18c · AmG16 · AmG15 · AmG14 · AmLoopE · AmL20 · AmL21 · AmL22 · AmL23 · AmG17 · AmL24 · AmL25 · AmL26 · AmL27 · AmL20b.
-/
import Derived.Test.YthhkhcolidkemaaGreatDoorCs10
import Derived.Shelf.Small.Strs
import Derived.Shelf.Small.Wraps
import Derived.Shelf.Strings.Cut
import Derived.Shelf.Strings.Split
import Derived.Test.YthhkhcolidkemaaGreatDoorProg
set_option linter.unusedSimpArgs false
set_option linter.unusedVariables false
set_option linter.unusedSectionVars false
set_option linter.unnecessarySimpa false
open Lt
open Go.Proofs.Tryz
open Go.IntKind (i64)
section
namespace Go.Proofs
open Go.Shelf
def Tryz.lays137_ren:Go.Shelf.Ren:=⟨fun|137=>265|217=>228|266=>243|n=>n,fun|9=>9|5=>5|3=>3|n=>n,fun|n=>n⟩
theorem Tryz.lays137:Go.Proofs.Lays.n137 prog Tryz.lays137_ren:={
 mixed:=by rfl
 f137:=func265.trans (congrArg some (by rfl))
 f217:=func228.trans (congrArg some (by rfl))
 f266:=func243.trans (congrArg some (by rfl))
 t3:=underlying3
 a3:=isAgg3
 z3:=sizeOf3
 v3:=zeroValue3
 t5:=underlying5
 a5:=isAgg5
 z5:=sizeOf5
 v5:=zeroValue5
 t9:=underlying9
 a9:=isAgg9
 z9:=sizeOf9
 v9:=zeroValue9 }
open Go.RowKit in
theorem Tryz.strings_IndexByte(s:ByteArray)(c:Int)(w:World) :
  Calls prog 265 #[.string s,.int .u8 c] w fun e w'=>e=.returned (.int .i64 (Lib.indexByte s.data.toList c.toNat.toUInt8))/\w'=w:=Any.strings_IndexByte Tryz.lays137 s c w
def Tryz.lays103_ren:Go.Shelf.Ren:=⟨fun|103=>264|210=>272|206=>274|n=>n,fun|9=>9|4=>4|24=>161|3=>3|n=>n,fun|n=>n⟩
theorem Tryz.lays103:Go.Proofs.Lays.n103 prog Tryz.lays103_ren:={
 mixed:=by rfl
 f103:=func264.trans (congrArg some (by rfl))
 f206:=func274.trans (congrArg some (by rfl))
 f210:=func272.trans (congrArg some (by rfl))
 t3:=underlying3
 a3:=isAgg3
 z3:=sizeOf3
 v3:=zeroValue3
 t4:=underlying4
 a4:=isAgg4
 z4:=sizeOf4
 v4:=zeroValue4
 t9:=underlying9
 a9:=isAgg9
 z9:=sizeOf9
 v9:=zeroValue9
 t24:=underlying161
 a24:=isAgg161
 z24:=sizeOf161
 v24:=zeroValue161 }
open Go.RowKit in
theorem Tryz.strings_CutPrefix(s p:ByteArray)(w:World) :
  Calls prog 264 #[.string s,.string p] w fun e w'=>e=.returned (.tuple #[.string ⟨(Lib.trimPrefix s.data.toList p.data.toList).toArray⟩,.bool (Lib.hasPrefix s.data.toList p.data.toList)])/\w'=w:=Any.strings_CutPrefix Tryz.lays103 s p w
def Tryz.lays145_ren:Go.Shelf.Ren:=⟨fun|145=>76|220=>130|219=>189|217=>228|225=>229|224=>230|267=>231|266=>243|314=>244|n=>n,fun|9=>9|4=>4|59=>128|3=>3|5=>5|46=>280|146=>286|51=>285|n=>n,fun|1=>1|n=>n⟩
theorem Tryz.lays145:Go.Proofs.Lays.n145 prog Tryz.lays145_ren:={
 mixed:=by rfl
 f145:=func76.trans (congrArg some (by rfl))
 f217:=func228.trans (congrArg some (by rfl))
 f219:=func189.trans (congrArg some (by rfl))
 f220:=func130.trans (congrArg some (by rfl))
 f224:=func230.trans (congrArg some (by rfl))
 f225:=func229.trans (congrArg some (by rfl))
 f266:=func243.trans (congrArg some (by rfl))
 f267:=func231.trans (congrArg some (by rfl))
 f314:=func244.trans (congrArg some (by rfl))
 t3:=underlying3
 a3:=isAgg3
 z3:=sizeOf3
 v3:=zeroValue3
 t4:=underlying4
 a4:=isAgg4
 z4:=sizeOf4
 v4:=zeroValue4
 t5:=underlying5
 a5:=isAgg5
 z5:=sizeOf5
 v5:=zeroValue5
 t9:=underlying9
 a9:=isAgg9
 z9:=sizeOf9
 v9:=zeroValue9
 t46:=underlying280
 a46:=isAgg280
 z46:=sizeOf280
 v46:=zeroValue280
 t51:=underlying285
 a51:=isAgg285
 z51:=sizeOf285
 v51:=zeroValue285
 t59:=underlying128
 a59:=isAgg128
 z59:=sizeOf128
 v59:=zeroValue128
 t146:=underlying286
 a146:=isAgg286
 z146:=sizeOf286
 v146:=zeroValue286
 g1:=by kernel_rfl }
open Go.RowKit Go.Lib in
theorem Tryz.strings_Cut(s sep:ByteArray)(m:Int)(w:World)(hs:s.size < 4294967281)(hm:w.cell? ⟨1,0,none⟩=some (.int .i64 m)) :
  Calls prog 76 #[.string s,.string sep] w fun e w'=>e=.returned (.tuple #[.string ⟨(Lib.cut s.data.toList sep.data.toList).1.toArray⟩,.string ⟨(Lib.cut s.data.toList sep.data.toList).2.1.toArray⟩,.bool (Lib.cut s.data.toList sep.data.toList).2.2])/\∃n,w'=w.drewN n:=Any.strings_Cut Tryz.lays145 s sep m w hs hm
def Tryz.lays146_ren:Go.Shelf.Ren:=⟨fun|146=>75|221=>129|268=>186|138=>187|143=>188|195=>225|197=>226|218=>227|219=>189|260=>242|217=>228|225=>229|224=>230|267=>231|266=>243|314=>244|n=>n,fun|9=>9|31=>45|3=>3|4=>4|0=>0|105=>276|21=>21|5=>5|46=>280|119=>294|139=>297|138=>296|146=>286|51=>285|n=>n,fun|1=>1|3=>2|4=>3|n=>n⟩
theorem Tryz.lays146:Go.Proofs.Lays.n146 prog Tryz.lays146_ren:={
 mixed:=by rfl
 f138:=func187.trans (congrArg some (by rfl))
 f143:=func188.trans (congrArg some (by rfl))
 f146:=func75.trans (congrArg some (by rfl))
 f195:=func225.trans (congrArg some (by rfl))
 f197:=func226.trans (congrArg some (by rfl))
 f217:=func228.trans (congrArg some (by rfl))
 f218:=func227.trans (congrArg some (by rfl))
 f219:=func189.trans (congrArg some (by rfl))
 f221:=func129.trans (congrArg some (by rfl))
 f224:=func230.trans (congrArg some (by rfl))
 f225:=func229.trans (congrArg some (by rfl))
 f260:=func242.trans (congrArg some (by rfl))
 f266:=func243.trans (congrArg some (by rfl))
 f267:=func231.trans (congrArg some (by rfl))
 f268:=func186.trans (congrArg some (by rfl))
 f314:=func244.trans (congrArg some (by rfl))
 t0:=underlying0
 a0:=isAgg0
 z0:=sizeOf0
 v0:=zeroValue0
 t3:=underlying3
 a3:=isAgg3
 z3:=sizeOf3
 v3:=zeroValue3
 t4:=underlying4
 a4:=isAgg4
 z4:=sizeOf4
 v4:=zeroValue4
 t5:=underlying5
 a5:=isAgg5
 z5:=sizeOf5
 v5:=zeroValue5
 t9:=underlying9
 a9:=isAgg9
 z9:=sizeOf9
 v9:=zeroValue9
 t21:=underlying21
 a21:=isAgg21
 z21:=sizeOf21
 v21:=zeroValue21
 t31:=underlying45
 a31:=isAgg45
 z31:=sizeOf45
 v31:=zeroValue45
 t46:=underlying280
 a46:=isAgg280
 z46:=sizeOf280
 v46:=zeroValue280
 t51:=underlying285
 a51:=isAgg285
 z51:=sizeOf285
 v51:=zeroValue285
 t105:=underlying276
 a105:=isAgg276
 z105:=sizeOf276
 v105:=zeroValue276
 t119:=underlying294
 a119:=isAgg294
 z119:=sizeOf294
 t138:=underlying296
 a138:=isAgg296
 z138:=sizeOf296
 v138:=zeroValue296
 t139:=underlying297
 a139:=isAgg297
 z139:=sizeOf297
 v139:=zeroValue297
 t146:=underlying286
 a146:=isAgg286
 z146:=sizeOf286
 v146:=zeroValue286
 g1:=by kernel_rfl
 g3:=by kernel_rfl
 g4:=by kernel_rfl }
open Go.RowKit Go.Lib in
theorem Tryz.strings_Split(s sep:ByteArray)(m:Int)(w:World)(hs:s.size < 4294967281)(hm:w.cell? ⟨1,0,none⟩=some (.int .i64 m))(h1:1<=sep.size) :
  Calls prog 75 #[.string s,.string sep] w fun e w'=>
   e=.returned (.slice (some ⟨w.heap.size,0,none⟩) (Lib.countB s sep+1) (Lib.countB s sep+1))/\w'=w.alloc (.cells ((Lib.splitB sep 0 (Lib.countB s sep) s).map Value.string).toArray 9):=Any.strings_Split Tryz.lays146 kQ0 s sep m w hs hm h1
end Go.Proofs
end

section
namespace Lt
open Go
def jw:Bool->List a8->a8
 |_,[]=>[]
 |b,w::r=>(if b then [32]else [])++w++jw true r
def ut(c:Int):Bool:=(((decide (97<=c))&&(decide (c<=122)))||((decide (65<=c))&&(decide (c<=90))))||(decide (c=95))
def letter(c:UInt8):Bool:=ut ((c.toNat:Nat):Int)
def kq(c:UInt8):Bool:=(decide (48<=((c.toNat:Nat):Int)))&&(decide (((c.toNat:Nat):Int)<=57))
def kept(s:a8):Bool:=((decide (s=[110,117,108,108]))||(decide (s=[105,110,116])))||(decide (s=[102,108,111,97,116]))
def ik(c:UInt8):Bool:=letter c||kq c
def Name(s:a8):Bool:=(!decide (s=[])&&decide (s.length<=16)&&letter (s.getD 0 0)&&!kept s)&&s.all ik
def kind(s:a8):Bool:=((decide (s=[105,110,116]))||(decide (s=[102,108,111,97,116])))||Name s
def typed(l:List Var)(most:Int):Bool:=decide ((l.length:Int)<=most)&&l.all fun v=>Name v.Name&&kind v.Type_
def Plain(n:Int):Int:=
 if (decide ((i64.wrap ((BitVec.ofInt i64.bits n &&& BitVec.ofInt i64.bits 9218868437227405312).toNat:Nat))=9218868437227405312))&&(!decide ((i64.wrap ((BitVec.ofInt i64.bits n &&& BitVec.ofInt i64.bits 4503599627370495).toNat:Nat))=0))then 9221120237041090560 else n
def bD(a:Arg):Bool:=
 if a.Kind=1 then Name a.S&&decide (a.N=0)
 else if a.Kind=2 then decide (a.S=[])
 else if a.Kind=3 then decide (a.S=[])&&decide (Plain a.N=a.N)
 else if a.Kind=4 then decide (a.S=[])&&decide (a.N=0)
 else if a.Kind=5 then(decide (a.S=[])&&decide (0<=a.N))&&decide (a.N<=999)
 else false
def bd(objs:Bool)(a:Arg):Bool:=bD a&&!(decide (a.Kind=5)&&!objs)
def bG(l:List Arg)(objs:Bool):Bool:=l.all (bd objs)
def iJ(b:Bind):Bool:=Name b.Name&&bd true b.A
def frame(f:Frame):Bool:=(Name f.Func&&Name f.Block&&decide (0<=f.At)&&decide (f.At<=1024)&&decide (f.Vars.length<=16))&&f.Vars.all iJ
def virt(o:Virt):Bool:=Name o.Class&&decide (o.Vals.length<=8)&&bG o.Vals true
def Tm(l:a8):Nat->Int->Nat->Nat->a8
 |0,_,_,_=>[]
 |k+1,n,f,i=>
  if i<l.length then
   if(((l.getD i 0).toNat:Nat):Int)=32 then
    if i64.wrap (n - 1)=0 then(l.drop (f+1)).take (i - (f+1))else Tm l k (i64.wrap (n - 1)) i (i+1)
   else Tm l k n f (i+1)
  else []
def nth(l:a8)(n:Int):a8:=Tm l (l.length+1) n 0 1
def two:a8:=32::97::100::100::32::115::117::98::32::109::117::108::32::100::105::118::32::114::101::109::32::97::110::100::32::111::114::32::120::111::114::32::115::104::108::32::115::104::114::32::101::113::32::110::101::32::108::116::32::108::101::32::102::97::100::100::32::102::115::117::98::32::102::109::117::108::32::102::100::105::118::32::102::101::113::32::102::108::116::32::102::108::101::32::[]
def Of(op:Int):Form×Bool:=
 if 1<=op/\op<=21 then(⟨nth two op,true,false,2,2⟩,true)
 else if 22<=op/\op<=24 then(⟨nth [32,105,116,111,102,32,102,116,111,105,32,109,111,118,32] (i64.wrap (op - 21)),true,false,1,1⟩,true)
 else if op=25 then(⟨[110,101,119],true,true,0,8⟩,true)
 else if op=26 then(⟨[108,111,97,100],true,true,1,1⟩,true)
 else if op=27 then(⟨[115,116,111,114,101],false,true,2,2⟩,true)
 else if op=28 then(⟨[115,97,109,101],true,false,2,2⟩,true)
 else if op=29 then(⟨[103,108,111,97,100],true,true,0,0⟩,true)
 else if op=30 then(⟨[103,115,116,111,114,101],false,true,1,1⟩,true)
 else if op=31 then(⟨[99,97,108,108],true,true,0,8⟩,true)
 else if op=32 then(⟨[101,120,116],true,true,0,8⟩,true)
 else if op=33 then(⟨[111,117,116],false,false,1,1⟩,true)
 else if op=34 then(⟨[103,117,97,114,100],false,false,0,0⟩,true)
 else(⟨[],false,false,0,0⟩,false)
def instr(i:Instr):Bool:=
 ((Of i.Op).2&&((Of i.Op).1.Dst==!decide (i.Dst=[]))&&((Of i.Op).1.Named==!decide (i.Name=[]))&&!((Of i.Op).1.Dst&&!Name i.Dst)&&!((Of i.Op).1.Named&&!Name i.Name))
 && (decide ((Of i.Op).1.Least<=(i.Args.length:Int))&&decide ((i.Args.length:Int)<=(Of i.Op).1.Most)&&bG i.Args false&&decide (i.Frames.length<=16)&&decide (i.Objs.length<=99))
 && (if i.Op≠31/\i.Op≠34 then decide (i.Frames=[])&&decide (i.Objs=[])else i.Frames.all frame&&i.Objs.all virt)
def ox(i:In):Bool:=Name i.Block&&bd false i.A
def phi(x:Phi):Bool:=(Name x.Dst&&!decide (x.Ins=[])&&decide (x.Ins.length<=256))&&x.Ins.all ox
def Dw(a:Arg):Bool:=decide (a=⟨0,[],0⟩)
def eY(t:Term):Bool:=t.To.all Name &&
 (if t.Kind=1 then Dw t.A&&decide (t.To.length=1)&&decide (t.N=0)
  else if t.Kind=2 then bd false t.A&&decide (t.To.length=2)&&decide (t.N=0)
  else if t.Kind=3 then bd false t.A&&decide (t.To.length=0)&&decide (t.N=0)
  else if t.Kind=4 then Dw t.A&&decide (t.To.length=0)
  else false)
def block(b:Block):Bool:=(Name b.Name&&eY b.End)&&(b.Phis.all phi&&b.Code.all instr)
def blocks:List Block->Nat->Bool
 |[],_=>true
 |b::r,long=>(decide (long+(b.Phis.length+b.Code.length)<=1024)&&block b)&&blocks r (long+(b.Phis.length+b.Code.length))
def aG(f:Func):Bool:=(Name f.Name&&kind f.Result&&typed f.Params 6&&typed f.Vars 1024&&!decide (f.Blocks=[])&&decide (f.Blocks.length<=256))&&blocks f.Blocks 0
def cO(c:Class):Bool:=Name c.Name&&typed c.Fields 8
def cK(x:Extern):Bool:=Name x.Name&&decide (0<=x.N)&&decide (x.N<=8)
def aX(p:Program):Bool:=
 (decide (p.Classes.length<=8)&&decide (p.Externs.length<=8)&&decide (p.Funcs.length<=8)&&typed p.Globals 8) &&
 (p.Classes.all cO&&(p.Externs.all cK&&p.Funcs.all aG))
def digs(n:Nat):a8:=if n < 10 then [UInt8.ofNat (48+n)]else digs (n / 10)++[UInt8.ofNat (48+n % 10)]
def bf(n:Int):a8:=(if n < 0 then [45]else [])++digs n.natAbs
abbrev plus(n:Int)(k:Nat):Int:=i64.wrap (n+(k:Int))
def upto(most n k:Int):Int:=if n<=most then i64.wrap (n+k)else n
def zt(most:Int):List Var->Int->Int
 |[],n=>n
 |v::r,n=>if n<=most then(let m:=plus n v.Name.length;zt most r (if m<=most then plus m v.Type_.length else m))else n
def cX(l:List Var)(most:Int):Int:=if most < (l.length:Int)then i64.wrap (most+1)else zt most l (l.length:Int)
def zq(most:Int):List Arg->Int->Int
 |[],n=>n
 |a::r,n=>if n<=most then zq most r (plus n a.S.length)else n
def fE(l:List Arg)(most:Int):Int:=if most < (l.length:Int)then i64.wrap (most+1)else zq most l (l.length:Int)
def py(most:Int):List Bind->Int->Int
 |[],n=>n
 |b::r,n=>if n<=most then(let m:=plus (i64.wrap (n+1)) b.Name.length;py most r (if m<=most then plus m b.A.S.length else m))else n
def lN(most:Int):List Frame->Int->Int
 |[],n=>n
 |f::r,n=>if n<=most then(let m:=plus n f.Func.length;lN most r (py most f.Vars (if m<=most then plus m f.Block.length else m)))else n
def t6(most:Int):List Virt->Int->Int
 |[],n=>n
 |o::r,n=>if n<=most then(let m:=plus n o.Class.length;t6 most r (if m<=most then i64.wrap (m+fE o.Vals most)else m))else n
def gu(x:Instr)(most:Int):Int:=
 if(decide (most < (x.Frames.length:Int)))||(decide (most < (x.Objs.length:Int)))then i64.wrap (most+1)
 else
  t6 most x.Objs (lN most x.Frames (upto most (upto most (plus (plus (plus 1 x.Dst.length) x.Frames.length) x.Objs.length) (x.Name.length:Int)) (fE x.Args most)))
def cTo(most:Int):List a8->Int->Int
 |[],n=>n
 |t::r,n=>if n<=most then cTo most r (plus (i64.wrap (n+1)) t.length)else n
def Iq(most:Int):List In->Int->Int
 |[],n=>n
 |b::r,n=>if n<=most then(let m:=plus (i64.wrap (n+1)) b.Block.length;Iq most r (if m<=most then plus m b.A.S.length else m))else n
def t7(most:Int):List Phi->Int->Int
 |[],n=>n
 |x::r,n=>if n<=most then t7 most r (Iq most x.Ins (plus (i64.wrap (n+1)) x.Dst.length))else n
def rP(most:Int):List Instr->Int->Int
 |[],n=>n
 |x::r,n=>if n<=most then rP most r (i64.wrap (n+gu x most))else n
def gr(b:Block)(most:Int):Int:=
 if(decide (most < (b.Phis.length:Int)))||(decide (most < (b.Code.length:Int)))||(decide (most < (b.End.To.length:Int)))then i64.wrap (most+1)
 else
  rP most b.Code (t7 most b.Phis (cTo most b.End.To (upto most (plus 1 b.Name.length) (b.End.A.S.length:Int))))
def nU(most:Int):List Block->Int->Int
 |[],n=>n
 |x::r,n=>if n<=most then nU most r (i64.wrap (n+gr x most))else n
def nO(f:Func)(most:Int):Int:=
 if most < (f.Blocks.length:Int)then i64.wrap (most+1)
 else
  nU most f.Blocks (upto most (upto most (upto most (plus 1 f.Name.length) (f.Result.length:Int)) (cX f.Params most)) (cX f.Vars most))
def kJ(most:Int):List Class->Int->Int
 |[],n=>n
 |c::r,n=>if n<=most then(let m:=plus n c.Name.length;kJ most r (if m<=most then i64.wrap (m+cX c.Fields most)else m))else n
def ji(most:Int):List Extern->Int->Int
 |[],n=>n
 |x::r,n=>if n<=most then ji most r (plus (i64.wrap (n+1)) x.Name.length)else n
def nV(most:Int):List Func->Int->Int
 |[],n=>n
 |x::r,n=>if n<=most then nV most r (i64.wrap (n+nO x most))else n
def Few(p:Program)(most:Int):Bool:=
 if(decide (50 < (p.Classes.length:Int)))||(decide (50 < (p.Externs.length:Int)))||(decide (50 < (p.Funcs.length:Int)))then false
 else decide (nV most p.Funcs (ji most p.Externs (kJ most p.Classes (cX p.Globals most)))<=most)
def inR(n:Int):Prop:=-9223372036854775808<=n/\n < 9223372036854775808
def Arg.ok(a:Arg):Prop:=inR a.N
def vH(l:List Arg):Prop:=∀a∈l,a.ok
def Bind.ok(b:Bind):Prop:=b.A.ok
def Frame.ok(f:Frame):Prop:=f.Vars.length<=4611686018427387904/\∀b∈f.Vars,b.ok
def Virt.ok(o:Virt):Prop:=vH o.Vals
def Instr.ok(i:Instr):Prop:=vH i.Args/\(∀f∈i.Frames,f.ok)/\(∀o∈i.Objs,o.ok)
def In.ok(i:In):Prop:=i.A.ok
def Phi.ok(x:Phi):Prop:=x.Ins.length<=4611686018427387904/\∀i∈x.Ins,i.ok
def Term.ok(t:Term):Prop:=t.A.ok/\inR t.N
def Block.ok(b:Block):Prop:=(∀x∈b.Phis,x.ok)/\(∀i∈b.Code,i.ok)/\b.End.ok
def Func.ok(f:Func):Prop:=∀b∈f.Blocks,b.ok
def Program.ok(p:Program):Prop:=∀f∈p.Funcs,f.ok
def room:Nat:=1099511627776
def il(n:Int):Prop:=inR n
def fp(a:Arg):Prop:=a.ok
def adY(x:Instr)(most:Int):Prop:=x.ok/\most<=4611686018427387904
def adX(b:Block)(most:Int):Prop:=b.ok/\most<=4611686018427387904
def adZ(f:Func)(most:Int):Prop:=f.ok/\most<=4611686018427387904
def NZ(p:Program)(most:Int):Prop:=p.ok/\most<=4611686018427387904
def KG(n:Int):Int:=if n < 0 then IntKind.u64.wrap (0 - (IntKind.u64.wrap n))else IntKind.u64.wrap n
def jH(n:Int):a8:=bf n
def FB(n:Int):Bool:=decide (9218868437227405312 < (Int.tmod (IntKind.u64.wrap n) 9223372036854775808))
def dI(n:Int):Int:=if FB n=true then 9221120237041090560 else n
def WT(x:Int):UInt8:=UInt8.ofNat (IntKind.u8.wrap ((IntKind.u8.wrap (Int.tmod x 16))+(if IntKind.u8.wrap (Int.tmod x 16) < 10 then 48 else 87))).toNat
def rK:Nat->Int->a8->a8
 |0,_,l=>l
 |k+1,x,l=>rK k (IntKind.u64.wrap (Int.tdiv x 16)) (WT x::l)
def qd(n:Int):a8:=[48,102]++rK 16 (IntKind.u64.wrap (dI n)) []
def wv(i:Nat)(c:UInt8):Bool:=
 !((((!(((decide (48<=((c.toNat:Nat):Int)))&&(decide (((c.toNat:Nat):Int)<=57)))&&(decide (0 < (i:Int)))))&&(!decide (((c.toNat:Nat):Int)=95)))&&((decide (((c.toNat:Nat):Int) < 65))||(decide (90 < ((c.toNat:Nat):Int)))))&&((decide (((c.toNat:Nat):Int) < 97))||(decide (122 < ((c.toNat:Nat):Int)))))
def cg(s:a8):Bool:=((List.range s.length).all fun i=>wv i (s.getD i 0)) &&
 (((((decide (1<=(s.length:Int)))&&(decide ((s.length:Int)<=16)))&&(!decide (s=[110,117,108,108])))&&(!decide (s=[105,110,116])))&&(!decide (s=[102,108,111,97,116])))
def jI(a:Arg):Bool:=
 if a.Kind=1 then cg a.S&&decide (a.N=0)
 else if ((decide (a.Kind < 1))||(decide (5<a.Kind)))||(!decide (a.S=[]))then false
 else(((decide (a.Kind=2))||((decide (a.Kind=3))&&(decide ((dI a.N)=a.N))))||((decide (a.Kind=4))&&(decide (a.N=0))))||(((decide (a.Kind=5))&&(decide (0<=a.N)))&&(decide (a.N<=999)))
def bt(a:Arg):a8:=
 if jI a then
  if a.Kind=1 then a.S else if a.Kind=2 then jH a.N else if a.Kind=3 then qd a.N else if a.Kind=4 then [110,117,108,108]else 35::jH a.N
 else []
def rOf(op:Int):RForm×Bool:=
 if op < 1\/34<op then(⟨[],false,false,0,0⟩,false)
 else(⟨Go.Am.gw.getD op.toNat default,(((!decide (op=27))&&(!decide (op=30)))&&(!decide (op=33)))&&(!decide (op=34)),(((decide (op=25))||(decide (op=26)))||(decide (op=27)))||((decide (29<=op))&&(decide (op<=32))),
  if op=22\/op=23\/op=24\/op=26\/op=30\/op=33 then 1 else if op=25\/op=31\/op=32\/op=29\/op=34 then 0 else 2,
  if op=22\/op=23\/op=24\/op=26\/op=30\/op=33 then 1 else if op=25\/op=31\/op=32 then 8 else if op=29\/op=34 then 0 else 2⟩,true)
def lnT(w:List a8):a8:=jw false w++[10]
def iz(out:List UInt8)(l:List a8):a8:=out++lnT l
def qe(out first:List UInt8)(l:List Var):a8:=out++l.flatMap fun v=>lnT [first,v.Name,v.Type_]
def xp(l:List a8)(a:List Arg):List a8:=l++a.map bt
def r7(x:Instr):List a8:=(if(rOf x.Op).1.Dst then [x.Dst,[61]]else [])++[(rOf x.Op).1.Word]
def jK(x:Instr):List a8:=
 if(x.Op=26\/x.Op=27)/\x.Args≠[]then r7 x++(x.Args.take 1).map bt++[x.Name]++(x.Args.drop 1).map bt
 else r7 x++(if(rOf x.Op).1.Named then [x.Name]else [])++x.Args.map bt
def fJ(f:Frame):List a8:=[[97,116],f.Func,f.Block,jH f.At]++f.Vars.flatMap fun b=>[b.Name,bt b.A]
def jJ(o:Virt):List a8:=[[111,98,106],o.Class]++o.Vals.map bt
def jG(x:Instr):a8:=lnT (jK x)++(x.Frames.flatMap fun f=>lnT (fJ f))++(x.Objs.flatMap fun o=>lnT (jJ o))
def Yd(out:List UInt8)(x:Instr):a8:=out++jG x
def A6(t:Term):List a8:=
 [([[],[106,117,109,112],[98,114,97,110,99,104],[114,101,116],[116,114,97,112]]:List a8).getD t.Kind.toNat default]++(if t.Kind=2\/t.Kind=3 then [bt t.A]else [])++t.To++(if t.Kind=4 then [jH t.N]else [])
def uS(t:Term):a8:=if t.Kind < 1\/4<t.Kind then []else lnT (A6 t)
def Yf(out:List UInt8)(t:Term):a8:=out++uS t
def nB(x:Phi):List a8:=[[112,104,105],x.Dst]++x.Ins.flatMap fun i=>[i.Block,bt i.A]
def iq(b:Block):a8:=lnT [[98,108,111,99,107],b.Name]++(b.Phis.flatMap fun x=>lnT (nB x))++b.Code.flatMap jG++uS b.End
def iT(first:List UInt8)(l:List Var):a8:=l.flatMap fun v=>lnT [first,v.Name,v.Type_]
def lj(f:Func):a8:=lnT [[102,117,110,99],f.Name,f.Result]++iT [112,97,114,97,109] f.Params++iT [118,97,114] f.Vars++f.Blocks.flatMap iq
def ir(c:Class):a8:=lnT [[99,108,97,115,115],c.Name]++iT [102,105,101,108,100] c.Fields
def jr(x:Extern):a8:=lnT [[101,120,116,101,114,110],x.Name,jH x.N]
def gD(p:Program):a8:=(if p.SSA then lnT [[115,115,97]]else [])++p.Classes.flatMap ir++iT [103,108,111,98,97,108] p.Globals++p.Externs.flatMap jr++p.Funcs.flatMap lj
def bM(out:List UInt8)(l:List a8):Prop:=out.length+(lnT l).length<=room
def dz(out first:List UInt8)(l:List Var):Prop:=out.length+(iT first l).length<=room
def qa(l:List a8)(a:List Arg):Prop:=vH a/\l.length+a.length<=room+room
def KE(out:List UInt8)(x:Instr):Prop:=x.ok/\(∀f∈x.Frames,inR f.At)/\out.length+(jG x).length<=room
def AU(out:List UInt8)(t:Term):Prop:=t.ok/\out.length+(uS t).length<=room
def kn(p:Program):Prop:=p.ok/\(∀e∈p.Externs,inR e.N)/\(∀f∈p.Funcs,∀b∈f.Blocks,∀i∈b.Code,∀r∈i.Frames,inR r.At)/\(gD p).length<=room
def WL(s:a8)(c:UInt8):Int:=Go.Lib.indexByte s c
def adM(s p:a8):a8×Bool:=(Go.Lib.trimPrefix s p,Go.Lib.hasPrefix s p)
def ahL(s p:a8):a8×a8×Bool:=Go.Lib.cut s p
def EG(s p:a8):List a8:=(Go.Lib.splitB ⟨p.toArray⟩ 0 (Go.Lib.countB ⟨s.toArray⟩ ⟨p.toArray⟩) ⟨s.toArray⟩).map (·.data.toList)
def af5(s p:a8):Prop:=s.length < 4294967281
def X4(s p:a8):Prop:=s.length < 4294967281/\1<=p.length
def fnd{α:Type}[Inhabited α](nm:α->a8)(s:a8):List α->α×Bool
 |[]=>(default,false)
 |x::r=>if nm x=s then(x,true)else fnd nm s r
def bm(p:Program)(s:a8):Class×Bool:=fnd (·.Name) s p.Classes
def lh(p:Program)(s:a8):Func×Bool:=fnd (·.Name) s p.Funcs
def gc(p:Program)(s:a8):Extern×Bool:=fnd (·.Name) s p.Externs
def rM(l:List Var)(s:a8):Var×Bool:=fnd (·.Name) s l
def fq(p:Program)(s:a8):Var×Bool:=rM p.Globals s
def oI(p:Program)(c s:a8):Var×Bool:=rM (bm p c).1.Fields s
def gR(f:Func)(s:a8):Var×Bool:=if(rM f.Params s).2=true then((rM f.Params s).1,true)else rM f.Vars s
def gV(f:Func)(a:Arg):a8×Bool:=
 if a.Kind=1 then((gR f a.S).1.Type_,(gR f a.S).2)
 else if a.Kind=2 then([105,110,116],true)
 else if a.Kind=3 then([102,108,111,97,116],true)
 else if a.Kind=4 then([110,117,108,108],true)
 else([],false)
def gQ(t:List UInt8):Bool:=!decide (t=[105,110,116])&&!decide (t=[102,108,111,97,116])
def eD(h w:a8):Bool:=decide (h=w)||(decide (h=[110,117,108,108])&&gQ w)
def gC:List a8->List Var->Bool
 |[],[]=>true
 |t::l,x::v=>eD t x.Type_&&gC l v
 |_,_=>false
def uR(f:Func)(t:Term):Bool:=
 decide (t.Kind=1)||(decide (t.Kind=2)&&(gV f t.A).2&&decide ((gV f t.A).1=[105,110,116]))||(decide (t.Kind=3)&&(gV f t.A).2&&eD (gV f t.A).1 f.Result)||(decide (t.Kind=4)&&decide (10<=t.N))
def mE(l:List a8):Bool:=decide l.Nodup
def gG(p:Program)(t:List UInt8):Bool:=!gQ t||(bm p t).2
def cD(p:Program)(l:List Var):Bool:=(l.all fun x=>gG p x.Type_)&&mE (l.map (·.Name))
def fI(p:Program):Bool:=
 mE (p.Classes.map (·.Name))&&mE (p.Externs.map (·.Name))&&mE (p.Funcs.map (·.Name))&&cD p p.Globals&&(p.Classes.all fun c=>cD p c.Fields) &&
 p.Funcs.all fun f=>gG p f.Result&&cD p (f.Params++f.Vars)
def jp(p:Program):Prop:=∀f∈p.Funcs,f.Params.length+f.Vars.length<=1000000
def La(a b:a8):Bool:=gQ a&&(gQ b&&(decide (a=b)||(decide (a=[110,117,108,108])||decide (b=[110,117,108,108]))))
def aeJ(l:List a8)(t:List UInt8):Bool:=l.all fun x=>decide (x=t)
def ly(q:asked)(a d:a8):Bool:=aeJ q.args a&&decide (q.dst=d)
def By(q:asked):Bool:=(bm q.p q.i.Name).2&&(decide (q.dst=q.i.Name)&&(decide (q.args.length=0)||gC q.args (bm q.p q.i.Name).1.Fields))
def N0(q:asked):Prop:=0<q.args.length/\q.args.length=q.i.Args.length
def N1(q:asked):Prop:=q.i.Op≠29->0<q.args.length
def gm(q:asked):Var×Bool:=if(q.i.Args.getD 0 default).Kind=1 then oI q.p (q.args.getD 0 default) q.i.Name else(default,false)
def nK(q:asked):Bool:=if q.i.Op=29 then(fq q.p q.i.Name).2&&decide ((fq q.p q.i.Name).1.Type_=q.dst)else(fq q.p q.i.Name).2&&eD (q.args.getD 0 default) (fq q.p q.i.Name).1.Type_
def vi(q:asked):Bool:=
 if q.i.Op<=14 then ly q [105,110,116] [105,110,116]
 else if q.i.Op<=18 then ly q [102,108,111,97,116] [102,108,111,97,116]
 else if q.i.Op<=21 then ly q [102,108,111,97,116] [105,110,116]
 else if q.i.Op=22 then ly q [105,110,116] [102,108,111,97,116]
 else if q.i.Op=23 then ly q [102,108,111,97,116] [105,110,116]
 else if q.i.Op=24 then eD (q.args.getD 0 default) q.dst
 else if q.i.Op=25 then By q
 else if q.i.Op=26 then(gm q).2&&decide ((gm q).1.Type_=q.dst)
 else if q.i.Op=27 then(gm q).2&&eD (q.args.getD 1 default) (gm q).1.Type_
 else if q.i.Op=28 then decide (q.dst=[105,110,116])&&La (q.args.getD 0 default) (q.args.getD 1 default)
 else if q.i.Op=29\/q.i.Op=30 then nK q
 else if q.i.Op=31 then(lh q.p q.i.Name).2&&(gC q.args (lh q.p q.i.Name).1.Params&&decide (q.dst=(lh q.p q.i.Name).1.Result))
 else if q.i.Op=32 then(gc q.p q.i.Name).2&&(decide ((q.args.length:Int)=(gc q.p q.i.Name).1.N)&&ly q [105,110,116] [105,110,116])
 else if q.i.Op=33 then !gQ (q.args.getD 0 default)
 else true
def AX(q:asked):Prop:=(Of q.i.Op).2=true/\q.args.length=q.i.Args.length/\(Of q.i.Op).1.Least<=(q.args.length:Int)/\(q.args.length:Int)<=(Of q.i.Op).1.Most
def iN(f:Func)(i:Instr):Bool:=
 (Of i.Op).2&&(decide ((Of i.Op).1.Least<=(i.Args.length:Int))&&(decide ((i.Args.length:Int)<=(Of i.Op).1.Most)&&(!(Of i.Op).1.Dst||(gR f i.Dst).2)))
def lM(f:Func)(l:List Arg):List a8:=l.map fun a=>(gV f a).1
def IL(f:Func)(i:Instr):a8:=if(Of i.Op).1.Dst=true then(gR f i.Dst).1.Type_ else []
def oM(p:Program)(f:Func)(i:Instr):asked×Bool:=
 if(iN f i&&i.Args.all fun a=>(gV f a).2)=true then(⟨p,i,IL f i,lM f i.Args⟩,true)else(default,false)
def uO(_:Program)(_:Func)(i:Instr):Prop:=i.Args.length<=1000000
def ad1:=uO
def X2:=uO
def lx(p:Program)(f:Func)(i:Instr):Bool:=(oM p f i).2&&vi (oM p f i).1
def rsz:List Block->Int->Int
 |[],n=>n
 |b::r,n=>rsz r (i64.wrap (n+(b.Code.length:Int)))
def ip(f:Func):Int:=rsz f.Blocks 0
def ka(_:Func):Prop:=True
def AQ(i:Instr):Bool:=decide (i.Frames.length=0)&&decide (i.Objs.length=0)
def sV(b:Block):Bool:=decide (b.Phis.length=0)&&b.Code.all AQ
def mG(f:Func):Bool:=f.Blocks.all sV
def iW(p:Program):Bool:=p.Funcs.all mG&&!p.SSA
def nA(f:Func):Prop:=∀b∈f.Blocks,∀i∈b.Code,i.Frames.length+i.Objs.length<=1000000
def qc(f:Func):Bool:=!mG f
def rE(f:Func):Bool:=!decide (32 < (f.Blocks.length:Int))&&(!decide (200<ip f)&&!decide (16<i64.wrap ((f.Params.length:Int)+(f.Vars.length:Int))))
def ia(p:Program):Bool:=p.Funcs.all rE
def DE(_:Program):Prop:=True
def tc(p:Program)(f:Func)(b:Block):Bool:=(b.Code.all fun i=>lx p f i)&&uR f b.End
def jW(p:Program)(f:Func):Bool:=f.Blocks.all (tc p f)
def lf(_:Program)(f:Func):Prop:=∀b∈f.Blocks,∀i∈b.Code,i.Args.length<=1000000
abbrev nmB(B:List Block)(i:Nat):a8:=(B.getD i default).Name
abbrev toB(B:List Block)(i:Nat):List a8:=(B.getD i default).End.To
inductive Rc (B:List Block):Nat->Prop
 |first:0<B.length->Rc B 0
 |next (i k:Nat):Rc B i->i<B.length->k<B.length->nmB B k∈toB B i->Rc B k
structure Gd (B:List Block):Prop where
 ps:0<B.length
 nd:∀i j,i<B.length->j<B.length->nmB B i=nmB B j->i=j
 tn:∀i,i<B.length->(toB B i).Nodup
 tr:∀i,i<B.length->∀s∈toB B i,∃k,k<B.length/\k≠0/\nmB B k=s
 re:∀k,k<B.length->Rc B k
noncomputable def MM(P:Prop):Bool:=@decide P (Classical.propDecidable P)
variable{P:Prop}
theorem pQ(h:P):MM P=true:=@decide_eq_true P (Classical.propDecidable P) h
theorem sH(h:¬ P):MM P=false:=@decide_eq_false P (Classical.propDecidable P) h
theorem qQ:MM P=true ↔ P:=@decide_eq_true_iff P (Classical.propDecidable P)
def X3(f:Func):Prop:=f.Blocks.length<=1000000/\∀b∈f.Blocks,b.End.To.length<=1000000
noncomputable def di(f:Func):Bool:=MM (Gd f.Blocks)
def i7(s:a8):List Block->Int->Int×Bool
 |[],_=>(0,false)
 |b::r,i=>if b.Name=s then(i,true)else i7 s r (i+1)
def aI(f:Func)(s:a8):Int×Bool:=i7 s f.Blocks 0
def BQ{α:Type}[DecidableEq α](v:α):List α->Int->Int
 |[],_=>-1
 |x::r,i=>if v=x then i else BQ v r (i+1)
def Jq(l:List Int)(v:Int):Int:=BQ v l 0
def Ab(l:List Int)(v:Int):Bool:=decide (0<=Jq l v)
def Jr(l:List a8)(v:a8):Int:=BQ v l 0
def vW(l:List a8)(v:a8):Bool:=decide (0<=Jr l v)
def r6(f:Func):Prop:=f.Blocks.length<=1000000/\∀b∈f.Blocks,b.End.To.length<=1000000
def oG(f:Func)(s:a8):Option Int:=if(aI f s).2=true then some (aI f s).1 else none
def jl(f:Func):List (List Int):=f.Blocks.map fun b=>b.End.To.filterMap (oG f)
def uP(g:List (List Int)):Prop:=g.length<=1000000/\∀l∈g,l.length<=1000000
def Ql(g:List (List Int))(k:Nat):List Int:=((List.range g.length).filter fun i=>decide ((k:Int)∈g.getD i [])).map fun(i:Nat)=>(i:Int)
def ib(g:List (List Int)):List (List Int):=(List.range g.length).map (Ql g)
def AT(g:List (List Int)):Prop:=uP g/\0<g.length/\∀l∈g,∀k∈l,0<=k/\k < (g.length:Int)
inductive Gr (g:List (List Int)):Nat->Prop
 |first:Gr g 0
 |next (i k:Nat):Gr g i->(k:Int)∈g.getD i []->Gr g k
structure Od (g:List (List Int)) (l:List Int):Prop where
 lt:∀k∈l,0<=k/\k < (g.length:Int)
 all:∀k,Gr g k->(k:Int)∈l
 nd:l.Nodup
 pr:∀i,i<l.length->l.getD i 0≠0->∃j,j<i/\l.getD i 0∈g.getD (l.getD j 0).toNat []
def DD(g:List (List Int))(l:List Int):Prop:=Od g l
abbrev Vs:=Option (List (a8×Bool))
def bj(s:Vs)(v:a8):Bool:=((Go.Am.aL .s (s.getD []) v).getD false)
def okV(s:Vs)(n:Nat):Prop:=∃l,s=some l/\(l.map (·.1)).Nodup/\(∀x∈l,x.2=true)/\l.length<=n
def Ca(s:Vs)(l:List a8):Vs:=some (l.foldl (fun m v=>Go.Am.cQ .s m v true) (s.getD []))
def Ih(f:Func):Vs:=Ca (some []) (f.Params.map (·.Name))
def xn(s:Vs)(_:Block):Prop:=s.isSome=true
def mr(s:Vs)(b:Block):Vs:=Ca s (b.Phis.map (·.Dst))
def cR(b:Block):List a8:=(b.Code.map (·.Dst)).filter fun d=>!decide (d=[])
def iH(s:Vs)(b:Block):Vs:=Ca s (cR b)
def Qj(a b:Vs):Prop:=a=none\/∃n,okV a n
def KB(a b y:Vs):Prop:=(a=none->y=b)/\(a≠none->(∀n,okV a n->okV y n)/\∀v,bj y v=(bj a v&&bj b v))
abbrev bkB(f:Func)(i:Nat):Block:=f.Blocks.getD i default
abbrev phB(f:Func)(i:Nat):List a8:=(bkB f i).Phis.map (·.Dst)
inductive Bare (f:Func) (v:a8):Nat->Prop
 |first:v ∉ f.Params.map (·.Name)->Bare f v 0
 |next (i k:Nat):Bare f v i->v ∉ phB f i->v ∉ cR (bkB f i)->i<f.Blocks.length->k<f.Blocks.length->nmB f.Blocks k∈toB f.Blocks i->Bare f v k
def uN(f:Func):Prop:=r6 f/\Gd f.Blocks/\f.Params.length<=1000000/\∀b∈f.Blocks,b.Phis.length<=1000000/\b.Code.length<=1000000
def uK(f:Func)(y:List Vs):Prop:=y.length=f.Blocks.length/\∀k,k<f.Blocks.length->(y.getD k none).isSome=true/\∀v,bj (y.getD k none) v=true ↔ (¬ Bare f v k\/v∈phB f k)
def pm(i:Instr)(v:a8):Prop:=(∃a∈i.Args,a.Kind=1/\a.S=v)\/(∃f∈i.Frames,∃b∈f.Vars,b.A.Kind=1/\b.A.S=v)\/∃o∈i.Objs,∃a∈o.Vals,a.Kind=1/\a.S=v
def D1(i:Instr):Nat:=i.Args.length+(i.Frames.map fun f=>f.Vars.length).sum+(i.Objs.map fun o=>o.Vals.length).sum
def io(i:Instr):Prop:=D1 i<=1000000
def ld(s:Vs):Prop:=s.isSome=true/\(s.getD []).length<=1000000
def uL(i:Instr)(l:List a8):Prop:=∀v,v∈l ↔ pm i v
def iS(s:Vs)(l:List a8):Prop:=∀v,v∈l ↔ v∈(s.getD []).map (·.1)
def mM(P:a8->Prop)(b:Block):Prop:=(∀j,j<b.Code.length->∀v,pm (b.Code.getD j default) v->P v\/v∈((b.Code.take j).map (·.Dst)).filter fun d=>!decide (d=[]))/\((b.End.Kind=2\/b.End.Kind=3)->b.End.A.Kind=1->P b.End.A.S\/b.End.A.S∈cR b)
def XY(s:Vs)(b:Block):Prop:=s.isSome=true/\∀x∈b.Code,io x
noncomputable def nS(s:Vs)(b:Block):Bool:=MM (mM (fun v=>bj s v=true) b)
def sK(a:a8)(s:a8):List Block->Bool
 |[]=>false
 |b::r=>if b.Name=s then vW b.End.To a else sK a s r
def xV(f:Func)(s a:a8):Bool:=sK a s f.Blocks
def p6(f:Func)(o:Option (List (a8×Vs)))(b:Block)(i:In):Bool:=!((Go.Am.aL .s (o.getD []) i.Block).isSome&&xV f i.Block b.Name)||(!decide (i.A.Kind=1)||bj ((Go.Am.aL .s (o.getD []) i.Block).getD none) i.A.S)
def zg(f:Func)(o:Option (List (a8×Vs))):Bool:=f.Blocks.all fun b=>b.Phis.all fun x=>x.Ins.all (p6 f o b)
def NY(f:Func):Prop:=uN f/\∀b∈f.Blocks,∀x∈b.Code,io x
def yZ(f:Func)(k:Nat)(v:a8):Prop:=(¬ Bare f v k\/v∈phB f k)\/v∈cR (bkB f k)
def sm(f:Func):Prop:=∀b∈f.Blocks,∀x∈b.Phis,∀i∈x.Ins,∀k,k<f.Blocks.length->nmB f.Blocks k=i.Block->b.Name∈toB f.Blocks k->i.A.Kind=1->yZ f k i.A.S
noncomputable def gk(f:Func):Bool:=MM ((∀k,k<f.Blocks.length->mM (fun v=>¬ Bare f v k\/v∈phB f k) (bkB f k))/\sm f)
noncomputable def xP(p:Program):List Func->Int
 |[]=>0
 |f::r=>if di f=false then 5 else if jW p f=false then 4 else if gk f=false then 4 else xP p r
def cZ(p:Program):Prop:=jp p/\∀f∈p.Funcs,lf p f/\r6 f/\f.Params.length<=1000000/\(∀b∈f.Blocks,b.Phis.length<=1000000/\b.Code.length<=1000000)/\∀b∈f.Blocks,∀x∈b.Code,io x
noncomputable def cu(p:Program):Int:=if aX p=false\/iW p=false then 3 else if ia p=false then 2 else if fI p=false then 4 else xP p p.Funcs
def PF:Bool:=true
end Lt
end

section
namespace Go.Am
open Go
def wO(a:List Lt.Var)(b:Int)(KK:Int->Prop):Prop:=
 (a.length<=4611686018427387904->if decide (b < (a.length:Int))then(KK (i64.wrap (b+1)))else((a.length<=4611686018427387904->ab (α:=Int×Int) (fun f c=>aa (α:=Bool) (fun d=>(a.length<=4611686018427387904->if decide (c.2 < (a.length:Int))then(d (decide (c.1<=b)))else(d false))) (fun v4=>if v4 then(aa (α:=Int) (fun e=>(0<=c.2/\c.2.toNat<a.length)/\(((a.getD c.2.toNat default).Name).length<=4611686018427387904->if decide ((i64.wrap (c.1+(((a.getD c.2.toNat default).Name).length:Int)))<=b)then((0<=c.2/\c.2.toNat<a.length)/\(((a.getD c.2.toNat default).Type_).length<=4611686018427387904->e (i64.wrap ((i64.wrap (c.1+(((a.getD c.2.toNat default).Name).length:Int)))+(((a.getD c.2.toNat default).Type_).length:Int)))))else(e (i64.wrap (c.1+(((a.getD c.2.toNat default).Name).length:Int)))))) (fun g=>f (g,(i64.wrap (c.2+1)))))else(KK c.1))) ((a.length:Int),0))))
def wN(a:List Lt.Arg)(b:Int)(KK:Int->Prop):Prop:=
 (a.length<=4611686018427387904->if decide (b < (a.length:Int))then(KK (i64.wrap (b+1)))else((a.length<=4611686018427387904->ab (α:=Int×Int) (fun e c=>aa (α:=Bool) (fun d=>(a.length<=4611686018427387904->if decide (c.2 < (a.length:Int))then(d (decide (c.1<=b)))else(d false))) (fun v4=>if v4 then((0<=c.2/\c.2.toNat<a.length)/\(((a.getD c.2.toNat default).S).length<=4611686018427387904->e ((i64.wrap (c.1+(((a.getD c.2.toNat default).S).length:Int))),(i64.wrap (c.2+1)))))else(KK c.1))) ((a.length:Int),0))))
def tH(b:Lt.Instr)(a:Int)(KK:Int->Prop):Prop:=
 have t:=(i64.wrap ((i64.wrap ((i64.wrap (1+(b.Dst.length:Int)))+(b.Frames.length:Int)))+(b.Objs.length:Int)));aa (α:=Bool) (fun w=>(b.Frames.length<=4611686018427387904->if decide (a < (b.Frames.length:Int))then(w true)else(w (decide (a < (b.Objs.length:Int)))))) (fun z=>if z then(KK (i64.wrap (a+1)))else((b.Dst.length<=4611686018427387904->(b.Frames.length<=4611686018427387904->(b.Objs.length<=4611686018427387904->aa (α:=Int) (fun x=>if decide (t<=a)then((b.Name.length<=4611686018427387904->x (i64.wrap (t+(b.Name.length:Int)))))else(x t)) (fun v4=>aa (α:=Int) (fun y=>if decide (v4<=a)then(y (i64.wrap (v4+(fE b.Args a))))else(y v4)) (fun B=>ab (α:=Int×Int) (fun C e=>have z4:=(0<=e.2/\e.2.toNat<b.Frames.length);have d:=b.Frames.getD e.2.toNat default;have m:=(i64.wrap (e.1+((d.Func).length:Int)));aa (α:=Bool) (fun v=>(b.Frames.length<=4611686018427387904->if decide (e.2 < (b.Frames.length:Int))then(v (decide (e.1<=a)))else(v false))) (fun q=>if q then(z4/\((d.Func).length<=4611686018427387904->aa (α:=Int) (fun f=>if decide (m<=a)then(z4/\((d.Block).length<=4611686018427387904->f (i64.wrap (m+((d.Block).length:Int)))))else(f m)) (fun n=>ab (α:=Int×Int) (fun l c=>have k:=(d.Vars).getD c.2.toNat default;have z3:=(i64.wrap ((i64.wrap (c.1+1))+((k.Name).length:Int)));aa (α:=Bool) (fun j=>z4/\((d.Vars).length<=4611686018427387904->if decide (c.2 < ((d.Vars).length:Int))then(j (decide (c.1<=a)))else(j false))) (fun o=>if o then(aa (α:=Int) (fun i=>z4/\(0<=c.2/\c.2.toNat < (d.Vars).length)/\((k.Name).length<=4611686018427387904->if decide (z3<=a)then(z4/\(0<=c.2/\c.2.toNat < (d.Vars).length)/\(((k.A).S).length<=4611686018427387904->i (i64.wrap (z3+(((k.A).S).length:Int)))))else(i z3))) (fun p=>l (p,(i64.wrap (c.2+1)))))else(C (c.1,(i64.wrap (e.2+1)))))) (n,0))))else(ab (α:=Int×Int) (fun s v20=>have r:=b.Objs.getD v20.2.toNat default;have z5:=(i64.wrap (v20.1+((r.Class).length:Int)));aa (α:=Bool) (fun h=>(b.Objs.length<=4611686018427387904->if decide (v20.2 < (b.Objs.length:Int))then(h (decide (v20.1<=a)))else(h false))) (fun u=>if u then(aa (α:=Int) (fun g=>(0<=v20.2/\v20.2.toNat<b.Objs.length)/\((r.Class).length<=4611686018427387904->if decide (z5<=a)then((0<=v20.2/\v20.2.toNat<b.Objs.length)/\g (i64.wrap (z5+(fE (r.Vals) a))))else(g z5))) (fun v24=>s (v24,(i64.wrap (v20.2+1)))))else(KK v20.1))) (e.1,0)))) (B,0))))))))
def tG(b:Lt.Block)(a:Int)(KK:Int->Prop):Prop:=
 have z5:=(i64.wrap (1+(b.Name.length:Int)));aa (α:=Bool) (fun m=>(b.Phis.length<=4611686018427387904->if decide (a < (b.Phis.length:Int))then(m true)else(if decide (a < (b.Code.length:Int))then(m true)else(m (decide (a < (b.End.To.length:Int))))))) (fun v=>if v then(KK (i64.wrap (a+1)))else((b.Name.length<=4611686018427387904->aa (α:=Int) (fun s=>if decide (z5<=a)then((b.End.A.S.length<=4611686018427387904->s (i64.wrap (z5+(b.End.A.S.length:Int)))))else(s z5)) (fun v4=>ab (α:=Int×Int) (fun w e=>aa (α:=Bool) (fun t=>(b.End.To.length<=4611686018427387904->if decide (e.2 < (b.End.To.length:Int))then(t (decide (e.1<=a)))else(t false))) (fun x=>if x then((0<=e.2/\e.2.toNat<b.End.To.length)/\((b.End.To.getD e.2.toNat default).length<=4611686018427387904->w ((i64.wrap ((i64.wrap (e.1+1))+((b.End.To.getD e.2.toNat default).length:Int))),(i64.wrap (e.2+1)))))else(ab (α:=Int×Int) (fun u d=>have z3:=(0<=d.2/\d.2.toNat<b.Phis.length);have f:=b.Phis.getD d.2.toNat default;aa (α:=Bool) (fun g=>(b.Phis.length<=4611686018427387904->if decide (d.2 < (b.Phis.length:Int))then(g (decide (d.1<=a)))else(g false))) (fun l=>if l then(z3/\((f.Dst).length<=4611686018427387904->ab (α:=Int×Int) (fun k c=>have z4:=(f.Ins).getD c.2.toNat default;have q:=(i64.wrap ((i64.wrap (c.1+1))+((z4.Block).length:Int)));aa (α:=Bool) (fun j=>z3/\((f.Ins).length<=4611686018427387904->if decide (c.2 < ((f.Ins).length:Int))then(j (decide (c.1<=a)))else(j false))) (fun n=>if n then(aa (α:=Int) (fun i=>z3/\(0<=c.2/\c.2.toNat < (f.Ins).length)/\((z4.Block).length<=4611686018427387904->if decide (q<=a)then(z3/\(0<=c.2/\c.2.toNat < (f.Ins).length)/\(((z4.A).S).length<=4611686018427387904->i (i64.wrap (q+(((z4.A).S).length:Int)))))else(i q))) (fun o=>k (o,(i64.wrap (c.2+1)))))else(u (c.1,(i64.wrap (d.2+1)))))) ((i64.wrap ((i64.wrap (d.1+1))+((f.Dst).length:Int))),0)))else(ab (α:=Int×Int) (fun p v20=>aa (α:=Bool) (fun h=>(b.Code.length<=4611686018427387904->if decide (v20.2 < (b.Code.length:Int))then(h (decide (v20.1<=a)))else(h false))) (fun r=>if r then((0<=v20.2/\v20.2.toNat<b.Code.length)/\(adY (b.Code.getD v20.2.toNat default) a)/\p ((i64.wrap (v20.1+(gu (b.Code.getD v20.2.toNat default) a))),(i64.wrap (v20.2+1))))else(KK v20.1))) (d.1,0)))) (e.1,0)))) (v4,0)))))
def Co(b:Lt.Func)(a:Int)(KK:Int->Prop):Prop:=
 have z3:=(i64.wrap (1+(b.Name.length:Int)));(b.Blocks.length<=4611686018427387904->if decide (a < (b.Blocks.length:Int))then(KK (i64.wrap (a+1)))else((b.Name.length<=4611686018427387904->aa (α:=Int) (fun g=>if decide (z3<=a)then((b.Result.length<=4611686018427387904->g (i64.wrap (z3+(b.Result.length:Int)))))else(g z3)) (fun e=>aa (α:=Int) (fun i=>if decide (e<=a)then(i (i64.wrap (e+(cX b.Params a))))else(i e)) (fun v4=>aa (α:=Int) (fun k=>if decide (v4<=a)then(k (i64.wrap (v4+(cX b.Vars a))))else(k v4)) (fun m=>ab (α:=Int×Int) (fun l c=>have d:=b.Blocks.getD c.2.toNat default;have h:=Lt.Block.mk (d.Name) (d.Phis) (d.Code) (Lt.Term.mk ((d.End).Kind) ((d.End).A) ((d.End).To) ((d.End).N));aa (α:=Bool) (fun j=>(b.Blocks.length<=4611686018427387904->if decide (c.2 < (b.Blocks.length:Int))then(j (decide (c.1<=a)))else(j false))) (fun f=>if f then((0<=c.2/\c.2.toNat<b.Blocks.length)/\(adX h a)/\l ((i64.wrap (c.1+(gr h a))),(i64.wrap (c.2+1))))else(KK c.1))) (m,0)))))))
def ac4(a:Lt.Program)(b:Int)(KK:Bool->Prop):Prop:=
 aa (α:=Bool) (fun i=>(a.Classes.length<=4611686018427387904->if decide (50 < (a.Classes.length:Int))then(i true)else(if decide (50 < (a.Externs.length:Int))then(i true)else(i (decide (50 < (a.Funcs.length:Int))))))) (fun p=>if p then(KK false)else(ab (α:=Int×Int) (fun s v4=>have l:=a.Classes.getD v4.2.toNat default;have j:=(i64.wrap (v4.1+((l.Name).length:Int)));aa (α:=Bool) (fun m=>(a.Classes.length<=4611686018427387904->if decide (v4.2 < (a.Classes.length:Int))then(m (decide (v4.1<=b)))else(m false))) (fun r=>if r then(aa (α:=Int) (fun n=>(0<=v4.2/\v4.2.toNat<a.Classes.length)/\((l.Name).length<=4611686018427387904->if decide (j<=b)then((0<=v4.2/\v4.2.toNat<a.Classes.length)/\n (i64.wrap (j+(cX (l.Fields) b))))else(n j))) (fun q=>s (q,(i64.wrap (v4.2+1)))))else(ab (α:=Int×Int) (fun o d=>aa (α:=Bool) (fun e=>(a.Externs.length<=4611686018427387904->if decide (d.2 < (a.Externs.length:Int))then(e (decide (d.1<=b)))else(e false))) (fun h=>if h then((0<=d.2/\d.2.toNat<a.Externs.length)/\(((a.Externs.getD d.2.toNat default).Name).length<=4611686018427387904->o ((i64.wrap ((i64.wrap (d.1+1))+(((a.Externs.getD d.2.toNat default).Name).length:Int))),(i64.wrap (d.2+1)))))else(ab (α:=Int×Int) (fun g c=>aa (α:=Bool) (fun f=>(a.Funcs.length<=4611686018427387904->if decide (c.2 < (a.Funcs.length:Int))then(f (decide (c.1<=b)))else(f false))) (fun k=>if k then((0<=c.2/\c.2.toNat<a.Funcs.length)/\(adZ (a.Funcs.getD c.2.toNat default) b)/\g ((i64.wrap (c.1+(nO (a.Funcs.getD c.2.toNat default) b))),(i64.wrap (c.2+1))))else(KK (decide (c.1<=b))))) (d.1,0)))) (v4.1,0)))) ((cX a.Globals b),0)))
def Gl(a:UInt8)(KK:Bool->Prop):Prop:=
 aa (α:=Bool) (fun b=>if decide ((((97:UInt8).toNat:Nat):Int)<=((a.toNat:Nat):Int))then(if decide (((a.toNat:Nat):Int)<=(((122:UInt8).toNat:Nat):Int))then(b true)else(if decide ((((65:UInt8).toNat:Nat):Int)<=((a.toNat:Nat):Int))then(if decide (((a.toNat:Nat):Int)<=(((90:UInt8).toNat:Nat):Int))then(b true)else(b (decide (((a.toNat:Nat):Int)=(((95:UInt8).toNat:Nat):Int)))))else(b (decide (((a.toNat:Nat):Int)=(((95:UInt8).toNat:Nat):Int))))))else(if decide ((((65:UInt8).toNat:Nat):Int)<=((a.toNat:Nat):Int))then(if decide (((a.toNat:Nat):Int)<=(((90:UInt8).toNat:Nat):Int))then(b true)else(b (decide (((a.toNat:Nat):Int)=(((95:UInt8).toNat:Nat):Int)))))else(b (decide (((a.toNat:Nat):Int)=(((95:UInt8).toNat:Nat):Int)))))) (fun c=>KK c)
def UO(a:a8)(KK:Bool->Prop):Prop:=
 aa (α:=Bool) (fun b=>if decide (a=[110,117,108,108])then(b true)else(if decide (a=[105,110,116])then(b true)else(b (decide (a=[102,108,111,97,116]))))) (fun c=>KK c)
def wU(a:UInt8)(KK:Bool->Prop):Prop:=
 if decide ((((48:UInt8).toNat:Nat):Int)<=((a.toNat:Nat):Int))then(KK (decide (((a.toNat:Nat):Int)<=(((57:UInt8).toNat:Nat):Int))))else(KK false)
def UJ(a:a8)(KK:Bool->Prop):Prop:=
 aa (α:=Bool) (fun b=>if decide (a=([]:List UInt8))then(b true)else(if decide (16 < (a.length:Int))then(b true)else(((0:Int)<=0/\0<a.length)/\if !(Lt.letter (a.getD 0 0))then(b true)else(b (Lt.kept a))))) (fun e=>if e then(KK false)else((a.length<=4611686018427387904->ab (α:=Int) (fun d v4=>if decide (v4 < (a.length:Int))then(aa (α:=Bool) (fun c=>(0<=v4/\v4.toNat<a.length)/\if !(Lt.letter (a.getD v4.toNat 0))then((0<=v4/\v4.toNat<a.length)/\c (!(kq (a.getD v4.toNat 0))))else(c false)) (fun f=>if f then(KK false)else(d (i64.wrap (v4+1)))))else(KK true)) 0)))
def UP(a:a8)(KK:Bool->Prop):Prop:=
 aa (α:=Bool) (fun b=>if decide (a=[105,110,116])then(b true)else(if decide (a=[102,108,111,97,116])then(b true)else(b (Lt.Name a)))) (fun c=>KK c)
def Pj(a:List Lt.Var)(b:Int)(KK:Bool->Prop):Prop:=
 (a.length<=4611686018427387904->if decide (b < (a.length:Int))then(KK false)else((a.length<=4611686018427387904->ab (α:=Int) (fun e c=>if decide (c < (a.length:Int))then((0<=c/\c.toNat<a.length)/\aa (α:=Bool) (fun d=>if !(Lt.Name ((a.getD c.toNat default).Name))then(d true)else(d (!(Lt.kind ((a.getD c.toNat default).Type_))))) (fun v4=>if v4 then(KK false)else(e (i64.wrap (c+1)))))else(KK true)) 0)))
def OT(a:Int)(KK:Int->Prop):Prop:=
 aa (α:=Bool) (fun b=>if decide ((i64.wrap ((BitVec.ofInt i64.bits a &&& BitVec.ofInt i64.bits 9218868437227405312).toNat:Nat))=9218868437227405312)then(b (!decide ((i64.wrap ((BitVec.ofInt i64.bits a &&& BitVec.ofInt i64.bits 4503599627370495).toNat:Nat))=0)))else(b false)) (fun c=>if c then(KK 9221120237041090560)else(KK a))
def wV(a:Lt.Arg)(KK:Bool->Prop):Prop:=
 if decide (a.Kind=1)then(if Lt.Name a.S then(KK (decide (a.N=0)))else(KK false))else(if decide (a.Kind=2)then(KK (decide (a.S=([]:List UInt8))))else(if decide (a.Kind=3)then(aa (α:=Bool) (fun b=>if decide (a.S=([]:List UInt8))then((b (decide ((Lt.Plain a.N)=a.N)))/\(b (decide ((Lt.Plain a.N)=a.N))))else((b false)/\(b false))) (fun d=>KK d))else(if decide (a.Kind=4)then(if decide (a.S=([]:List UInt8))then(KK (decide (a.N=0)))else(KK false))else(if decide (a.Kind=5)then(aa (α:=Bool) (fun c=>if decide (a.S=([]:List UInt8))then(if decide (0<=a.N)then(c (decide (a.N<=999)))else(c false))else(c false)) (fun v4=>KK v4))else(KK false)))))
def yM(a:List Lt.Arg)(b:Bool)(KK:Bool->Prop):Prop:=
 (a.length<=4611686018427387904->ab (α:=Int) (fun e c=>if decide (c < (a.length:Int))then((0<=c/\c.toNat<a.length)/\aa (α:=Bool) (fun d=>if !(bD (a.getD c.toNat default))then(d true)else(if decide ((a.getD c.toNat default).Kind=5)then(d (!b))else(d false))) (fun v4=>if v4 then(KK false)else(e (i64.wrap (c+1)))))else(KK true)) 0)
def CG(a:Lt.Term)(KK:Bool->Prop):Prop:=
 (a.To.length<=4611686018427387904->ab (α:=Int) (fun g b=>if decide (b < (a.To.length:Int))then((0<=b/\b.toNat<a.To.length)/\if !(Lt.Name (a.To.getD b.toNat default))then(KK false)else(g (i64.wrap (b+1))))else(if decide (a.Kind=1)then(aa (α:=Bool) (fun c=>if decide (a.A.Kind=0)&&(decide (a.A.S=([]:List UInt8))&&decide (a.A.N=0))then(if decide ((a.To.length:Int)=1)then(c (decide (a.N=0)))else(c false))else(c false)) (fun v4=>KK v4))else(if decide (a.Kind=2)then(aa (α:=Bool) (fun d=>if bG [a.A] false then(if decide ((a.To.length:Int)=2)then(d (decide (a.N=0)))else(d false))else(d false)) (fun h=>KK h))else(if decide (a.Kind=3)then(aa (α:=Bool) (fun e=>if bG [a.A] false then(if decide ((a.To.length:Int)=0)then(e (decide (a.N=0)))else(e false))else(e false)) (fun f=>KK f))else(if decide (a.Kind=4)then(if decide (a.A.Kind=0)&&(decide (a.A.S=([]:List UInt8))&&decide (a.A.N=0))then(KK (decide ((a.To.length:Int)=0)))else(KK false))else(KK false)))))) 0)
def ac6(a:Lt.Phi)(KK:Bool->Prop):Prop:=
 aa (α:=Bool) (fun b=>if !(Lt.Name a.Dst)then(b true)else(if decide ((a.Ins.length:Int)=0)then(b true)else(b (decide (256 < (a.Ins.length:Int)))))) (fun e=>if e then(KK false)else((a.Ins.length<=4611686018427387904->ab (α:=Int) (fun d v4=>if decide (v4 < (a.Ins.length:Int))then((0<=v4/\v4.toNat<a.Ins.length)/\aa (α:=Bool) (fun c=>if !(Lt.Name ((a.Ins.getD v4.toNat default).Block))then(c true)else(c (!(bG [((a.Ins.getD v4.toNat default).A)] false)))) (fun f=>if f then(KK false)else(d (i64.wrap (v4+1)))))else(KK true)) 0)))
def ac5(a:a8)(c:Int)(KK:a8->Prop):Prop:=
 ab (α:=Int×Int×Int) (fun e b=>(a.length<=4611686018427387904->if decide (b.2.2 < (a.length:Int))then(aa (α:=Int×Int) (fun d=>(0<=b.2.2/\b.2.2.toNat<a.length)/\if !decide ((((a.getD b.2.2.toNat 0).toNat:Nat):Int)=(((32:UInt8).toNat:Nat):Int))then(d (b.1,b.2.1))else(if decide ((i64.wrap (b.1 - 1))=0)then((0:Int)<=(i64.wrap (b.2.1+1))/\(0:Int)<=b.2.2/\((i64.wrap (b.2.1+1)).toNat<=b.2.2.toNat/\b.2.2.toNat<=a.length)/\KK ((a.drop (i64.wrap (b.2.1+1)).toNat).take (b.2.2.toNat - (i64.wrap (b.2.1+1)).toNat)))else(d ((i64.wrap (b.1 - 1)),b.2.2)))) (fun v4=>e (v4.1,v4.2,(i64.wrap (b.2.2+1)))))else(KK ([]:List UInt8)))) (c,0,1)
def agP(a:Int)(KK:(Lt.Form×Bool)->Prop):Prop:=
 aa (α:=Bool) (fun b=>if decide (1<=a)then(b (decide (a<=21)))else(b false)) (fun d=>if d then(KK ((Lt.Form.mk (Lt.nth (32::97::100::100::32::115::117::98::32::109::117::108::32::100::105::118::32::114::101::109::32::97::110::100::32::111::114::32::120::111::114::32::115::104::108::32::115::104::114::32::101::113::32::110::101::32::108::116::32::108::101::32::102::97::100::100::32::102::115::117::98::32::102::109::117::108::32::102::100::105::118::32::102::101::113::32::102::108::116::32::102::108::101::32::([]:List UInt8)) a) true false 2 2),true))else(aa (α:=Bool) (fun c=>if decide (22<=a)then(c (decide (a<=24)))else(c false)) (fun v4=>if v4 then(KK ((Lt.Form.mk (Lt.nth [32,105,116,111,102,32,102,116,111,105,32,109,111,118,32] (i64.wrap (a - 21))) true false 1 1),true))else(if decide (a=25)then(KK ((Lt.Form.mk [110,101,119] true true 0 8),true))else(if decide (a=26)then(KK ((Lt.Form.mk [108,111,97,100] true true 1 1),true))else(if decide (a=27)then(KK ((Lt.Form.mk [115,116,111,114,101] false true 2 2),true))else(if decide (a=28)then(KK ((Lt.Form.mk [115,97,109,101] true false 2 2),true))else(if decide (a=29)then(KK ((Lt.Form.mk [103,108,111,97,100] true true 0 0),true))else(if decide (a=30)then(KK ((Lt.Form.mk [103,115,116,111,114,101] false true 1 1),true))else(if decide (a=31)then(KK ((Lt.Form.mk [99,97,108,108] true true 0 8),true))else(if decide (a=32)then(KK ((Lt.Form.mk [101,120,116] true true 0 8),true))else(if decide (a=33)then(KK ((Lt.Form.mk [111,117,116] false false 1 1),true))else(if decide (a=34)then(KK ((Lt.Form.mk [103,117,97,114,100] false false 0 0),true))else(KK ((Lt.Form.mk ([]:List UInt8) false false 0 0),false)))))))))))))))
def OX(a:Lt.Frame)(KK:Bool->Prop):Prop:=
 aa (α:=Bool) (fun b=>if !(Lt.Name a.Func)then(b true)else(if !(Lt.Name a.Block)then(b true)else(if decide (a.At < 0)then(b true)else(if decide (1024<a.At)then(b true)else(b (decide (16 < (a.Vars.length:Int)))))))) (fun e=>if e then(KK false)else((a.Vars.length<=4611686018427387904->ab (α:=Int) (fun d v4=>if decide (v4 < (a.Vars.length:Int))then((0<=v4/\v4.toNat<a.Vars.length)/\aa (α:=Bool) (fun c=>if !(Lt.Name ((a.Vars.getD v4.toNat default).Name))then(c true)else(c (!(bG [((a.Vars.getD v4.toNat default).A)] true)))) (fun f=>if f then(KK false)else(d (i64.wrap (v4+1)))))else(KK true)) 0)))
def OY(a:Lt.Instr)(KK:Bool->Prop):Prop:=
 aa (α:=Bool) (fun c=>if !((Lt.Of a.Op).2)then(c true)else(if !(((Lt.Of a.Op).1).Dst==(!decide (a.Dst=([]:List UInt8))))then(c true)else(if !(((Lt.Of a.Op).1).Named==(!decide (a.Name=([]:List UInt8))))then(c true)else(if ((Lt.Of a.Op).1).Dst then(if !(Lt.Name a.Dst)then(c true)else(if ((Lt.Of a.Op).1).Named then(c (!(Lt.Name a.Name)))else(c false)))else(if ((Lt.Of a.Op).1).Named then(c (!(Lt.Name a.Name)))else(c false)))))) (fun l=>if l then(KK false)else(aa (α:=Bool) (fun f=>(a.Args.length<=4611686018427387904->if decide ((a.Args.length:Int) < ((Lt.Of a.Op).1).Least)then(f true)else(if decide (((Lt.Of a.Op).1).Most < (a.Args.length:Int))then(f true)else(if !(bG a.Args false)then(f true)else(if decide (16 < (a.Frames.length:Int))then(f true)else(f (decide (99 < (a.Objs.length:Int))))))))) (fun v4=>if v4 then(KK false)else(aa (α:=Bool) (fun i=>if !decide (a.Op=31)then(i (!decide (a.Op=34)))else(i false)) (fun m=>if m then((a.Frames.length<=4611686018427387904->if decide ((a.Frames.length:Int)=0)then(KK (decide ((a.Objs.length:Int)=0)))else(KK false)))else((a.Frames.length<=4611686018427387904->ab (α:=Int) (fun k e=>if decide (e < (a.Frames.length:Int))then((0<=e/\e.toNat<a.Frames.length)/\if !(Lt.frame (a.Frames.getD e.toNat default))then(KK false)else(k (i64.wrap (e+1))))else((a.Objs.length<=4611686018427387904->ab (α:=Int) (fun j b=>have h:=a.Objs.getD b.toNat default;if decide (b < (a.Objs.length:Int))then((0<=b/\b.toNat<a.Objs.length)/\aa (α:=Bool) (fun d=>if !(Lt.Name (h.Class))then(d true)else(if decide (8 < ((h.Vals).length:Int))then(d true)else(d (!(bG (h.Vals) true))))) (fun g=>if g then(KK false)else(j (i64.wrap (b+1)))))else(KK true)) 0))) 0)))))))
def OV(a:Lt.Block)(KK:Bool->Prop):Prop:=
 aa (α:=Bool) (fun c=>if !(Lt.Name a.Name)then(c true)else(c (!(eY a.End)))) (fun f=>if f then(KK false)else((a.Phis.length<=4611686018427387904->ab (α:=Int) (fun d v4=>if decide (v4 < (a.Phis.length:Int))then((0<=v4/\v4.toNat<a.Phis.length)/\if !(Lt.phi (a.Phis.getD v4.toNat default))then(KK false)else(d (i64.wrap (v4+1))))else((a.Code.length<=4611686018427387904->ab (α:=Int) (fun e b=>if decide (b < (a.Code.length:Int))then((0<=b/\b.toNat<a.Code.length)/\if !(Lt.instr (a.Code.getD b.toNat default))then(KK false)else(e (i64.wrap (b+1))))else(KK true)) 0))) 0)))
def o9(a:Lt.Func)(KK:Bool->Prop):Prop:=
 aa (α:=Bool) (fun c=>if !(Lt.Name a.Name)then(c true)else(if !(Lt.kind a.Result)then(c true)else(if !(Lt.typed a.Params 6)then(c true)else(if !(Lt.typed a.Vars 1024)then(c true)else(if decide ((a.Blocks.length:Int)=0)then(c true)else(c (decide (256 < (a.Blocks.length:Int))))))))) (fun i=>if i then(KK false)else((a.Blocks.length<=4611686018427387904->ab (α:=Int×Int) (fun g v4=>have b:=a.Blocks.getD v4.2.toNat default;have d:=(i64.wrap (v4.1+(i64.wrap (((b.Phis).length:Int)+((b.Code).length:Int)))));if decide (v4.2 < (a.Blocks.length:Int))then((0<=v4.2/\v4.2.toNat<a.Blocks.length)/\aa (α:=Bool) (fun e=>((b.Phis).length<=4611686018427387904->if decide (1024 < ((b.Phis).length:Int))then(e true)else(e (decide (1024 < ((b.Code).length:Int)))))) (fun j=>if j then(KK false)else(((b.Phis).length<=4611686018427387904->((b.Code).length<=4611686018427387904->aa (α:=Bool) (fun f=>if decide (1024<d)then(f true)else(f (!(Lt.block (Lt.Block.mk (b.Name) (b.Phis) (b.Code) (Lt.Term.mk ((b.End).Kind) ((b.End).A) ((b.End).To) ((b.End).N))))))) (fun h=>if h then(KK false)else(g (d,(i64.wrap (v4.2+1))))))))))else(KK true)) (0,0))))
def wR(a:Lt.Program)(KK:Bool->Prop):Prop:=
 aa (α:=Bool) (fun d=>(a.Classes.length<=4611686018427387904->if decide (8 < (a.Classes.length:Int))then(d true)else(if decide (8 < (a.Externs.length:Int))then(d true)else(if decide (8 < (a.Funcs.length:Int))then(d true)else(d (!(Lt.typed a.Globals 8))))))) (fun l=>if l then(KK false)else((a.Classes.length<=4611686018427387904->ab (α:=Int) (fun j v4=>if decide (v4 < (a.Classes.length:Int))then((0<=v4/\v4.toNat<a.Classes.length)/\aa (α:=Bool) (fun i=>if !(Lt.Name ((a.Classes.getD v4.toNat default).Name))then(i true)else(i (!(Lt.typed ((a.Classes.getD v4.toNat default).Fields) 8)))) (fun m=>if m then(KK false)else(j (i64.wrap (v4+1)))))else((a.Externs.length<=4611686018427387904->ab (α:=Int) (fun k c=>have g:=a.Externs.getD c.toNat default;if decide (c < (a.Externs.length:Int))then((0<=c/\c.toNat<a.Externs.length)/\aa (α:=Bool) (fun e=>if !(Lt.Name (g.Name))then(e true)else(if decide (g.N < 0)then(e true)else(e (decide (8<g.N))))) (fun f=>if f then(KK false)else(k (i64.wrap (c+1)))))else((a.Funcs.length<=4611686018427387904->ab (α:=Int) (fun h b=>if decide (b < (a.Funcs.length:Int))then((0<=b/\b.toNat<a.Funcs.length)/\if !(aG (a.Funcs.getD b.toNat default))then(KK false)else(h (i64.wrap (b+1))))else(KK true)) 0))) 0))) 0)))
def OU(a:Lt.Func)(KK:(List (Option (List (a8×Bool))))->Prop):Prop:=
 have z5:=(a.Blocks.length:Int);have q:=((0:Int)<=z5/\z5<=4611686018427387904/\8*z5.toNat<=281474976710656);(r6 a)/\(uP (jl a))/\(AT (jl a))/\(∀g:List Int,DD (jl a) g->(a.Blocks.length<=4611686018427387904->q/\(a.Blocks.length<=4611686018427387904->q/\ab (α:=List (Option (List (a8×Bool)))×List (Option (List (a8×Bool)))×Bool) (fun t v3=>if v3.2.2 then((g.length<=4611686018427387904->ab (α:=List (Option (List (a8×Bool)))×List (Option (List (a8×Bool)))×Bool×Int) (fun v v5=>have b:=g.getD v5.2.2.2.toNat default;have n:=((0:Int)<=b/\b < ((v5.1.length:Nat):Int));have k:=(ib (jl a)).getD b.toNat [];have z4:=a.Blocks.getD b.toNat default;have d:=Lt.Block.mk (z4.Name) (z4.Phis) (z4.Code) (Lt.Term.mk ((z4.End).Kind) ((z4.End).A) ((z4.End).To) ((z4.End).N));if decide (v5.2.2.2 < (g.length:Int))then((0<=v5.2.2.2/\v5.2.2.2.toNat<g.length)/\aa (α:=Option (List (a8×Bool))) (fun p=>if decide (b=0)then(p (Ih a))else(p none)) (fun r=>(0<=b/\b.toNat < (ib (jl a)).length)/\(k.length<=4611686018427387904->ab (α:=Option (List (a8×Bool))×Int) (fun u v9=>have z3:=k.getD v9.2.toNat default;if decide (v9.2 < (k.length:Int))then(aa (α:=Option (List (a8×Bool))) (fun e=>(0<=v9.2/\v9.2.toNat<k.length)/\((0:Int)<=z3/\z3 < ((v5.2.1.length:Nat):Int))/\if !(v5.2.1.getD z3.toNat default).isNone then(((0:Int)<=z3/\z3 < ((v5.2.1.length:Nat):Int))/\(Qj v9.1 (v5.2.1.getD z3.toNat default))/\(∀j:Option (List (a8×Bool)),KB v9.1 (v5.2.1.getD z3.toNat default) j->e j))else(e v9.1)) (fun l=>u (l,(i64.wrap (v9.2+1)))))else(aa (α:=Option (List (a8×Bool))) (fun f=>if v9.1.isNone then(f (some []))else(f v9.1)) (fun c=>(0<=b/\b.toNat<a.Blocks.length)/\(xn c d)/\aa (α:=Bool) (fun i=>aa (α:=Bool) (fun h=>n/\if (v5.1.getD b.toNat default).isNone then(h true)else(n/\((v5.1.getD b.toNat default).getD []).length<=4611686018427387904/\((mr c d).getD []).length<=4611686018427387904/\h (!decide ((((v5.1.getD b.toNat default).getD []).length:Int)=(((mr c d).getD []).length:Int))))) (fun o=>if o then(i true)else(i v5.2.2.1))) (fun m=>(0<=b/\b.toNat<a.Blocks.length)/\(xn (mr c d) d)/\n/\b.toNat<v5.1.length/\((0:Int)<=b/\b < ((v5.2.1.length:Nat):Int))/\b.toNat<v5.2.1.length/\v ((v5.1.set b.toNat (mr c d)),(v5.2.1.set b.toNat (iH (mr c d) d)),m,(i64.wrap (v5.2.2.2+1))))))) (r,0))))else(t (v5.1,v5.2.1,v5.2.2.1))) (v3.1,v3.2.1,false,0)))else(KK v3.1)) ((List.replicate z5.toNat (dflt (.mp .s .bo))),(List.replicate z5.toNat (dflt (.mp .s .bo))),true))))
def Cr(a:Lt.Func)(KK:Bool->Prop):Prop:=
 (uN a)/\(∀d:List (Option (List (a8×Bool))),uK a d->(d.length<=4611686018427387904->ab (α:=Int×List (a8×(Option (List (a8×Bool))))) (fun f v3=>have z4:=d.getD v3.1.toNat default;have z3:=(0<=v3.1/\v3.1.toNat<a.Blocks.length);have b:=a.Blocks.getD v3.1.toNat default;have c:=Lt.Block.mk (b.Name) (b.Phis) (b.Code) (Lt.Term.mk ((b.End).Kind) ((b.End).A) ((b.End).To) ((b.End).N));if decide (v3.1 < (d.length:Int))then(aa (α:=List (a8×(Option (List (a8×Bool))))) (fun e=>(0<=v3.1/\v3.1.toNat<d.length)/\z3/\(XY z4 c)/\if !(nS z4 c)then(KK false)else(z3/\(z3/\(xn z4 c)/\e (cQ .s v3.2 (b.Name) (iH z4 c)))/\((xn z4 c)/\z3/\e (cQ .s v3.2 (b.Name) (iH z4 c))))) (fun v5=>f ((i64.wrap (v3.1+1)),v5)))else(KK (zg a (some v3.2)))) (0,[])))
def Cp(d:Option (List (a8×Bool)))(a:Lt.Block)(KK:Bool->Prop):Prop:=
 d.isSome=true/\(a.Code.length<=4611686018427387904->ab (α:=Int×List (a8×Bool)) (fun k c=>have f:=a.Code.getD c.1.toNat default;if decide (c.1 < (a.Code.length:Int))then(aa (α:=List (a8×Bool)) (fun h=>(0<=c.1/\c.1.toNat<a.Code.length)/\aa (α:=Bool) (fun i=>(io f)/\(∀e:List a8,uL f e->(e.length<=4611686018427387904->ab (α:=Int) (fun j v9=>if decide (v9 < (e.length:Int))then((0<=v9/\v9.toNat<e.length)/\if !((aL (β:=Bool) .s c.2 (e.getD v9.toNat default)).getD (dflt .bo))then(i true)else(j (i64.wrap (v9+1))))else(i false)) 0))) (fun l=>if l then(KK false)else(if !decide (f.Dst=([]:List UInt8))then(h (cQ .s c.2 (f.Dst) true))else(h c.2)))) (fun v4=>k ((i64.wrap (c.1+1)),v4)))else(aa (α:=Bool) (fun b=>if !decide (a.End.Kind=2)then(if !decide (a.End.Kind=3)then(b true)else(if !decide (a.End.A.Kind=1)then(b true)else(b ((aL (β:=Bool) .s c.2 a.End.A.S).getD (dflt .bo)))))else(if !decide (a.End.A.Kind=1)then(b true)else(b ((aL (β:=Bool) .s c.2 a.End.A.S).getD (dflt .bo))))) (fun g=>KK g))) (0,(d.getD [])))
def Gi(a:Lt.Func)(b:Option (List (a8×(Option (List (a8×Bool))))))(KK:Bool->Prop):Prop:=
 (a.Blocks.length<=4611686018427387904->ab (α:=Int) (fun k d=>have c:=a.Blocks.getD d.toNat default;if decide (d < (a.Blocks.length:Int))then((0<=d/\d.toNat<a.Blocks.length)/\((c.Phis).length<=4611686018427387904->ab (α:=Int) (fun h v4=>have g:=((c.Phis).getD v4.toNat default).Ins;if decide (v4 < ((c.Phis).length:Int))then((0<=v4/\v4.toNat < (c.Phis).length)/\(g.length<=4611686018427387904->ab (α:=Int) (fun i e=>have z4:=g.getD e.toNat default;have z3:=aL (β:=Option (List (a8×Bool))) .s (b.getD []) (z4.Block);if decide (e < (g.length:Int))then((0<=e/\e.toNat<g.length)/\aa (α:=Bool) (fun f=>if z3.isSome then(if xV a (z4.Block) (c.Name)then(if !decide ((z4.A).Kind=1)then(f false)else(f (!((aL (β:=Bool) .s ((z3.getD (dflt (.mp .s .bo))).getD []) ((z4.A).S)).getD (dflt .bo)))))else(f false))else(f false)) (fun j=>if j then(KK false)else(i (i64.wrap (e+1)))))else(h (i64.wrap (v4+1)))) 0))else(k (i64.wrap (d+1)))) 0))else(KK true)) 0)
def Cq(a:Lt.Func)(b:a8)(c:a8)(KK:Bool->Prop):Prop:=
 (a.Blocks.length<=4611686018427387904->ab (α:=Int) (fun e d=>if decide (d < (a.Blocks.length:Int))then((0<=d/\d.toNat<a.Blocks.length)/\if decide ((a.Blocks.getD d.toNat default).Name=b)then(KK (vW (((a.Blocks.getD d.toNat default).End).To) c))else(e (i64.wrap (d+1))))else(KK false)) 0)
def Gm(a:Lt.Instr)(KK:(List a8)->Prop):Prop:=
 (a.Args.length<=4611686018427387904->ab (α:=Int×List (a8×Bool)) (fun r d=>if decide (d.1 < (a.Args.length:Int))then(aa (α:=List (a8×Bool)) (fun p=>(0<=d.1/\d.1.toNat<a.Args.length)/\if decide ((a.Args.getD d.1.toNat default).Kind=1)then(p (cQ .s d.2 ((a.Args.getD d.1.toNat default).S) true))else(p d.2)) (fun v4=>r ((i64.wrap (d.1+1)),v4)))else((a.Frames.length<=4611686018427387904->ab (α:=Int×List (a8×Bool)) (fun q f=>have g:=(a.Frames.getD f.1.toNat default).Vars;if decide (f.1 < (a.Frames.length:Int))then((0<=f.1/\f.1.toNat<a.Frames.length)/\(g.length<=4611686018427387904->ab (α:=Int×List (a8×Bool)) (fun t e=>if decide (e.1 < (g.length:Int))then(aa (α:=List (a8×Bool)) (fun o=>(0<=e.1/\e.1.toNat<g.length)/\if decide (((g.getD e.1.toNat default).A).Kind=1)then(o (cQ .s e.2 (((g.getD e.1.toNat default).A).S) true))else(o e.2)) (fun n=>t ((i64.wrap (e.1+1)),n)))else(q ((i64.wrap (f.1+1)),e.2))) (0,f.2)))else((a.Objs.length<=4611686018427387904->ab (α:=Int×List (a8×Bool)) (fun l c=>have h:=(a.Objs.getD c.1.toNat default).Vals;if decide (c.1 < (a.Objs.length:Int))then((0<=c.1/\c.1.toNat<a.Objs.length)/\(h.length<=4611686018427387904->ab (α:=Int×List (a8×Bool)) (fun k b=>if decide (b.1 < (h.length:Int))then(aa (α:=List (a8×Bool)) (fun i=>(0<=b.1/\b.1.toNat<h.length)/\if decide ((h.getD b.1.toNat default).Kind=1)then(i (cQ .s b.2 ((h.getD b.1.toNat default).S) true))else(i b.2)) (fun m=>k ((i64.wrap (b.1+1)),m)))else(l ((i64.wrap (c.1+1)),b.2))) (0,c.2)))else((ld (some c.2))/\(∀j:List a8,iS (some c.2) j->KK j))) (0,f.2)))) (0,d.2)))) (0,[]))
def yE(a:Lt.Program)(KK:Int->Prop):Prop:=
 have z3:=(([(Lt.Asked.mk (Lt.Clo.mk 18 [.Program a]) 3),(Lt.Asked.mk (Lt.Clo.mk 21 [.Program a]) 2),(Lt.Asked.mk (Lt.Clo.mk 23 [.Program a]) 4)].length:Nat):Int);([(Lt.Asked.mk (Lt.Clo.mk 18 [.Program a]) 3),(Lt.Asked.mk (Lt.Clo.mk 21 [.Program a]) 2),(Lt.Asked.mk (Lt.Clo.mk 23 [.Program a]) 4)].length<=4611686018427387904->((0:Int)<=0/\0<z3)/\if aX a then(if !(iW a)then(KK 3)else(((0:Int)<=1/\1<z3)/\(DE a)/\if !(ia a)then(KK 2)else(((0:Int)<=2/\2<z3)/\(jp a)/\if !(fI a)then(KK 4)else((a.Funcs.length<=4611686018427387904->ab (α:=Int) (fun e c=>have b:=a.Funcs.getD c.toNat default;have d:=(([(Lt.Asked.mk (Lt.Clo.mk 25 [.Func b]) 5),(Lt.Asked.mk (Lt.Clo.mk 27 [.Program a,.Func b]) 4),(Lt.Asked.mk (Lt.Clo.mk 29 [.Func b]) 4)].length:Nat):Int);if decide (c < (a.Funcs.length:Int))then((0<=c/\c.toNat<a.Funcs.length)/\([(Lt.Asked.mk (Lt.Clo.mk 25 [.Func b]) 5),(Lt.Asked.mk (Lt.Clo.mk 27 [.Program a,.Func b]) 4),(Lt.Asked.mk (Lt.Clo.mk 29 [.Func b]) 4)].length<=4611686018427387904->((0:Int)<=0/\0<d)/\(X3 b)/\if !(di b)then(KK 5)else(((0:Int)<=1/\1<d)/\(lf a b)/\if !(jW a b)then(KK 4)else(((0:Int)<=2/\2<d)/\(NY b)/\if !(gk b)then(KK 4)else(e (i64.wrap (c+1)))))))else(KK 0)) 0)))))else(KK 3))
def CH(a:Lt.Func)(b:a8)(KK:(Int×Bool)->Prop):Prop:=
 (a.Blocks.length<=4611686018427387904->ab (α:=Int) (fun d c=>if decide (c < (a.Blocks.length:Int))then((0<=c/\c.toNat<a.Blocks.length)/\if decide ((a.Blocks.getD c.toNat default).Name=b)then(KK (c,true))else(d (i64.wrap (c+1))))else(KK (0,false))) 0)
def OZ(a:List Int)(c:Int)(KK:Int->Prop):Prop:=
 (a.length<=4611686018427387904->ab (α:=Int) (fun d b=>if decide (b < (a.length:Int))then((0<=b/\b.toNat<a.length)/\if decide (c=(a.getD b.toNat default))then(KK b)else(d (i64.wrap (b+1))))else(KK (-1))) 0)
def UM(b:List Int)(a:Int)(KK:Bool->Prop):Prop:=
 KK (decide (0<=(Jq b a)))
def O0(a:List a8)(c:a8)(KK:Int->Prop):Prop:=
 (a.length<=4611686018427387904->ab (α:=Int) (fun d b=>if decide (b < (a.length:Int))then((0<=b/\b.toNat<a.length)/\if decide (c=(a.getD b.toNat default))then(KK b)else(d (i64.wrap (b+1))))else(KK (-1))) 0)
def UN(b:List a8)(a:a8)(KK:Bool->Prop):Prop:=
 KK (decide (0<=(Jr b a)))
def UL(a:Lt.Func)(KK:(List (List Int))->Prop):Prop:=
 have z3:=(a.Blocks.length:Int);(a.Blocks.length<=4611686018427387904->((0:Int)<=z3/\z3<=4611686018427387904/\24*z3.toNat<=281474976710656)/\(a.Blocks.length<=4611686018427387904->ab (α:=List (List Int)×Int) (fun g b=>have d:=((a.Blocks.getD b.2.toNat default).End).To;if decide (b.2<z3)then((0<=b.2/\b.2.toNat<a.Blocks.length)/\(d.length<=4611686018427387904->ab (α:=List (List Int)×Int) (fun f v4=>have c:=aI a (d.getD v4.2.toNat default);if decide (v4.2 < (d.length:Int))then(aa (α:=List (List Int)) (fun e=>(0<=v4.2/\v4.2.toNat<d.length)/\if c.2 then(((0:Int)<=b.2/\b.2 < ((v4.1.length:Nat):Int))/\((v4.1.getD b.2.toNat []).length+([c.1]:List Int).length<=4611686018427387904/\((v4.1.getD b.2.toNat []).length+([c.1]:List Int).length)*8<=140737488355328)/\((0:Int)<=b.2/\b.2 < ((v4.1.length:Nat):Int))/\b.2.toNat<v4.1.length/\b.2.toNat=b.2.toNat/\e (v4.1.set b.2.toNat ((v4.1.getD b.2.toNat [])++([c.1]:List Int))))else(e v4.1)) (fun h=>f (h,(i64.wrap (v4.2+1)))))else(g (v4.1,(i64.wrap (b.2+1))))) (b.1,0)))else(KK b.1)) ((List.replicate z3.toNat (dflt (.sl (.i .i64)))),0)))
def Cw(a:List (List Int))(KK:(List (List Int))->Prop):Prop:=
 (a.length<=4611686018427387904->((0:Int)<=(a.length:Int)/\(a.length:Int)<=4611686018427387904/\24*(a.length:Int).toNat<=281474976710656)/\(a.length<=4611686018427387904->ab (α:=List (List Int)×Int) (fun j c=>have z3:=a.getD c.2.toNat [];if decide (c.2 < (a.length:Int))then((0<=c.2/\c.2.toNat<a.length)/\(z3.length<=4611686018427387904->ab (α:=List (List Int)×Int) (fun g v4=>have b:=z3.getD v4.2.toNat default;have d:=((0:Int)<=b/\b < ((v4.1.length:Nat):Int));if decide (v4.2 < (z3.length:Int))then(aa (α:=List (List Int)) (fun f=>(0<=v4.2/\v4.2.toNat<z3.length)/\aa (α:=Bool) (fun e=>if decide (0<=b)then(if decide (b < (a.length:Int))then(d/\True/\e (!(Ab (v4.1.getD b.toNat []) c.2)))else(e false))else(e false)) (fun h=>if h then(d/\((v4.1.getD b.toNat []).length+([c.2]:List Int).length<=4611686018427387904/\((v4.1.getD b.toNat []).length+([c.2]:List Int).length)*8<=140737488355328)/\d/\b.toNat<v4.1.length/\b.toNat=b.toNat/\f (v4.1.set b.toNat ((v4.1.getD b.toNat [])++([c.2]:List Int))))else(f v4.1))) (fun k=>g (k,(i64.wrap (v4.2+1)))))else(j (v4.1,(i64.wrap (c.2+1))))) (c.1,0)))else(KK c.1)) ((List.replicate (a.length:Int).toNat (dflt (.sl (.i .i64)))),0)))
def yD(a:Lt.Func)(KK:(Option (List (a8×Bool)))->Prop):Prop:=
 (a.Params.length<=4611686018427387904->ab (α:=Int×List (a8×Bool)) (fun c b=>if decide (b.1 < (a.Params.length:Int))then((0<=b.1/\b.1.toNat<a.Params.length)/\c ((i64.wrap (b.1+1)),(cQ .s b.2 ((a.Params.getD b.1.toNat default).Name) true)))else(KK (some b.2))) (0,[]))
def Gg(b:Option (List (a8×Bool)))(a:Lt.Block)(KK:(Option (List (a8×Bool)))->Prop):Prop:=
 b.isSome=true/\(a.Phis.length<=4611686018427387904->ab (α:=Int×List (a8×Bool)) (fun d c=>if decide (c.1 < (a.Phis.length:Int))then((0<=c.1/\c.1.toNat<a.Phis.length)/\d ((i64.wrap (c.1+1)),(cQ .s c.2 ((a.Phis.getD c.1.toNat default).Dst) true)))else(KK (some c.2))) (0,(b.getD [])))
def Gf(c:Option (List (a8×Bool)))(a:Lt.Block)(KK:(Option (List (a8×Bool)))->Prop):Prop:=
 c.isSome=true/\(a.Code.length<=4611686018427387904->ab (α:=Int×List (a8×Bool)) (fun e b=>if decide (b.1 < (a.Code.length:Int))then(aa (α:=List (a8×Bool)) (fun d=>(0<=b.1/\b.1.toNat<a.Code.length)/\if !decide ((a.Code.getD b.1.toNat default).Dst=([]:List UInt8))then(d (cQ .s b.2 ((a.Code.getD b.1.toNat default).Dst) true))else(d b.2)) (fun v4=>e ((i64.wrap (b.1+1)),v4)))else(KK (some b.2))) (0,(c.getD [])))
def Gh(c:Option (List (a8×Bool)))(b:Option (List (a8×Bool)))(KK:(Option (List (a8×Bool)))->Prop):Prop:=
 if c.isNone then(KK b)else(ab (α:=List (a8×Bool)×List (a8×Bool)) (fun e a=>(a.2=[]->KK (some a.1))/\∀d:Nat,d<a.2.length->if (aL (β:=Bool) .s (b.getD []) ((a.2.getD d default).1)).getD (dflt .bo)then(e ((cQ .s a.1 ((a.2.getD d default).1) true),(a.2.eraseIdx d)))else(e (a.1,(a.2.eraseIdx d)))) ([],(c.getD [])))
def CF(a:Lt.Func)(KK:Bool->Prop):Prop:=
 have g:=(a.Blocks.length:Int);(a.Blocks.length<=4611686018427387904->if decide (g=0)then(KK false)else((a.Blocks.length<=4611686018427387904->(a.Blocks.length<=4611686018427387904->ab (α:=Int×List (a8×Int)) (fun w d=>if decide (d.1<g)then((0<=d.1/\d.1.toNat<a.Blocks.length)/\if (aL (β:=Int) .s d.2 ((a.Blocks.getD d.1.toNat default).Name)).isSome then(KK false)else(w ((i64.wrap (d.1+1)),(cQ .s d.2 ((a.Blocks.getD d.1.toNat default).Name) d.1))))else((a.Blocks.length<=4611686018427387904->ab (α:=Int) (fun x v4=>have z5:=((a.Blocks.getD v4.toNat default).End).To;if decide (v4<g)then((0<=v4/\v4.toNat<a.Blocks.length)/\(z5.length<=4611686018427387904->ab (α:=Int×List (a8×Bool)) (fun u j=>have n:=z5.getD j.1.toNat default;if decide (j.1 < (z5.length:Int))then((0<=j.1/\j.1.toNat<z5.length)/\aa (α:=Bool) (fun q=>if !((aL (β:=Int) .s d.2 n).isSome)then(q true)else(if decide (((aL (β:=Int) .s d.2 n).getD (dflt (.i .i64)))=0)then(q true)else(q ((aL (β:=Bool) .s j.2 n).getD (dflt .bo))))) (fun v=>if v then(KK false)else(u ((i64.wrap (j.1+1)),(cQ .s j.2 n true)))))else(x (i64.wrap (v4+1)))) (0,[])))else(if false then(KK false)else((a.Blocks.length<=4611686018427387904->((0:Int)<=g/\g<=4611686018427387904/\1*g.toNat<=281474976710656)/\((0:Int)<=0/\0 < (((List.replicate g.toNat (dflt .bo)).length:Nat):Int))/\0 < (List.replicate g.toNat (dflt .bo)).length/\ab (α:=List Bool×List Int) (fun t c=>have z4:=(i64.wrap ((c.2.length:Int) - 1));have z3:=(a.Blocks.getD (c.2.getD z4.toNat default).toNat default);(c.2.length<=4611686018427387904->if decide (0 < (c.2.length:Int))then(aa (α:=Lt.Block) (fun p=>have k:=(((0:Int)<=(c.2.getD z4.toNat default)/\(c.2.getD z4.toNat default).toNat<a.Blocks.length)/\p (Lt.Block.mk (z3.Name) (z3.Phis) (z3.Code) (Lt.Term.mk ((z3.End).Kind) ((z3.End).A) ((z3.End).To) ((z3.End).N))));(c.2.length<=4611686018427387904->((0:Int)<=z4/\z4 < ((c.2.length:Nat):Int))/\(k/\k)/\(k/\k)/\k)) (fun h=>(c.2.length<=4611686018427387904->(0<=z4/\z4.toNat<=c.2.length)/\(h.End.To.length<=4611686018427387904->ab (α:=List Bool×List Int×Int) (fun o b=>have f:=(aL (β:=Int) .s d.2 (h.End.To.getD b.2.2.toNat default)).getD (dflt (.i .i64));if decide (b.2.2 < (h.End.To.length:Int))then(aa (α:=List Bool×List Int) (fun m=>(0<=b.2.2/\b.2.2.toNat<h.End.To.length)/\((0:Int)<=f/\f < ((b.1.length:Nat):Int))/\if !(b.1.getD f.toNat default)then(((0:Int)<=f/\f < ((b.1.length:Nat):Int))/\f.toNat<b.1.length/\(b.2.1.length+([f]:List Int).length<=4611686018427387904/\(b.2.1.length+([f]:List Int).length)*8<=140737488355328)/\m ((b.1.set f.toNat true),(b.2.1++([f]:List Int))))else(m (b.1,b.2.1))) (fun l=>o (l.1,l.2,(i64.wrap (b.2.2+1)))))else(t (b.1,b.2.1))) (c.1,(c.2.take z4.toNat),0)))))else((c.1.length<=4611686018427387904->ab (α:=Int) (fun r e=>if decide (e < (c.1.length:Int))then(((0:Int)<=e/\e < ((c.1.length:Nat):Int))/\if !(c.1.getD e.toNat default)then(KK false)else(r (i64.wrap (e+1))))else(KK true)) 0)))) (((List.replicate g.toNat (dflt .bo)).set 0 true),[0]))))) 0))) (0,[])))))
def GM(a:Lt.Program)(b:a8)(KK:(Lt.Class×Bool)->Prop):Prop:=
 (a.Classes.length<=4611686018427387904->ab (α:=Int) (fun d c=>if decide (c < (a.Classes.length:Int))then((0<=c/\c.toNat<a.Classes.length)/\if decide ((a.Classes.getD c.toNat default).Name=b)then(KK ((a.Classes.getD c.toNat default),true))else(d (i64.wrap (c+1))))else(KK ((Lt.Class.mk ([]:List UInt8) []),false))) 0)
def Pg(a:Lt.Program)(b:a8)(KK:(Lt.Func×Bool)->Prop):Prop:=
 (a.Funcs.length<=4611686018427387904->ab (α:=Int) (fun d c=>if decide (c < (a.Funcs.length:Int))then((0<=c/\c.toNat<a.Funcs.length)/\if decide ((a.Funcs.getD c.toNat default).Name=b)then(KK ((a.Funcs.getD c.toNat default),true))else(d (i64.wrap (c+1))))else(KK ((Lt.Func.mk ([]:List UInt8) ([]:List UInt8) [] [] []),false))) 0)
def CM(a:Lt.Program)(b:a8)(KK:(Lt.Var×Bool)->Prop):Prop:=
 (a.Globals.length<=4611686018427387904->ab (α:=Int) (fun d c=>if decide (c < (a.Globals.length:Int))then((0<=c/\c.toNat<a.Globals.length)/\if decide ((a.Globals.getD c.toNat default).Name=b)then(KK ((a.Globals.getD c.toNat default),true))else(d (i64.wrap (c+1))))else(KK ((Lt.Var.mk ([]:List UInt8) ([]:List UInt8)),false))) 0)
def CJ(a:Lt.Program)(b:a8)(KK:(Lt.Extern×Bool)->Prop):Prop:=
 (a.Externs.length<=4611686018427387904->ab (α:=Int) (fun d c=>if decide (c < (a.Externs.length:Int))then((0<=c/\c.toNat<a.Externs.length)/\if decide ((a.Externs.getD c.toNat default).Name=b)then(KK ((a.Externs.getD c.toNat default),true))else(d (i64.wrap (c+1))))else(KK ((Lt.Extern.mk ([]:List UInt8) 0),false))) 0)
def wT(a:Lt.Func)(b:a8)(KK:(Lt.Var×Bool)->Prop):Prop:=
 aa (α:=Bool×Lt.Var) (fun e=>(a.Params.length<=4611686018427387904->ab (α:=Int) (fun f v4=>if decide (v4 < (a.Params.length:Int))then((0<=v4/\v4.toNat<a.Params.length)/\if decide ((a.Params.getD v4.toNat default).Name=b)then(e (true,(a.Params.getD v4.toNat default)))else(f (i64.wrap (v4+1))))else(e (false,(Lt.Var.mk ([]:List UInt8) ([]:List UInt8))))) 0)) (fun d=>if d.1 then(KK (d.2,true))else((a.Vars.length<=4611686018427387904->ab (α:=Int) (fun g c=>if decide (c < (a.Vars.length:Int))then((0<=c/\c.toNat<a.Vars.length)/\if decide ((a.Vars.getD c.toNat default).Name=b)then(KK ((a.Vars.getD c.toNat default),true))else(g (i64.wrap (c+1))))else(KK ((Lt.Var.mk ([]:List UInt8) ([]:List UInt8)),false))) 0)))
def GN(b:Lt.Program)(a:a8)(c:a8)(KK:(Lt.Var×Bool)->Prop):Prop:=
 if !((bm b a).2)then(KK ((Lt.Var.mk ([]:List UInt8) ([]:List UInt8)),false))else(((((bm b a).1).Fields).length<=4611686018427387904->ab (α:=Int) (fun e d=>if decide (d < ((((bm b a).1).Fields).length:Int))then((0<=d/\d.toNat < (((bm b a).1).Fields).length)/\if decide (((((bm b a).1).Fields).getD d.toNat default).Name=c)then(KK (((((bm b a).1).Fields).getD d.toNat default),true))else(e (i64.wrap (d+1))))else(KK ((Lt.Var.mk ([]:List UInt8) ([]:List UInt8)),false))) 0))
def ac8(b:Lt.Func)(a:Lt.Arg)(KK:(a8×Bool)->Prop):Prop:=
 if decide (a.Kind=1)then(KK (((gR b a.S).1).Type_,(gR b a.S).2))else(if decide (a.Kind=2)then(KK ([105,110,116],true))else(if decide (a.Kind=3)then(KK ([102,108,111,97,116],true))else(if decide (a.Kind=4)then(KK ([110,117,108,108],true))else(KK (([]:List UInt8),false)))))
def U2(a:a8)(KK:Bool->Prop):Prop:=
 if !decide (a=[105,110,116])then(KK (!decide (a=[102,108,111,97,116])))else(KK false)
def Pf(a:a8)(b:a8)(KK:Bool->Prop):Prop:=
 aa (α:=Bool) (fun c=>if decide (a=b)then(c true)else(if decide (a=[110,117,108,108])then(c (gQ b))else(c false))) (fun d=>KK d)
def U1(a:List a8)(b:List Lt.Var)(KK:Bool->Prop):Prop:=
 (a.length<=4611686018427387904->(b.length<=4611686018427387904->if !decide ((a.length:Int)=(b.length:Int))then(KK false)else((a.length<=4611686018427387904->ab (α:=Int) (fun d c=>if decide (c < (a.length:Int))then((0<=c/\c.toNat<a.length)/\(0<=c/\c.toNat<b.length)/\if !(eD (a.getD c.toNat default) ((b.getD c.toNat default).Type_))then(KK false)else(d (i64.wrap (c+1))))else(KK true)) 0))))
def GQ(b:Lt.Program)(a:a8)(KK:Bool->Prop):Prop:=
 aa (α:=Bool) (fun c=>if decide (a=[105,110,116])then(c true)else(if decide (a=[102,108,111,97,116])then(c true)else(c ((bm b a).2)))) (fun d=>KK d)
def wS(b:Lt.Program)(a:List Lt.Var)(KK:Bool->Prop):Prop:=
 (a.length<=4611686018427387904->ab (α:=Int) (fun e c=>if decide (c < (a.length:Int))then((0<=c/\c.toNat<a.length)/\if !(gG b ((a.getD c.toNat default).Type_))then(KK false)else(e (i64.wrap (c+1))))else((a.length<=4611686018427387904->ab (α:=Int×List (a8×Bool)) (fun d v4=>if decide (v4.1 < (a.length:Int))then((0<=v4.1/\v4.1.toNat<a.length)/\if (aL (β:=Bool) .s v4.2 ((a.getD v4.1.toNat default).Name)).getD (dflt .bo)then(KK false)else(d ((i64.wrap (v4.1+1)),(cQ .s v4.2 ((a.getD v4.1.toNat default).Name) true))))else(KK true)) (0,[])))) 0)
def GO(a:Lt.Program)(KK:Bool->Prop):Prop:=
 aa (α:=Bool) (fun i=>(a.Classes.length<=4611686018427387904->ab (α:=Int×List (a8×Bool)) (fun n v4=>if decide (v4.1 < (a.Classes.length:Int))then((0<=v4.1/\v4.1.toNat<a.Classes.length)/\if (aL (β:=Bool) .s v4.2 ((a.Classes.getD v4.1.toNat default).Name)).getD (dflt .bo)then(i true)else(n ((i64.wrap (v4.1+1)),(cQ .s v4.2 ((a.Classes.getD v4.1.toNat default).Name) true))))else((a.Externs.length<=4611686018427387904->ab (α:=Int×List (a8×Bool)) (fun o f=>if decide (f.1 < (a.Externs.length:Int))then((0<=f.1/\f.1.toNat<a.Externs.length)/\if (aL (β:=Bool) .s f.2 ((a.Externs.getD f.1.toNat default).Name)).getD (dflt .bo)then(i true)else(o ((i64.wrap (f.1+1)),(cQ .s f.2 ((a.Externs.getD f.1.toNat default).Name) true))))else((a.Funcs.length<=4611686018427387904->ab (α:=Int×List (a8×Bool)) (fun q e=>if decide (e.1 < (a.Funcs.length:Int))then((0<=e.1/\e.1.toNat<a.Funcs.length)/\if (aL (β:=Bool) .s e.2 ((a.Funcs.getD e.1.toNat default).Name)).getD (dflt .bo)then(i true)else(q ((i64.wrap (e.1+1)),(cQ .s e.2 ((a.Funcs.getD e.1.toNat default).Name) true))))else(i (!(cD a a.Globals)))) (0,[])))) (0,[])))) (0,[]))) (fun r=>if r then(KK false)else((a.Classes.length<=4611686018427387904->ab (α:=Int) (fun p b=>if decide (b < (a.Classes.length:Int))then((0<=b/\b.toNat<a.Classes.length)/\if !(cD a ((a.Classes.getD b.toNat default).Fields))then(KK false)else(p (i64.wrap (b+1))))else((a.Funcs.length<=4611686018427387904->ab (α:=Int) (fun j c=>have d:=a.Funcs.getD c.toNat default;if decide (c < (a.Funcs.length:Int))then((0<=c/\c.toNat<a.Funcs.length)/\aa (α:=List Lt.Var) (fun k=>have g:=((([]:List Lt.Var).length+(d.Params).length<=4611686018427387904/\(([]:List Lt.Var).length+(d.Params).length)*32<=140737488355328)/\((d.Params).length+(d.Vars).length<=4611686018427387904/\((d.Params).length+(d.Vars).length)*32<=140737488355328)/\k ((d.Params)++(d.Vars)));(g/\g)/\((g/\g)/\g)/\(g/\g)) (fun l=>aa (α:=Bool) (fun h=>if !(gG a (d.Result))then(h true)else(h (!(cD a l)))) (fun m=>if m then(KK false)else(j (i64.wrap (c+1))))))else(KK true)) 0))) 0)))
def Ph(b:a8)(a:a8)(KK:Bool->Prop):Prop:=
 aa (α:=Bool) (fun c=>if gQ b then(if gQ a then(if decide (b=a)then(c true)else(if decide (b=[110,117,108,108])then(c true)else(c (decide (a=[110,117,108,108])))))else(c false))else(c false)) (fun d=>KK d)
def Pi(a:Lt.asked)(b:a8)(c:a8)(KK:Bool->Prop):Prop:=
 (a.args.length<=4611686018427387904->ab (α:=Int) (fun e d=>if decide (d < (a.args.length:Int))then((0<=d/\d.toNat<a.args.length)/\if !decide ((a.args.getD d.toNat default)=b)then(KK false)else(e (i64.wrap (d+1))))else(KK (decide (a.dst=c)))) 0)
def GR(a:Lt.asked)(KK:Bool->Prop):Prop:=
 aa (α:=Bool) (fun b=>if (bm a.p a.i.Name).2 then(if decide (a.dst=((bm a.p a.i.Name).1).Name)then(if decide ((a.args.length:Int)=0)then(b true)else(b (gC a.args (((bm a.p a.i.Name).1).Fields))))else(b false))else(b false)) (fun c=>KK c)
def CN(a:Lt.asked)(KK:(Lt.Var×Bool)->Prop):Prop:=
 ((0:Int)<=0/\0<a.i.Args.length)/\if !decide ((a.i.Args.getD 0 default).Kind=1)then(KK ((Lt.Var.mk ([]:List UInt8) ([]:List UInt8)),false))else(((0:Int)<=0/\0<a.args.length)/\KK (((oI a.p (a.args.getD 0 default) a.i.Name).1),(oI a.p (a.args.getD 0 default) a.i.Name).2))
def yN(a:Lt.asked)(KK:Bool->Prop):Prop:=
 if decide (a.i.Op=29)then(if (fq a.p a.i.Name).2 then(KK (decide (((fq a.p a.i.Name).1).Type_=a.dst)))else(KK false))else(if (fq a.p a.i.Name).2 then(((0:Int)<=0/\0<a.args.length)/\KK (eD (a.args.getD 0 default) (((fq a.p a.i.Name).1).Type_)))else(KK false))
def CO(a:Lt.asked)(KK:Bool->Prop):Prop:=
 have d:=((0:Int)<=0/\0<a.args.length);if decide (a.i.Op<=14)then(KK (ly a [105,110,116] [105,110,116]))else(if decide (a.i.Op<=18)then(KK (ly a [102,108,111,97,116] [102,108,111,97,116]))else(if decide (a.i.Op<=21)then(KK (ly a [102,108,111,97,116] [105,110,116]))else(if decide (a.i.Op=22)then(KK (ly a [105,110,116] [102,108,111,97,116]))else(if decide (a.i.Op=23)then(KK (ly a [102,108,111,97,116] [105,110,116]))else(if decide (a.i.Op=24)then(d/\KK (eD (a.args.getD 0 default) a.dst))else(if decide (a.i.Op=25)then(KK (By a))else(if decide (a.i.Op=26)then((N0 a)/\if (gm a).2 then(KK (decide (((gm a).1).Type_=a.dst)))else(KK false))else(if decide (a.i.Op=27)then((N0 a)/\if (gm a).2 then(((0:Int)<=1/\1<a.args.length)/\KK (eD (a.args.getD 1 default) (((gm a).1).Type_)))else(KK false))else(if decide (a.i.Op=28)then(if decide (a.dst=[105,110,116])then(d/\((0:Int)<=1/\1<a.args.length)/\KK (La (a.args.getD 0 default) (a.args.getD 1 default)))else(KK false))else(aa (α:=Bool) (fun e=>if decide (a.i.Op=29)then(e (decide (a.i.Op=29)))else(e (decide (a.i.Op=30)))) (fun f=>if f then((N1 a)/\KK (nK a))else(if decide (a.i.Op=31)then(aa (α:=Bool) (fun b=>if (lh a.p a.i.Name).2 then(if gC a.args (((lh a.p a.i.Name).1).Params)then(b (decide (a.dst=((lh a.p a.i.Name).1).Result)))else(b false))else(b false)) (fun v4=>KK v4))else(if decide (a.i.Op=32)then(aa (α:=Bool) (fun c=>if (gc a.p a.i.Name).2 then(if decide ((a.args.length:Int)=((gc a.p a.i.Name).1).N)then(c (ly a [105,110,116] [105,110,116]))else(c false))else(c false)) (fun g=>KK g))else(if decide (a.i.Op=33)then(d/\KK (!(gQ (a.args.getD 0 default))))else(KK true)))))))))))))))
def UZ(d:Lt.Program)(b:Lt.Func)(a:Lt.Instr)(KK:(Lt.asked×Bool)->Prop):Prop:=
 have g:=(Lt.asked.mk (Lt.Program.mk false [] [] [] []) (Lt.Instr.mk 0 ([]:List UInt8) ([]:List UInt8) [] [] []) ([]:List UInt8) []);aa (α:=Bool) (fun f=>if !((Lt.Of a.Op).2)then(f true)else(if decide ((a.Args.length:Int) < ((Lt.Of a.Op).1).Least)then(f true)else(f (decide (((Lt.Of a.Op).1).Most < (a.Args.length:Int)))))) (fun k=>if k then(KK (g,false))else(aa (α:=Lt.asked) (fun h=>if ((Lt.Of a.Op).1).Dst then(if !((gR b a.Dst).2)then(KK (g,false))else(h (Lt.asked.mk d a (((gR b a.Dst).1).Type_) [])))else(h (Lt.asked.mk d a ([]:List UInt8) []))) (fun v4=>(a.Args.length<=4611686018427387904->ab (α:=Int×Lt.asked) (fun j c=>have e:=([(gV b (a.Args.getD c.1.toNat default)).1]:List a8);if decide (c.1 < (a.Args.length:Int))then((0<=c.1/\c.1.toNat<a.Args.length)/\if !((gV b (a.Args.getD c.1.toNat default)).2)then(KK (g,false))else((c.2.args.length+e.length<=4611686018427387904/\(c.2.args.length+e.length)*16<=140737488355328)/\j ((i64.wrap (c.1+1)),(Lt.asked.mk c.2.p c.2.i c.2.dst (c.2.args++e)))))else(KK (c.2,true))) (0,(Lt.asked.mk v4.p v4.i v4.dst []))))))
def GP(a:Lt.Program)(b:Lt.Func)(c:Lt.Instr)(KK:Bool->Prop):Prop:=
 (uO a b c)/\if (oM a b c).2 then((AX (Lt.asked.mk (((oM a b c).1).p) (((oM a b c).1).i) (((oM a b c).1).dst) (((oM a b c).1).args)))/\KK (vi (Lt.asked.mk (((oM a b c).1).p) (((oM a b c).1).i) (((oM a b c).1).dst) (((oM a b c).1).args))))else(KK false)
def U0(b:Lt.Func)(a:Lt.Term)(KK:Bool->Prop):Prop:=
 if decide (a.Kind=1)then(KK true)else(if decide (a.Kind=2)then(if (gV b a.A).2 then(KK (decide ((gV b a.A).1=[105,110,116])))else(KK false))else(if decide (a.Kind=3)then(if (gV b a.A).2 then(KK (eD ((gV b a.A).1) b.Result))else(KK false))else(if decide (a.Kind=4)then(KK (decide (10<=a.N)))else(KK false))))
def Gj(a:Lt.Func)(KK:Int->Prop):Prop:=
 (a.Blocks.length<=4611686018427387904->ab (α:=Int×Int) (fun c b=>if decide (b.2 < (a.Blocks.length:Int))then((0<=b.2/\b.2.toNat<a.Blocks.length)/\(((a.Blocks.getD b.2.toNat default).Code).length<=4611686018427387904->c ((i64.wrap (b.1+(((a.Blocks.getD b.2.toNat default).Code).length:Int))),(i64.wrap (b.2+1)))))else(KK b.1)) (0,0))
def Ct(a:Lt.Program)(KK:Bool->Prop):Prop:=
 (a.Funcs.length<=4611686018427387904->ab (α:=Int) (fun j c=>have e:=(a.Funcs.getD c.toNat default).Blocks;if decide (c < (a.Funcs.length:Int))then((0<=c/\c.toNat<a.Funcs.length)/\(e.length<=4611686018427387904->ab (α:=Int) (fun g v4=>have b:=e.getD v4.toNat default;if decide (v4 < (e.length:Int))then((0<=v4/\v4.toNat<e.length)/\((b.Phis).length<=4611686018427387904->if decide (0 < ((b.Phis).length:Int))then(KK false)else(((b.Code).length<=4611686018427387904->ab (α:=Int) (fun h d=>have z3:=(b.Code).getD d.toNat default;if decide (d < ((b.Code).length:Int))then((0<=d/\d.toNat < (b.Code).length)/\aa (α:=Bool) (fun f=>((z3.Frames).length<=4611686018427387904->if decide (0 < ((z3.Frames).length:Int))then(f true)else(f (decide (0 < ((z3.Objs).length:Int)))))) (fun i=>if i then(KK false)else(h (i64.wrap (d+1)))))else(g (i64.wrap (v4+1)))) 0))))else(j (i64.wrap (c+1)))) 0))else(KK (!a.SSA))) 0)
def yF(a:Lt.Program)(KK:Bool->Prop):Prop:=
 (a.Funcs.length<=4611686018427387904->ab (α:=Int) (fun d b=>if decide (b < (a.Funcs.length:Int))then((0<=b/\b.toNat<a.Funcs.length)/\aa (α:=Bool) (fun c=>(((a.Funcs.getD b.toNat default).Blocks).length<=4611686018427387904->if decide (32 < (((a.Funcs.getD b.toNat default).Blocks).length:Int))then(c true)else((ka (a.Funcs.getD b.toNat default))/\if decide (200 < (ip (a.Funcs.getD b.toNat default)))then(c true)else(c (decide (16 < (i64.wrap ((((a.Funcs.getD b.toNat default).Params).length:Int)+(((a.Funcs.getD b.toNat default).Vars).length:Int))))))))) (fun v4=>if v4 then(KK false)else(d (i64.wrap (b+1)))))else(KK true)) 0)
def Cu(c:Lt.Program)(a:Lt.Func)(KK:Bool->Prop):Prop:=
 (a.Blocks.length<=4611686018427387904->ab (α:=Int) (fun e b=>if decide (b < (a.Blocks.length:Int))then((0<=b/\b.toNat<a.Blocks.length)/\(((a.Blocks.getD b.toNat default).Code).length<=4611686018427387904->ab (α:=Int) (fun d v4=>if decide (v4 < (((a.Blocks.getD b.toNat default).Code).length:Int))then((0<=v4/\v4.toNat < ((a.Blocks.getD b.toNat default).Code).length)/\(ad1 c a (((a.Blocks.getD b.toNat default).Code).getD v4.toNat default))/\if !(lx c a (((a.Blocks.getD b.toNat default).Code).getD v4.toNat default))then(KK false)else(d (i64.wrap (v4+1))))else(if !(uR a (Lt.Term.mk (((a.Blocks.getD b.toNat default).End).Kind) (((a.Blocks.getD b.toNat default).End).A) (((a.Blocks.getD b.toNat default).End).To) (((a.Blocks.getD b.toNat default).End).N)))then(KK false)else(e (i64.wrap (b+1))))) 0))else(KK true)) 0)
def LEN:Nat:=4611686018427387904
variable{i n:Nat}
theorem ob(h:i<n):(0:Int)<=(i:Int)/\(i:Int).toNat<n:=by
 rw[Int.toNat_natCast];exact⟨ajE i,h⟩
theorem aP(h:i<n):decide ((i:Int) < (n:Int))=true:=by simpa using h
theorem kZ:decide ((n:Int) < (n:Int))=false:=by simp
section
variable {α:Type}
theorem ac(x:α)(B:α->Prop):aa (fun J=>J x) B=B x:=
 propext ⟨fun h=>h B (fun _ h=>h),fun h J a=>a x h⟩
theorem bL(c:Prop)[Decidable c](A a:(α->Prop)->Prop)(B:α->Prop):aa (fun J=>if c then A J else a J) B=if c then aa A B else aa a B:=by
 unfold aa;by_cases hc:c<;>simp only[hc,if_true,if_false]
theorem am(P:Prop)(A:(α->Prop)->Prop)(B:α->Prop):aa (fun J=>P/\A J) B=(P/\aa A B):=
 propext ⟨fun h=>⟨(h (fun _=>True) (fun _ _=>trivial)).1,fun J a=>(h J a).2⟩,fun h J a=>⟨h.1,h.2 J a⟩⟩
theorem aq(P:Prop)(A:(α->Prop)->Prop)(B:α->Prop):aa (fun J=>P->A J) B=(P->aa A B):=
 propext ⟨fun h hp J a=>h J a hp,fun h J a hp=>h hp J a⟩
theorem be(P:Prop)(B:α->Prop):aa (fun _=>P) B=P:=
 propext ⟨fun h=>h (fun _=>True) (fun _ _=>trivial),fun h _ _=>h⟩
theorem jval(c:Prop)[Decidable c](x y:α)(J:α->Prop):(if c then J x else J y)=J (if c then x else y):=by split<;>rfl
theorem bor(b c:Bool):(if b then true else c)=(b||c):=by cases b<;>rfl
theorem band(b c:Bool):(if b then c else false)=(b&&c):=by cases b<;>rfl
theorem bnand(b c:Bool):(if b then false else c)=(!b&&c):=by cases b<;>rfl
theorem bimp(b c:Bool):(if b then c else true)=(!b||c):=by cases b<;>rfl
theorem oO(c:Prop)[Decidable c](P A B:Prop):(if c then(P/\A)else B)=((c->P)/\if c then A else B):=by
 by_cases hc:c<;>simp[hc]
theorem oP(c:Prop)[Decidable c](P A B:Prop):(if c then A else(P/\B))=((¬ c->P)/\if c then A else B):=by
 by_cases hc:c<;>simp[hc]
theorem ix(c:Prop)[Decidable c](P A B:Prop):(if c then(P/\A)else(P/\B))=(P/\if c then A else B):=by
 by_cases hc:c<;>simp[hc]
end
theorem au{α:Type}(body:(α->Prop)->α->Prop)(m:Nat)(P:Nat->α->Prop)
  (hs:∀R i x,i<m->P i x->(∀y,P (i+1) y->R y)->body R x) (a:∀R x,P m x->body R x) (x:α) (h:P 0 x):ab body x:=by
 have key:∀k i x,i+k=m->P i x->oW body (k+1) x:=by
  intro k;induction k with
  |zero=>
   intro i x hi h;have e:i=m:=by omega
   subst e;exact a _ x h
  |succ k ih=>
   intro i x hi h;exact hs _ i x kQ1 h (fun y hy=>ih (i+1) y kQ1 hy)
 exact⟨m+1,key m 0 x kQ1 h⟩
variable{β:Type}
theorem sC{α ρ σ:Type}[Inhabited α](l:List α)(hl:l.length<=LEN)(st:β->Int->σ)(c:List α->β->ρ)(KK:ρ->Prop)(body:(σ->Prop)->σ->Prop)
  (hs:∀R b i,i<l.length->(∀b',KK (c (l.drop (i+1)) b')->R (st b' (i64.wrap ((i:Int)+1))))->KK (c (l.getD i default::l.drop (i+1)) b)->body R (st b i))
  (d:∀R b,KK (c [] b)->body R (st b l.length)) (b:β) (h:KK (c l b)):ab body (st b 0):=by
 have key:∀k i b,i+k=l.length->KK (c (l.drop i) b)->oW body (k+1) (st b (i:Int)):=by
  intro k;induction k with
  |zero=>
   intro i b hi h;have e:i=l.length:=by omega
   subst e;rw[akJ]at h;exact d _ b h
  |succ k ih=>
   intro i b hi h;have a:i<l.length:=by omega
   rw[ajT a]at h;have e:l.getD i default=l[i]:=by rw[List.getD,ajA a];rfl
   rw[<- e]at h;refine hs _ b i a (fun b' h'=>?_) h;rw[ae (by unfold LEN at hl;omega)];exact ih (i+1) b' kQ1 h'
 exact⟨l.length+1,key l.length 0 b kQ1 h⟩
theorem Si{α ρ:Type}[Inhabited α](l:List α)(hl:l.length<=LEN)(a:List α->β->ρ)(KK:ρ->Prop)(body:(β×Int->Prop)->β×Int->Prop)
  (hs:∀R b i,i<l.length->(∀b',KK (a (l.drop (i+1)) b')->R (b',(i64.wrap ((i:Int)+1))))->KK (a (l.getD i default::l.drop (i+1)) b)->body R (b,(i:Int)))
  (c:∀R b,KK (a [] b)->body R (b,(l.length:Int))) (b:β) (h:KK (a l b)):ab body (b,0):=
 sC l hl (fun b i=>(b,i)) a KK body hs c b h
theorem dv{α:Type}[Inhabited α](l:List α)(hl:l.length<=LEN)(p:α->Bool)(rest:Bool)(KK:Bool->Prop)(body:(Int->Prop)->Int->Prop)
  (hs:∀R i,i<l.length->(p (l.getD i default)=true->R (i64.wrap ((i:Int)+1)))->(p (l.getD i default)=false->KK false)->body R (i:Int))
  (a:∀R,KK rest->body R (l.length:Int)) (h:KK (l.all p&&rest)):ab body 0:=by
 refine sC l hl (fun(_:Unit) i=>i) (fun t _=>t.all p&&rest) KK body (fun R _ i hi ih h=>?_) (fun R _ h=>a R (by simpa using h)) () h;refine hs R i hi (fun hp=>ih () ?_) (fun hp=>?_)
 ·simp only[ajJ,hp,aj3]at h;exact h
 simp only[ajJ,hp,ak4]at h;exact h
theorem Ji(N:Nat)(hN:N<=LEN)(g:Nat->β)(body:(β×Int->Prop)->β×Int->Prop)
  (hs:∀R i,i<N->R (g (i+1),i64.wrap ((i:Int)+1))->body R (g i,(i:Int)))
  (a:∀R,body R (g N,(N:Int))) {b:β} (hb:g 0=b):ab body (b,0):=by
 subst hb;refine au body N (fun i x=>x=(g i,(i:Int))) (fun R i x hi hx ih=>?_) (fun R x hx=>?_) _ rfl
 ·subst hx;refine hs R i hi (ih _ ?_);rw[ae (by unfold LEN at hN;omega)]
 subst hx;exact a R
theorem ba{α:Type}[Inhabited α](l:List α)(h:i<l.length):l.take (i+1)=l.take i++[l.getD i default]:=by
 rw[List.take_add_one,List.getD,ajA h];rfl
theorem aC{α:Type}[Inhabited α](l:List α)(h:i<l.length):l.getD i default∈l:=by
 rw[List.getD,ajA h];exact ak1 h
theorem ifk{c:Prop}[Decidable c]{A B:Prop}(h1:c->A)(h2:¬ c->B):if c then A else B:=by grind
theorem dl{α σ:Type}[Inhabited α]{body:(σ->Prop)->σ->Prop}(l:List α)(st:β->Int->σ)(P:List α->β->Prop)
  (hs:∀R b i x r,i<l.length->l.getD i default=x->x∈l->(l.length<=4611686018427387904->∀b',P r b'->R (st b' (i64.wrap ((i:Int)+1))))->P (x::r) b->body R (st b (i:Int)))
  (c:∀R b,P [] b->body R (st b (l.length:Int))) (b:β) (h:P l b):ab body (st b 0):=by
 have key:∀k i b,i+k=l.length->P (l.drop i) b->oW body (k+1) (st b (i:Int)):=by
  intro k;induction k with
  |zero=>
   intro i b hi h;have e:i=l.length:=by omega
   subst e;rw[akJ]at h;exact c _ b h
  |succ k ih=>
   intro i b hi h;have a:i<l.length:=by omega
   rw[ajT a]at h;have e:l.getD i default=l[i]:=by grind
   refine hs _ b i _ (l.drop (i+1)) a e (ak1 a) (fun hl b' h'=>?_) h
   grind [ae]
 exact⟨l.length+1,key l.length 0 b kQ1 h⟩
variable{body:(Int->Prop)->Int->Prop}
theorem bO{α:Type}[Inhabited α](l:List α)(P:List α->Prop)
  (hs:∀R i x r,i<l.length->l.getD i default=x->x∈l->(l.length<=4611686018427387904->P r->R (i64.wrap ((i:Int)+1)))->P (x::r)->body R (i:Int))
  (a:∀R,P []->body R (l.length:Int)) (h:P l):ab body 0:=
 dl l (fun(_:Unit) i=>i) (fun r _=>P r) (fun R _ i x r h1 h2 h3 h4 h5=>hs R i x r h1 h2 h3 (fun hl hp=>h4 hl () hp) h5) (fun R _ h=>a R h) () h
theorem kh{α:Type}[Inhabited α](l:List α)(p:α->Bool)(rest:Bool)(KK:Bool->Prop)
  (hs:∀R i x,i<l.length->l.getD i default=x->x∈l->(l.length<=4611686018427387904->p x=true->R (i64.wrap ((i:Int)+1)))->(p x=false->KK false)->body R (i:Int))
  (a:∀R,KK rest->body R (l.length:Int)) (h:KK (l.all p&&rest)):ab body 0:=by
 refine bO l (fun r=>KK (r.all p&&rest)) (fun R i x r h1 h2 h3 h4 h5=>hs R i x h1 h2 h3 (fun hl hp=>h4 hl ?_) (fun hp=>?_)) (fun R h=>a R (by grind)) h
 all_goals grind
theorem No(p:Lt.Program)(s:a8)(KK:Lt.Class×Bool->Prop)(h:KK (bm p s)):GM p s KK:=by
 unfold GM;intro hl;refine bO p.Classes (fun l=>KK (Lt.fnd (·.Name) s l)) (fun R i x r hi hx _ ih h=>?_) (fun R h=>?_) h
 ·grind [Lt.fnd]
 rw[if_neg (by simp)];exact h
theorem Tc(p:Lt.Program)(s:a8)(KK:Lt.Func×Bool->Prop)(h:KK (lh p s)):Pg p s KK:=by
 unfold Pg;intro hl;refine bO p.Funcs (fun l=>KK (Lt.fnd (·.Name) s l)) (fun R i x r hi hx _ ih h=>?_) (fun R h=>?_) h
 ·grind [Lt.fnd]
 rw[if_neg (by simp)];exact h
theorem JQ(p:Lt.Program)(s:a8)(KK:Lt.Var×Bool->Prop)(h:KK (fq p s)):CM p s KK:=by
 unfold CM;intro hl;refine bO p.Globals (fun l=>KK (Lt.fnd (·.Name) s l)) (fun R i x r hi hx _ ih h=>?_) (fun R h=>?_) h
 ·grind [Lt.fnd]
 rw[if_neg (by simp)];exact h
theorem JP(p:Lt.Program)(s:a8)(KK:Lt.Extern×Bool->Prop)(h:KK (gc p s)):CJ p s KK:=by
 unfold CJ;intro hl;refine bO p.Externs (fun l=>KK (Lt.fnd (·.Name) s l)) (fun R i x r hi hx _ ih h=>?_) (fun R h=>?_) h
 ·grind [Lt.fnd]
 rw[if_neg (by simp)];exact h
theorem Np(p:Lt.Program)(c s:a8)(KK:Lt.Var×Bool->Prop)(h:KK (oI p c s)):GN p c s KK:=by
 unfold GN;unfold oI at h;refine ifk (fun hc=>?_) (fun hc hl=>?_)
 ·have e:∀l:List Lt.Class,(Lt.fnd (·.Name) c l).2=false->(Lt.fnd (·.Name) c l).1=default:=by
   intro l;induction l with
   |nil=>exact fun _=>rfl
   |cons x r ih=>grind [Lt.fnd]
  have a:(bm p c).1=default:=e _ (by grind [bm])
  rw[a]at h;exact h
 refine bO (bm p c).1.Fields (fun l=>KK (Lt.fnd (·.Name) s l)) (fun R i x r hi hx _ ih h=>?_) (fun R h=>?_) h
 ·grind [Lt.fnd]
 rw[if_neg (by simp)];exact h
theorem BY(f:Lt.Func)(s:a8)(KK:Lt.Var×Bool->Prop)(h:KK (gR f s)):wT f s KK:=by
 unfold wT;intro J b hl;have a:J ((rM f.Params s).2,(rM f.Params s).1):=b _ (by
  dsimp only;refine ifk (fun hc=>?_) (fun hc hl=>?_)
  ·grind [gR]
  unfold gR at h;rw[if_neg hc]at h;refine bO f.Vars (fun l=>KK (Lt.fnd (·.Name) s l)) (fun R i x r hi hx _ ih h=>?_) (fun R h=>?_) h
  ·grind [Lt.fnd]
  rw[if_neg (by simp)];exact h)
 refine bO f.Params (fun l=>J ((Lt.fnd (fun x:Lt.Var=>x.Name) s l).2,(Lt.fnd (fun x:Lt.Var=>x.Name) s l).1)) (fun R i x r hi hx _ ih h=>?_) (fun R h=>?_) a
 ·grind [Lt.fnd]
 rw[if_neg (by simp)];exact h
theorem abB(f:Lt.Func)(a:Lt.Arg)(KK:a8×Bool->Prop)(h:KK (gV f a)):ac8 f a KK:=by
 grind [ac8,gV]
theorem Xk(t:List UInt8)(KK:Bool->Prop)(h:KK (gQ t)):U2 t KK:=by
 grind [U2,gQ]
theorem Tb(a b:a8)(KK:Bool->Prop)(h:KK (eD a b)):Pf a b KK:=by
 unfold Pf;unfold eD at h;intro J c
 grind
theorem Td(a b:a8)(KK:Bool->Prop)(h:KK (La a b)):Ph a b KK:=by
 unfold Ph;unfold La at h;intro J c
 grind
theorem Ns(p:Lt.Program)(t:List UInt8)(KK:Bool->Prop)(h:KK (gG p t)):GQ p t KK:=by
 unfold GQ;unfold gG gQ at h;intro J a
 grind
theorem eL{α:Type}[Inhabited α](l:List α)(h:i<l.length):l.drop i=l.getD i default::l.drop (i+1):=by
 grind [ajT]
theorem A5:∀(l:List a8)(v:List Lt.Var),l.length≠v.length->gC l v=false
 |[],[],h=>absurd rfl h
 |_::l,_::v,h=>by unfold gC;rw[A5 l v (by grind),Bool.and_false]
 |[],_::_,_=>rfl
 |_::_,[],_=>rfl
theorem Xj(l:List a8)(v:List Lt.Var)(KK:Bool->Prop)(h:KK (gC l v)):U1 l v KK:=by
 unfold U1;intro _ _;refine ifk (fun hc=>?_) (fun hc hl=>?_)
 ·grind [A5]
 have a:l.length=v.length:=by
  grind
 refine au _ l.length (fun i x=>x=(i:Int)/\KK (gC (l.drop i) (v.drop i))) (fun R i x hi hx ih=>?_) (fun R x hx=>?_) 0 ⟨rfl,h⟩
 ·obtain⟨rfl,h⟩:=hx;rw[if_pos (aP hi)];refine⟨ob hi,ob kQ1,?_⟩;rw[Int.toNat_natCast]
  grind [eL,gC,ae]
 obtain⟨rfl,h⟩:=hx;rw[if_neg (by simp)];rw[akJ,a,akJ]at h;exact h
theorem nr(v:β):∀(m:List (a8×β))(k0 k:a8),aL .s (cQ .s m k0 v) k=if k0=k then some v else aL .s m k
 |[],k0,k=>by
  grind [cQ,aL,uq]
 |x::l,k0,k=>by
  have ih:=nr v l k0 k
  grind [cQ,aL,uq]
theorem vj{α:Type}[Inhabited α]{body:(Int×List (a8×Bool)->Prop)->Int×List (a8×Bool)->Prop}(l:List α)(nm:α->a8)(N:Prop)
  (hs:∀R(i:Nat)m x,i<l.length->l.getD i default=x->((aL (β:=Bool) .s m (nm x)).getD (dflt .bo)=true->N)->((aL (β:=Bool) .s m (nm x)).getD (dflt .bo)=false->l.length<=4611686018427387904->R (i64.wrap ((i:Int)+1),cQ .s m (nm x) true))->body R ((i:Int),m))
  (a:∀R m,(l.map nm).Nodup->body R ((l.length:Int),m)) (hN:¬ (l.map nm).Nodup->N):ab body (0,[]):=by
 refine au _ l.length (fun i x=>x.1=(i:Int)/\(∀s,(aL (β:=Bool) .s x.2 s).getD (dflt .bo)=decide (s∈(l.take i).map nm))/\((l.take i).map nm).Nodup) (fun R i x hi hx ih=>?_) (fun R x hx=>?_) _ ⟨rfl,fun s=>by rfl,by simp⟩
 ·obtain⟨b,m⟩:=x;obtain⟨h1,h2,h3⟩:=hx;dsimp only at h1 h2;subst h1;refine hs R i m _ hi rfl (fun hc=>hN fun hd=>?_) (fun hc hl=>ih _ ⟨ae kQ1,fun s=>?_,?_⟩)
  ·grind [akN]
  ·grind [nr,ba]
  grind [ba]
 grind
theorem BX(p:Lt.Program)(l:List Lt.Var)(KK:Bool->Prop)(h:KK (cD p l)):wS p l KK:=by
 unfold wS;intro hl;unfold cD at h;refine kh l (fun x=>gG p x.Type_) (mE (l.map (·.Name))) KK (fun R i x hi hx _ ih hf=>?_) (fun R h=>?_) h
 ·grind
 rw[if_neg (by simp)];intro _;refine vj l (·.Name) (KK false) (fun R i m x hi hx h1 h2=>?_) (fun R m hd=>?_) (fun hd=>?_)
 all_goals grind [Int.toNat_natCast,mE]
theorem Nq(p:Lt.Program)(hp:jp p)(KK:Bool->Prop)(h:KK (fI p)):GO p KK:=by
 unfold GO;intro J g t;have a:∀b1 b2 b3 e j b6:Bool,fI p=(b1&&b2&&b3&&e&&j&&b6)->(b1=false\/b2=false\/b3=false\/e=false\/j=false\/b6=false)->KK false:=by
  grind
 have a:=a _ _ _ _ _ _ rfl
 have b:KK false->J true:=fun h=>g true (by grind)
 refine vj p.Classes (·.Name) (J true) (fun R i m x hi hx h1 h2=>?_) (fun R m l=>?_) (fun hd=>b (a (.inl (decide_eq_false hd))))
 ·grind
 rw[if_neg (by simp)];intro o;refine vj p.Externs (·.Name) (J true) (fun R i m x hi hx h1 h2=>?_) (fun R m r=>?_) (fun hd=>b (a (.inr (.inl (decide_eq_false hd)))))
 ·grind
 rw[if_neg (by simp)];intro q;refine vj p.Funcs (·.Name) (J true) (fun R i m x hi hx h1 h2=>?_) (fun R m n=>?_) (fun hd=>b (a (.inr (.inr (.inl (decide_eq_false hd))))))
 ·grind
 rw[if_neg (by simp)];refine g _ ?_;dsimp only;refine ifk (fun hc=>a (.inr (.inr (.inr (.inl (by grind)))))) (fun hc v=>?_);refine kh p.Classes (fun c=>cD p c.Fields) (p.Funcs.all fun f=>gG p f.Result&&cD p (f.Params++f.Vars)) KK (fun R i x hi hx _ ih hf=>?_) (fun R h=>?_) ?_
 ·grind
 ·rw[if_neg (by simp)];intro s;refine kh p.Funcs (fun f=>gG p f.Result&&cD p (f.Params++f.Vars)) true KK (fun R i x hi hx hm ih hf=>?_) (fun R h=>?_) (by grind)
  ·simp only[aP hi,Int.toNat_natCast,hx,hi,ajE,and_self,true_and,if_true];have hb:=hp x hm
   intro u d;have y:u (x.Params++x.Vars):=d _ (by
    dsimp only;intro w k
    grind)
   grind
  grind
 grind [fI,mE]
theorem Xi(f:Lt.Func)(t:Lt.Term)(KK:Bool->Prop)(h:KK (uR f t)):U0 f t KK:=by
 unfold U0;unfold uR at h;simp only[decide_eq_true_eq];by_cases h1:t.Kind=1
 ·grind
 by_cases h2:t.Kind=2
 ·cases a:(gV f t.A).2<;>simpa[h2,a]using h
 by_cases h3:t.Kind=3
 ·cases a:(gV f t.A).2<;>simpa[h3,a]using h
 grind
theorem Te(q:Lt.asked)(a d:a8)(KK:Bool->Prop)(h:KK (ly q a d)):Pi q a d KK:=by
 unfold Pi;intro hl;refine kh q.args (fun x=>decide (x=a)) (decide (q.dst=d)) KK (fun R i x hi hx _ ih hf=>?_) (fun R h=>?_) h
 all_goals grind
theorem Nt(q:Lt.asked)(KK:Bool->Prop)(h:KK (By q)):GR q KK:=by
 unfold GR;intro J a;unfold By at h;have:=a _ h
 have e:∀l:List Lt.Class,(Lt.fnd (·.Name) q.i.Name l).2=true->(Lt.fnd (·.Name) q.i.Name l).1.Name=q.i.Name:=by
  intro l;induction l with
  |nil=>intro h;cases h
  |cons x r ih=>grind [Lt.fnd]
 grind [decide,bm]
theorem JR(q:Lt.asked)(hp:N0 q)(KK:Lt.Var×Bool->Prop)(h:KK (gm q)):CN q KK:=by
 unfold CN;unfold gm at h;obtain⟨h1,h2⟩:=hp;refine⟨⟨by omega,by omega⟩,ifk (fun hc=>?_) (fun hc=>⟨⟨by omega,h1⟩,?_⟩)⟩
 ·rw[if_neg (by grind)]at h;exact h
 grind
theorem E2(q:Lt.asked)(hp:N1 q)(KK:Bool->Prop)(h:KK (nK q)):yN q KK:=by
 grind [yN,nK,N1]
end Go.Am
end

section
namespace Go.Am
open Go
open Lt (nmB toB Gd Rc)
def iL(l:List Bool):Nat:=(l.filter fun b=>!b).length
theorem kN:∀(l:List Bool)(k:Nat),l.getD k true=false->iL (l.set k true)+1=iL l
 |[],k,h=>by grind
 |b::r,0,h=>by
  grind [iL]
 |b::r,k+1,h=>by
  have:=kN r k (by grind)
  grind [iL]
theorem l9{α:Type}{body:(α->Prop)->α->Prop}(P:α->Prop)(a:α->Nat)(hs:∀R x,P x->(∀y,P y->a y<a x->R y)->body R x)(x:α)(h:P x):ab body x:=by
 have key:∀n x,P x->a x<n->oW body n x:=by
  intro n;induction n with
  |zero=>omega
  |succ n ih=>intro x hx hm;exact hs _ x hx (fun y hy b=>ih y hy kQ1)
 exact⟨_,key (a x+1) x h kQ1⟩
theorem cz{n:Int}(h1:-9223372036854775808<=n)(h2:n < 9223372036854775808):i64.wrap n=n:=by
 grind [IntKind.wrap,IntKind.signed,IntKind.bits]
variable{l:List Bool}
theorem rz{k:Nat}(h:k<l.length)(b d:Bool):(l.set k b).getD k d=b:=by
 grind
theorem dP{i:Nat}(h:i<l.length)(k:Nat):(l.set i true).getD k false=(decide (k=i)||l.getD k false):=by
 grind
structure CI (B:List Lt.Block) (out:List Bool) (todo:List Int) (j:Nat):Prop where
 ol:out.length=B.length
 td:∀k∈todo,0<=k/\k < (B.length:Int)/\out.getD k.toNat false=true
 o0:out.getD 0 false=true
 sd:∀k,out.getD k false=true->Rc B k
 cl:∀i,i<B.length->i≠j->out.getD i false=true->(i:Int)∈todo\/∀k,k<B.length->nmB B k∈toB B i->out.getD k false=true
theorem CI.mark{B:List Lt.Block}{out:List Bool}{todo:List Int}{j t:Nat}(h:CI B out todo j)(ht:t<B.length)(hr:Rc B t):CI B (out.set t true) (todo++[(t:Int)]) j:=by
 have hl:t<out.length:=by grind [ol]
 refine⟨by grind [ol],fun k hk=>?_,?_,fun k hk=>?_,fun i hi hij hm=>?_⟩
 ·rw[dP hl];rcases ajO.1 hk with hk|hk
  ·obtain⟨a,b,c⟩:=h.td k hk
   grind
  grind
 all_goals grind [dP,o0,sd,cl]
theorem acE{m:List (a8×Bool)}{K:List a8}(h:∀s,(aL (β:=Bool) .s m s).getD (dflt .bo)=decide (s∈K))(x:a8):∀s,(aL (β:=Bool) .s (cQ .s m x true) s).getD (dflt .bo)=decide (s∈K++[x]):=fun s=>by
 grind [nr]
theorem JM(f:Lt.Func)(hp:X3 f)(KK:Bool->Prop)(h:KK (di f)):CF f KK:=by
 unfold CF;obtain⟨hn,N⟩:=hp;have X:¬ Gd f.Blocks->KK false:=fun hg=>by grind [di,sH]
 have kT:Gd f.Blocks->KK true:=fun hg=>by grind [di,pQ]
 dsimp only;intro _;refine ifk (fun e=>X fun g=>by grind [Gd.ps]) (fun ab=>?_);have P:0<f.Blocks.length:=by
  grind
 intro _ _;refine au _ f.Blocks.length (fun i v=>v.1=(i:Int)/\(∀k,k<i->aL (β:=Int) .s v.2 (nmB f.Blocks k)=some (k:Int))/\(∀s,(∀k,k<i->nmB f.Blocks k≠s)->aL (β:=Int) .s v.2 s=none)/\∀a b,a<i->b<i->nmB f.Blocks a=nmB f.Blocks b->a=b) (fun R i v hi⟨e,h1,h2,h3⟩ih=>?_) (fun R v⟨e,h1,h2,al⟩=>?_) _ ⟨rfl,fun k hk=>by omega,fun _ _=>rfl,fun a b D=>by omega⟩
 ·obtain⟨v1,L⟩:=v;dsimp only at e h1 h2⊢;subst e;rw[if_pos (aP hi)];refine⟨ob hi,?_⟩;rw[Int.toNat_natCast];by_cases hx:∃k,k<i/\nmB f.Blocks k=nmB f.Blocks i
  ·obtain⟨k,hk,e⟩:=hx;rw[if_pos]
   ·exact X fun g=>by grind [Gd.nd]
   grind
  have hx:∀k,k<i->nmB f.Blocks k≠nmB f.Blocks i:=fun k hk e=>hx ⟨k,hk,e⟩
  have hno:aL (β:=Int) .s L (nmB f.Blocks i)=none:=h2 _ hx
  rw[if_neg (by grind)];refine ih _ ⟨ae kQ1,fun k hk=>?_,fun s hs=>?_,fun a b D hb e=>?_⟩
  ·grind [nr]
  ·dsimp only;rw[nr,if_neg (hs i kQ1)]
   grind
  grind
 obtain⟨v1,L⟩:=v;dsimp only at e h1 h2⊢;subst e;rw[if_neg (by simp)];intro _;have hL:∀s t,aL (β:=Int) .s L s=some t->∃k,k<f.Blocks.length/\nmB f.Blocks k=s/\t=(k:Int):=fun s t e=>by
  grind
 refine au _ f.Blocks.length (fun i v=>v=(i:Int)/\∀a,a<i->(toB f.Blocks a).Nodup/\∀s∈toB f.Blocks a,∃k,k<f.Blocks.length/\k≠0/\nmB f.Blocks k=s) (fun R i v hi⟨e,p⟩ih=>?_) (fun R v⟨e,p⟩=>?_) _ ⟨rfl,fun a D=>by omega⟩
 ·subst e;rw[if_pos (aP hi)];refine⟨ob hi,fun _=>?_⟩;dsimp +instances only [Int.toNat_natCast]
  have z:=N _ (aC _ hi)
  have af:Gd f.Blocks->(f.Blocks.getD i default).End.To.Nodup:=fun g=>g.tn i hi
  have gtr:Gd f.Blocks->∀s∈(f.Blocks.getD i default).End.To,∃k,k<f.Blocks.length/\k≠0/\nmB f.Blocks k=s:=fun g=>g.tr i hi
  have G:∀T:List a8,T=(f.Blocks.getD i default).End.To->(T.Nodup/\∀s∈T,∃k,k<f.Blocks.length/\k≠0/\nmB f.Blocks k=s)->R (i64.wrap ((i:Int)+1)):=fun T e hT=>ih _ ⟨ae kQ1,fun a D=>by
   rcases akM a i with h'|h'
   all_goals grind⟩
  generalize(f.Blocks.getD i default).End.To=T at af gtr z G;refine au _ T.length (fun k v=>v.1=(k:Int)/\(∀s,(aL (β:=Bool) .s v.2 s).getD (dflt .bo)=decide (s∈T.take k))/\(T.take k).Nodup/\∀s∈T.take k,∃k,k<f.Blocks.length/\k≠0/\nmB f.Blocks k=s) (fun R5 k v hk⟨e,hm,hd,hq⟩ad=>?_) (fun R5 v⟨e,hm,hd,hq⟩=>?_) _ ⟨rfl,fun s=>by rfl,by simp,fun s hs=>by grind⟩
  ·obtain⟨v1,m⟩:=v;dsimp only at e hm⊢;subst e;rw[if_pos (aP hk)];dsimp +instances only [Int.toNat_natCast]
   refine⟨ob hk,fun J W=>?_⟩;have eg:T.getD k default=T[k]:=by grind
   have l:T.getD k default∈T:=by grind
   have jF:¬ Gd f.Blocks->J true:=fun hg=>W true (by grind)
   refine ifk (fun hc=>jF fun g=>?_) (fun hc=>ifk (fun hz=>jF fun g=>?_) (fun hz=>?_))
   ·obtain⟨t,M,t2,t3⟩:=gtr g _ l
    grind
   ·obtain⟨t,M,t2,t3⟩:=gtr g _ l
    grind
   have E:∃t,aL (β:=Int) .s L (T.getD k default)=some t:=by
    cases hl:aL (β:=Int) .s L (T.getD k default)with
    |_=>grind
   obtain⟨t,ht⟩:=E;obtain⟨q,q1,q2,rfl⟩:=hL _ _ ht;refine W _ ?_;dsimp only;rw[hm];refine ifk (fun C=>X fun g=>?_) (fun C=>ad _ ⟨ae kQ1,?_,?_,?_⟩)
   ·grind [akN,eL]
   ·rw[ba T hk];exact acE hm _
   ·have C:T.getD k default ∉ T.take k:=fun h'=>C (decide_eq_true h')
    rw[ba T hk,List.nodup_append]
    grind
   intro s hs;rw[ba T hk]at hs;rcases ajO.1 hs with hs|hs
   ·exact hq s hs
   grind
  grind
 subst e;rw[if_neg (by simp),if_neg (by simp)];have gd:(∀k,k<f.Blocks.length->Rc f.Blocks k)->Gd f.Blocks:=fun ac=>⟨P,al,fun i hi=>(p i hi).1,fun i hi=>(p i hi).2,ac⟩
 have r:∀i,i<f.Blocks.length->∀s∈toB f.Blocks i,∃k,k<f.Blocks.length/\k≠0/\nmB f.Blocks k=s:=fun i hi=>(p i hi).2
 have hz:(f.Blocks.length:Int).toNat=f.Blocks.length:=Int.toNat_natCast _
 intro _;rw[hz];have hr:(List.replicate f.Blocks.length (dflt .bo):List Bool).length=f.Blocks.length:=akU
 refine⟨⟨by omega,by omega,by omega⟩,⟨by omega,by omega⟩,by omega,?_⟩;have ar:iL ((List.replicate f.Blocks.length (dflt .bo):List Bool).set 0 true)<=f.Blocks.length:=by
  grind [iL]
 have I:∀out,CI f.Blocks out [] f.Blocks.length->∀k,Rc f.Blocks k->out.getD k false=true:=fun out c k aj=>by
  induction aj with
  |first _=>exact c.o0
  |next i k _ hi hk hm ih=>
   rcases c.cl i hi kQ1 ih with h'|h'
   all_goals grind
 have n:CI f.Blocks ((List.replicate f.Blocks.length (dflt .bo):List Bool).set 0 true) [0] f.Blocks.length:=by
  have aw:∀i,i≠0->((List.replicate f.Blocks.length (dflt .bo):List Bool).set 0 true).getD i false=true->False:=fun i e hm=>by
   rw[List.getD,ak7 (fun e'=>e e'.symm),List.getElem?_replicate]at hm;split at hm
   ·exact absurd hm (by show ¬ (default:Bool)=true;decide)
   grind
  refine⟨by grind,fun k hk=>?_,rz kQ1 _ _,fun k hk=>?_,fun i hi ab hm=>?_⟩
  ·obtain rfl:=ajQ.1 hk
   grind
  ·by_cases e:k=0
   ·subst e;exact .first P
   grind
  grind
 refine l9 (fun v=>CI f.Blocks v.1 v.2 f.Blocks.length/\2*iL v.1+v.2.length<=3000000) (fun v=>2*iL v.1+v.2.length) (fun R9 v⟨c,ah⟩U=>?_) _ ⟨n,by grind⟩;obtain⟨out,todo⟩:=v;dsimp only at c ah U⊢;intro av;refine ifk (fun V=>?_) (fun ao=>?_)
 rotate_left
 ·have Z:todo=[]:=akG (by grind)
  subst Z;have all:=I out c
  intro _;refine au _ out.length (fun i v=>v=(i:Int)/\∀a,a<i->out.getD a false=true) (fun R i v hi⟨e,D⟩ih=>?_) (fun R v⟨e,D⟩=>?_) _ ⟨rfl,fun a D=>by omega⟩
  ·subst e;rw[if_pos (aP hi)];refine⟨⟨by omega,by omega⟩,?_⟩;rw[Int.toNat_natCast];have ak:i<f.Blocks.length:=by grind [CI.ol]
   refine ifk (fun hc=>X fun g=>?_) (fun hc=>ih _ ⟨ae kQ1,fun a aq=>?_⟩)
   ·have h5:=all i (g.re i ak)
    grind
   grind
  subst e;rw[if_neg (by simp)];exact kT (gd fun k hk=>c.sd k (D k (by grind [CI.ol])))
 have V:0<todo.length:=by grind
 have hw:i64.wrap ((todo.length:Int) - 1)=((todo.length - 1:Nat):Int):=by
  grind [cz]
 rw[hw];dsimp +instances only [Int.toNat_natCast]
 generalize hmm:todo.length - 1=m;have d:todo=todo.take m++[todo.getD m default]:=by
  have:=ba todo (i:=m) kQ1
  grind
 have S:todo.getD m default∈todo:=aC _ kQ1
 generalize todo.getD m default=j at d S;obtain⟨j1,j2,j3⟩:=c.td j S;intro J W _;have ag:J (f.Blocks.getD j.toNat default):=W _ ?_
 ·have H:(0<=j/\j.toNat<f.Blocks.length)/\J (f.Blocks.getD j.toNat default):=⟨⟨j1,by omega⟩,ag⟩
  exact⟨⟨by omega,by omega⟩,⟨H,H⟩,⟨H,H⟩,H⟩
 dsimp only;intro _;refine⟨⟨by omega,by omega⟩,fun _=>?_⟩;have B:j.toNat<f.Blocks.length:=by omega
 have r:∀s∈(f.Blocks.getD j.toNat default).End.To,∃k,k<f.Blocks.length/\k≠0/\nmB f.Blocks k=s:=r _ B
 have x:∀k,nmB f.Blocks k∈toB f.Blocks j.toNat->nmB f.Blocks k∈(f.Blocks.getD j.toNat default).End.To:=fun k h=>h
 have w:∀k,k<f.Blocks.length->nmB f.Blocks k∈(f.Blocks.getD j.toNat default).End.To->Rc f.Blocks k:=fun k hk hm=>.next j.toNat k (c.sd _ j3) B hk hm
 have z:=N _ (aC _ B)
 have an:(todo.take m).length+1=todo.length:=by rw[List.length_take];omega
 have F:CI f.Blocks out (todo.take m) j.toNat:=by
  refine⟨c.ol,fun k hk=>c.td k (List.mem_of_mem_take hk),c.o0,c.sd,fun i hi ap hm=>?_⟩;rcases c.cl i hi kQ1 hm with h'|h'
  ·rw[d]at h';rcases ajO.1 h' with h'|h'
   ·grind
   have:=ajQ.1 h'
   omega
  grind
 generalize(f.Blocks.getD j.toNat default).End.To=T at r x z w;refine au _ T.length (fun k v=>v.2.2=(k:Int)/\CI f.Blocks v.1 v.2.1 j.toNat/\(∀q,q<k->∀u,u<f.Blocks.length->nmB f.Blocks u=T.getD q default->v.1.getD u false=true)/\2*iL v.1+v.2.1.length+1<=2*iL out+todo.length) (fun Y k v hk⟨e,hc,hq,A⟩Q=>?_) (fun Y v⟨e,hc,hq,A⟩=>?_) _ ⟨rfl,F,fun q hq=>by omega,by grind⟩
 ·obtain⟨o3,t3,v3⟩:=v;dsimp only at e hc hq A⊢;subst e;rw[if_pos (aP hk)];dsimp +instances only [Int.toNat_natCast]
  obtain⟨t,M,t2,t4⟩:=r (T.getD k default) (aC _ hk);have el:=h1 t M
  rw[t4]at el;rw[el];intro am O;have ol:=hc.ol
  refine⟨ob hk,⟨by simp,by grind⟩,?_⟩;simp only[akP,Int.toNat_natCast];have y:t<o3.length:=by omega
  have on:∀o' t',CI f.Blocks o' t' j.toNat->o'.getD t false=true->(∀u,o3.getD u false=true->o'.getD u false=true)->2*iL o'+t'.length<=2*iL o3+t3.length->am (o',t'):=fun o' t' a1 a2 a3 a4=>by
   refine O _ (Q _ ⟨ae kQ1,a1,fun q ax u hu e=>?_,by grind⟩);rcases akM q k with h'|h'
   all_goals grind
  refine ifk (fun hf=>?_) (fun hf=>?_)
  ·have hf0:o3.getD t true=false:=by
    rw[List.getD,ajA y]at hf⊢
    grind
   have ay:=kN o3 t hf0
   refine⟨⟨by omega,by omega⟩,y,⟨by grind [ajS],by grind [ajS]⟩,on _ _ (hc.mark M (w t M (by grind [aC]))) ?_ (fun u hu=>?_) ?_⟩
   ·grind [dP]
   ·grind [dP]
   grind [ajK]
  have aa:o3.getD t default=true:=by grind
  exact on _ _ hc aa (fun _ h=>h) (ajB _)
 obtain⟨o3,t3,v3⟩:=v;dsimp only at e hc hq A⊢;subst e;rw[if_neg (by simp)];refine U _ ⟨⟨hc.ol,hc.td,hc.o0,hc.sd,fun i hi _ hm=>?_⟩,by grind⟩ (by grind);by_cases e:i=j.toNat
 ·subst e;refine .inr fun k hk l=>?_
  obtain⟨q,K,ai⟩:=ajU.1 (x k l);exact hq q K k hk (by rw[<- ai,List.getD,ajA K];rfl)
 exact hc.cl i hi e hm
end Go.Am
end

section
namespace Go.Am
open Go
theorem JO(f:Lt.Func)(s:a8)(KK:Int×Bool->Prop)(h:KK (aI f s)):CH f s KK:=by
 unfold CH;intro hl;unfold aI at h;refine au _ f.Blocks.length (fun i x=>x=(i:Int)/\KK (i7 s (f.Blocks.drop i) (i:Int))) (fun R i x hi hx ih=>?_) (fun R x hx=>?_) 0 ⟨rfl,h⟩
 ·obtain⟨rfl,h⟩:=hx;rw[eL _ hi]at h
  grind [i7,ae]
 obtain⟨rfl,h⟩:=hx;rw[if_neg (by simp)];rw[akJ]at h;exact h
theorem SV(l:List Int)(v:Int)(KK:Int->Prop)(h:KK (Jq l v)):OZ l v KK:=by
 unfold OZ;intro hl;unfold Jq at h;refine au _ l.length (fun i x=>x=(i:Int)/\KK (BQ v (l.drop i) (i:Int))) (fun R i x hi hx ih=>?_) (fun R x hx=>?_) 0 ⟨rfl,h⟩
 ·obtain⟨rfl,h⟩:=hx;rw[eL _ hi]at h
  grind [BQ,ae]
 obtain⟨rfl,h⟩:=hx;rw[if_neg (by simp)];rw[akJ]at h;exact h
theorem SW(l:List a8)(v:a8)(KK:Int->Prop)(h:KK (Jr l v)):O0 l v KK:=by
 unfold O0;intro hl;unfold Jr at h;refine au _ l.length (fun i x=>x=(i:Int)/\KK (BQ v (l.drop i) (i:Int))) (fun R i x hi hx ih=>?_) (fun R x hx=>?_) 0 ⟨rfl,h⟩
 ·obtain⟨rfl,h⟩:=hx;rw[eL _ hi]at h
  grind [BQ,ae]
 obtain⟨rfl,h⟩:=hx;rw[if_neg (by simp)];rw[akJ]at h;exact h
theorem MU(l:List Int)(v:Int)(KK:Bool->Prop)(h:KK (Ab l v)):UM l v KK:=h
theorem MV(l:List a8)(v:a8)(KK:Bool->Prop)(h:KK (vW l v)):UN l v KK:=h
variable{α:Type}
theorem Af[DecidableEq α](v:α):∀(l:List α)(i:Int),0<=i->(0<=BQ v l i ↔ v∈l)
 |[],i,h=>by simp[BQ]
 |x::r,i,h=>by
  unfold BQ;by_cases e:v=x
  ·grind
  rw[if_neg e,Af v r (i+1) kQ1];simp[e]
theorem Sy(l:List Int)(v:Int):Ab l v=decide (v∈l):=by
 grind [Ab,Jq,Af]
theorem Sz(l:List a8)(v:a8):vW l v=decide (v∈l):=by
 grind [vW,Jr,Af]
theorem fU(l:List α){i:Nat}(h:i<l.length)(k:Nat)(x d:α):(l.set i x).getD k d=if k=i then x else l.getD k d:=by
 grind
theorem zO(d:α){l m:List α}(h:l.length=m.length)(h2:∀k,k<l.length->l.getD k d=m.getD k d):l=m:=by
 grind [List.ext_getElem]
theorem Xw{β:Type}[Inhabited α](g:α->β)(l:List α){k:Nat}(h:k<l.length)(d:β):(l.map g).getD k d=g (l.getD k default):=by
 grind
theorem uW(n k:Nat)(d:α):(List.replicate n d).getD k d=d:=by
 grind
theorem B1{β:Type}(g:α->Option β)(l:List α):(l.filterMap g).length<=l.length:=List.length_filterMap_le _ _
theorem W6(f:Lt.Func)(hp:r6 f)(KK:List (List Int)->Prop)(h:KK (jl f)):UL f KK:=by
 unfold UL;obtain⟨hn,c⟩:=hp;dsimp only;have m:(f.Blocks.length:Int).toNat=f.Blocks.length:=Int.toNat_natCast _
 intro _;rw[m];refine⟨⟨by omega,by omega,by omega⟩,fun _=>?_⟩;refine au _ f.Blocks.length (fun i v=>v.2=(i:Int)/\v.1.length=f.Blocks.length/\(∀k,i<=k->v.1.getD k []=[])/\∀k,k<i->v.1.getD k []=(Lt.toB f.Blocks k).filterMap (oG f)) (fun R i v hi⟨e,h1,h2,h3⟩ih=>?_) (fun R v⟨e,h1,h2,h3⟩=>?_) _ ⟨rfl,by simp,fun k _=>uW _ _ _,fun k hk=>by omega⟩
 ·obtain⟨out,l⟩:=v;dsimp only at e h1 h2 h3⊢;subst e;rw[if_pos (aP hi)];refine⟨ob hi,fun _=>?_⟩;dsimp +instances only [Int.toNat_natCast]
  have b:=c _ (aC _ hi)
  have a:∀T:List a8,T=Lt.toB f.Blocks i->∀o:List (List Int),o.length=f.Blocks.length->(∀k,k≠i->o.getD k []=out.getD k [])->o.getD i []=T.filterMap (oG f)->R (o,i64.wrap ((i:Int)+1)):=fun T e o o1 o2 o3=>ih _ ⟨ae kQ1,o1,fun k hk=>by grind,fun k hk=>by
   grind⟩
  have b:(f.Blocks.getD i default).End.To.length<=1000000:=b
  have a:=a (f.Blocks.getD i default).End.To rfl
  generalize(f.Blocks.getD i default).End.To=T at b a;refine au _ T.length (fun j v=>v.2=(j:Int)/\v.1.length=f.Blocks.length/\(∀k,k≠i->v.1.getD k []=out.getD k [])/\v.1.getD i []=(T.take j).filterMap (oG f)) (fun d j v hj⟨e,g1,g2,g3⟩n=>?_) (fun d v⟨e,g1,g2,g3⟩=>?_) _ ⟨rfl,h1,fun _ _=>rfl,by grind⟩
  ·obtain⟨o,v4⟩:=v;dsimp only at e g1 g2 g3⊢;subst e;rw[if_pos (aP hj)];intro J p;refine⟨ob hj,?_⟩;dsimp +instances only [Int.toNat_natCast]
   have g:(o.getD i []).length<=1000000:=by
    grind
   grind [ae,oG,ba]
  grind
 obtain⟨out,l⟩:=v;dsimp only at e h1 h2 h3⊢;subst e;rw[if_neg (by simp)];have:out=jl f:=zO [] (by grind [jl]) fun k hk=>by
  grind [jl]
 grind
theorem Yo(p:Nat->Bool)(i:Nat):(List.range (i+1)).filter p=(List.range i).filter p++(if p i=true then [i]else []):=by
 grind [List.range_succ]
theorem JB(g:List (List Int))(hp:uP g)(KK:List (List Int)->Prop)(h:KK (ib g)):Cw g KK:=by
 unfold Cw;obtain⟨hn,p⟩:=hp;dsimp only;have u:(g.length:Int).toNat=g.length:=Int.toNat_natCast _
 intro _;rw[u];refine⟨⟨by omega,by omega,by omega⟩,fun _=>?_⟩
 let pr:Nat->Nat->List Int:=fun i k=>((List.range i).filter fun i=>decide ((k:Int)∈g.getD i [])).map fun(i:Nat)=>(i:Int)
 have pl:∀i k,(pr i k).length<=i:=fun i k=>by
  grind
 have w:∀i k,(i:Int) ∉ pr i k:=fun i k hm=>by
  grind
 have ps:∀i k,pr (i+1) k=pr i k++(if(k:Int)∈g.getD i []then [(i:Int)]else []):=fun i k=>by
  grind [Yo]
 refine au _ g.length (fun i v=>v.2=(i:Int)/\v.1.length=g.length/\∀k,k<g.length->v.1.getD k []=pr i k) (fun R i v hi⟨e,h1,h2⟩ih=>?_) (fun R v⟨e,h1,h2⟩=>?_) _ ⟨rfl,by simp,fun k _=>uW _ _ _⟩
 ·obtain⟨out,t⟩:=v;dsimp only at e h1 h2⊢;subst e;rw[if_pos (aP hi)];refine⟨ob hi,fun _=>?_⟩;dsimp +instances only [Int.toNat_natCast]
  have f:=p _ (by grind:g.getD i []∈g)
  have a:∀T:List Int,T=g.getD i []->∀o:List (List Int),o.length=g.length->(∀k,k<g.length->o.getD k []=pr i k++(if(k:Int)∈T then [(i:Int)]else []))->R (o,i64.wrap ((i:Int)+1)):=fun T e o o1 o2=>ih _ ⟨ae kQ1,o1,fun k hk=>by grind⟩
  have a:=a (g.getD i []) rfl
  generalize g.getD i []=T at f a;refine au _ T.length (fun j v=>v.2=(j:Int)/\v.1.length=g.length/\∀k,k<g.length->v.1.getD k []=pr i k++(if(k:Int)∈T.take j then [(i:Int)]else [])) (fun s j v hj⟨e,g1,g2⟩c=>?_) (fun s v⟨e,g1,g2⟩=>?_) _ ⟨rfl,h1,fun k hk=>by grind⟩
  ·obtain⟨o,v4⟩:=v;dsimp only at e g1 g2⊢;subst e;rw[if_pos (aP hj)];intro J q;refine⟨ob hj,fun y b=>?_⟩;dsimp +instances only [Int.toNat_natCast]at b⊢
   have m:=ba T hj
   generalize T.getD j default=z at b m⊢;have stay:¬ (0<=z/\z < (g.length:Int))\/z∈T.take j->J o:=fun x=>q _ (c _ ⟨ae kQ1,g1,fun k hk=>by
    dsimp only;rw[g2 k hk,m];have:(k:Int)∈T.take j++[z] ↔ (k:Int)∈T.take j:=by
     rw[ajO,ajQ]
     grind
    simp only[this]⟩)
   refine ifk (fun h0=>ifk (fun h1'=>?_) (fun h1'=>?_)) (fun h0=>?_)
   ·have h0:=of_decide_eq_true h0
    have h1':=of_decide_eq_true h1'
    have d:z.toNat<o.length:=by omega
    have r:((z.toNat:Nat):Int)=z:=by omega
    have l:=g2 z.toNat kQ1
    rw[r]at l;have hb:(o.getD z.toNat []).length<=1000001:=by
     rw[l,ajR];have:=pl i z.toNat
     split<;>simp only[ajK,ajS]<;>omega
    have n:Ab (o.getD z.toNat []) (i:Int)=decide (z∈T.take j):=by
     rw[Sy,decide_eq_decide,l,ajO];have:=w i z.toNat
     by_cases e:z∈T.take j
     all_goals grind
    refine⟨⟨by omega,by omega⟩,trivial,b _ ?_⟩;rw[n];refine ifk (fun hc=>?_) (fun hc=>stay (.inr (by grind)));have hc:z ∉ T.take j:=by grind
    refine⟨⟨by omega,by omega⟩,⟨by grind,by grind⟩,⟨by omega,by omega⟩,d,rfl,q _ (c _ ⟨ae kQ1,by grind,fun k hk=>?_⟩)⟩;dsimp only;rw[fU _ d,m];by_cases e:k=z.toNat
    ·grind
    rw[if_neg e,g2 k hk];have:(k:Int)∈T.take j++[z] ↔ (k:Int)∈T.take j:=by
     rw[ajO,ajQ];exact⟨fun h=>h.elim id fun e'=>by omega,.inl⟩
    simp only[this]
   all_goals grind
  grind
 obtain⟨out,t⟩:=v;dsimp only at e h1 h2⊢;subst e;rw[if_neg (by simp)];have:out=ib g:=zO [] (by grind [ib]) fun k hk=>by
  rw[h2 k kQ1];unfold ib;rw[Xw _ _ (by grind),List.getD,List.getElem?_range kQ1];rfl
 grind
abbrev VM:=List (a8×Bool)
def VMo(m:VM):Prop:=(m.map (·.1)).Nodup/\∀x∈m,x.2=true
theorem m7(k:a8)(v:Bool):∀m:VM,(cQ .s m k v).map (·.1)=if k∈m.map (·.1)then m.map (·.1)else m.map (·.1)++[k]
 |[]=>by rfl
 |x::l=>by
  have ih:=m7 k v l
  grind [cQ,uq]
theorem Jl(k:a8):∀m:VM,(∀x∈m,x.2=true)->∀x∈cQ .s m k true,x.2=true
 |[],h,x,hx=>by
  grind [cQ]
 |y::l,h,x,hx=>by
  simp only[cQ,uq]at hx;by_cases e:y.1=k
  ·grind
  rw[decide_eq_false e]at hx;rcases ajI.1 hx with hx|hx
  ·grind
  exact Jl k l (fun z a=>h z (aj1 _ a)) x hx
theorem VMo.ins{m:VM}(h:VMo m)(k:a8):VMo (cQ .s m k true):=by
 refine⟨?_,Jl k m h.2⟩;rw[m7];split
 ·exact h.1
 rename_i hk;rw[List.nodup_append];exact⟨h.1,by simp,fun a ha b hb e=>by grind⟩
theorem VMo.nil:VMo []:=⟨List.nodup_nil,fun x h=>by cases h⟩
theorem Kd:∀{m:VM},(∀x∈m,x.2=true)->∀v,(aL (β:=Bool) .s m v).getD false=decide (v∈m.map (·.1))
 |[],_,v=>by rfl
 |x::l,h,v=>by
  simp only[aL,uq];by_cases e:x.1=v
  ·grind
  rw[decide_eq_false e];show(aL (β:=Bool) .s l v).getD false=_
  rw[Kd (fun z a=>h z (aj1 _ a)) v,decide_eq_decide]
  grind
def okU(U:List a8)(s:Lt.Vs):Prop:=∃m,s=some m/\VMo m/\∀v∈m.map (·.1),v∈U
theorem jZ{m:VM}(h:VMo m)(v:a8):bj (some m) v=decide (v∈m.map (·.1)):=Kd h.2 v
variable{s:Lt.Vs}
theorem okU.len{U:List a8}(h:okU U s):(s.getD []).length<=U.length:=by
 obtain⟨m,rfl,h1,h2⟩:=h;have:=List.Nodup.length_le_of_subset h1.1 (l₂:=U) h2
 grind
theorem okU.isS{U:List a8}(h:okU U s):s.isSome=true:=by obtain⟨m,rfl,_⟩:=h;rfl
theorem okU.nil(U:List a8):okU U (some []):=⟨[],rfl,.nil,fun v h=>by cases h⟩
theorem okU.le{U:List a8}{t:Lt.Vs}(hs:okU U s)(ht:okU U t)(h:∀v,bj s v=true->bj t v=true):(s.getD []).length<=(t.getD []).length:=by
 obtain⟨m,rfl,h1,_⟩:=hs;obtain⟨n,rfl,g1,_⟩:=ht;have:=List.Nodup.length_le_of_subset h1.1 (l₂:=n.map (·.1)) fun v hv=>by
  have:=h v (by grind [jZ])
  grind [jZ]
 grind
theorem okU.same{U:List a8}{t:Lt.Vs}(hs:okU U s)(ht:okU U t)(h:∀v,bj s v=true->bj t v=true)(e:(s.getD []).length=(t.getD []).length):∀v,bj t v=true->bj s v=true:=by
 obtain⟨m,rfl,h1,_⟩:=hs;obtain⟨n,rfl,g1,_⟩:=ht;intro v hv;rw[jZ g1]at hv;have hv:=of_decide_eq_true hv
 rw[jZ h1];refine decide_eq_true (Classical.byContradiction fun hn=>?_);have:=List.Nodup.length_le_of_subset (l₁:=v::m.map (·.1)) (akT.2 ⟨hn,h1.1⟩) (l₂:=n.map (·.1)) fun u hu=>by
  rcases ajI.1 hu with rfl|hu
  ·exact hv
  have:=h u (by grind [jZ])
  grind [jZ]
 grind
theorem Je(m:VM)(k v:a8):bj (some (cQ .s m k true)) v=(decide (k=v)||bj (some m) v):=by
 grind [bj,nr]
theorem I4:∀(l:List a8)(m:VM)v,bj (some (l.foldl (fun m v=>cQ .s m v true) m)) v=(bj (some m) v||decide (v∈l))
 |[],m,v=>by simp
 |k::r,m,v=>by
  rw[alI,I4 r,Je]
  grind
theorem yi(s:Lt.Vs)(l:List a8)(v:a8):bj (Ca s l) v=(bj s v||decide (v∈l)):=by
 unfold Ca;rw[I4];rfl
theorem PU{U:List a8}:∀(l:List a8)(m:VM),okU U (some m)->(∀v∈l,v∈U)->okU U (some (l.foldl (fun m v=>cQ .s m v true) m))
 |[],m,h,_=>h
 |k::r,m,h,hl=>by
  rw[alI];refine PU r _ ?_ fun v hv=>hl v (aj1 _ hv)
  obtain⟨m',e,h1,h2⟩:=h;obtain rfl:=Option.some.inj e;refine⟨_,rfl,h1.ins k,fun v hv=>?_⟩
  grind [m7]
theorem okU.put{U:List a8}(h:okU U s){l:List a8}(hl:∀v∈l,v∈U):okU U (Ca s l):=by
 obtain⟨m,rfl,h1,h2⟩:=h;exact PU l m ⟨m,rfl,h1,h2⟩ hl
theorem A2[Inhabited α]{body:(Int×VM->Prop)->Int×VM->Prop}(l:List α)(nm:α->List a8)(m:VM)(KK:Lt.Vs->Prop)
  (hs:∀R(i:Nat)m,i<l.length->(l.length<=4611686018427387904->R (i64.wrap ((i:Int)+1),(nm (l.getD i default)).foldl (fun m v=>cQ .s m v true) m))->body R ((i:Int),m))
  (a:∀R m,KK (some m)->body R ((l.length:Int),m)) (h:KK (Ca (some m) (l.flatMap nm))):ab body (0,m):=by
 refine dl l (fun m i=>(i,m)) (fun r m=>KK (Ca (some m) (r.flatMap nm))) (fun R m i x r hi hx _ ih h=>hs R i m hi fun hl=>ih hl _ ?_) (fun R m h=>a R m h) m h
 grind [Ca]
theorem I3(g:α->a8)(l:List α):l.flatMap (fun x=>[g x])=l.map g:=by
 induction l<;>grind
theorem EQ(f:Lt.Func)(KK:Lt.Vs->Prop)(h:KK (Ih f)):yD f KK:=by
 unfold yD;intro hl;refine A2 f.Params (fun x=>[x.Name]) [] KK (fun R i m hi ih=>?_) (fun R m h=>?_) (by rw[I3];exact h)
 all_goals grind
theorem MQ(s:Lt.Vs)(b:Lt.Block)(hp:xn s b)(KK:Lt.Vs->Prop)(h:KK (mr s b)):Gg s b KK:=by
 unfold Gg;refine⟨hp,fun hl=>?_⟩;have es:some (s.getD [])=s:=by unfold xn at hp;cases s<;>grind
 refine A2 b.Phis (fun x=>[x.Dst]) (s.getD []) KK (fun R i m hi ih=>?_) (fun R m h=>?_) (by rw[I3,es];exact h)
 all_goals grind
theorem aaK(g:α->a8)(l:List α):l.flatMap (fun x=>if g x=[]then []else [g x])=(l.map g).filter fun d=>!decide (d=[]):=by
 induction l<;>grind
theorem MP(s:Lt.Vs)(b:Lt.Block)(hp:xn s b)(KK:Lt.Vs->Prop)(h:KK (iH s b)):Gf s b KK:=by
 unfold Gf;refine⟨hp,fun hl=>?_⟩;have es:some (s.getD [])=s:=by unfold xn at hp;cases s<;>grind
 refine A2 b.Code (fun x=>if x.Dst=[]then []else [x.Dst]) (s.getD []) KK (fun R i m hi ih=>?_) (fun R m h=>?_) (by rw[aaK,es];exact h)
 ·rw[if_pos (aP hi)];intro J a
  grind
 grind
theorem uB:∀(l:List α)(i:Nat)(hi:i<l.length)(d:α)x,x∈l ↔ x=l.getD i d\/x∈l.eraseIdx i
 |[],i,hi,d,x=>by grind
 |y::l,0,hi,d,x=>by simp
 |y::l,i+1,hi,d,x=>by
  have:=uB l i (by grind) d x
  grind
theorem MR(a b:Lt.Vs)(hp:Qj a b)(KK:Lt.Vs->Prop)(h:∀y,KB a b y->KK y):Gh a b KK:=by
 unfold Gh;refine ifk (fun g=>h b ⟨fun _=>rfl,fun hn=>absurd (by simp_all) hn⟩) (fun g=>?_);obtain⟨A,rfl⟩:∃A,a=some A:=by cases a<;>grind
 have j:VMo A:=by
  rcases hp with hp|⟨n,l,e,h1,h2,_⟩
  ·cases hp
  obtain rfl:=Option.some.inj e;exact⟨h1,h2⟩
 refine l9 (fun v=>VMo v.1/\(∀x∈v.2,x∈A)/\(∀u,u∈v.1.map (·.1)->u∈A.map (·.1)/\bj b u=true)/\∀u,u∈A.map (·.1)->bj b u=true->u∈v.1.map (·.1)\/u∈v.2.map (·.1)) (fun v=>v.2.length) (fun R v⟨h1,h2,h3,h4⟩ih=>⟨fun e=>h _ ⟨fun e=>(by cases e),fun _=>⟨fun n hn=>?_,fun u=>?_⟩⟩,fun i hi=>?_⟩) _ ⟨.nil,fun x hx=>hx,fun u c=>(by cases c),fun u c _=>.inr c⟩
 ·obtain⟨l,e',g1,g2,g3⟩:=hn;obtain rfl:=Option.some.inj e';refine⟨v.1,rfl,h1.1,h1.2,?_⟩;have:=List.Nodup.length_le_of_subset h1.1 (l₂:=A.map (·.1)) fun u c=>(h3 u c).1
  grind
 ·grind [jZ]
 obtain⟨f,rest⟩:=v;dsimp only at h1 h2 h3 h4 ih hi⊢;have hm:=uB rest i hi default
 have d:(rest.eraseIdx i).length<rest.length:=by grind
 have hx:rest.getD i default∈A:=h2 _ ((hm _).2 (.inl rfl))
 generalize rest.getD i default=x at hm hx;have hb:∀w,(aL (β:=Bool) .s (b.getD []) w).getD (dflt .bo)=bj b w:=fun w=>rfl
 grind [VMo.ins,m7]
def Cv(a:List (List Int))(KK:(List Int)->Prop):Prop:=
 aa (α:=List Int) (fun j=>(a.length<=4611686018427387904->((0:Int)<=(a.length:Int)/\(a.length:Int)<=4611686018427387904/\1*(a.length:Int).toNat<=281474976710656)/\(a.length<=4611686018427387904->if decide ((a.length:Int)=0)then(j [])else(((0:Int)<=0/\0 < (((List.replicate (a.length:Int).toNat (dflt .bo)).length:Nat):Int))/\0 < (List.replicate (a.length:Int).toNat (dflt .bo)).length/\ab (α:=List Bool×List Int×List Lt.step) (fun f v4=>have z3:=(i64.wrap ((v4.2.2.length:Int) - 1));have c:=(v4.2.2.getD z3.toNat default);have e:=a.getD (c.at_).toNat [];have z4:=v4.2.2.set z3.toNat (Lt.step.mk (c.at_) (i64.wrap ((c.next)+1)));have d:=e.getD (c.next).toNat default;have i:=([(Lt.step.mk d 0)]:List Lt.step);(v4.2.2.length<=4611686018427387904->if decide (0 < (v4.2.2.length:Int))then((v4.2.2.length<=4611686018427387904->((0:Int)<=z3/\z3 < ((v4.2.2.length:Nat):Int))/\((0:Int)<=c.at_/\(c.at_).toNat<a.length)/\(e.length<=4611686018427387904->if decide (c.next=(e.length:Int))then((v4.2.1.length+([c.at_]:List Int).length<=4611686018427387904/\(v4.2.1.length+([c.at_]:List Int).length)*8<=140737488355328)/\(v4.2.2.length<=4611686018427387904->(0<=z3/\z3.toNat<=v4.2.2.length)/\f (v4.1,(v4.2.1++([c.at_]:List Int)),(v4.2.2.take z3.toNat))))else(((0:Int)<=c.at_/\(c.at_).toNat<a.length)/\((0:Int)<=c.next/\(c.next).toNat<e.length)/\z3.toNat<v4.2.2.length/\aa (α:=Bool) (fun g=>if decide (0<=d)then(if decide (d < (a.length:Int))then(((0:Int)<=d/\d < ((v4.1.length:Nat):Int))/\g (!(v4.1.getD d.toNat default)))else(g false))else(g false)) (fun l=>if l then(((0:Int)<=d/\d < ((v4.1.length:Nat):Int))/\d.toNat<v4.1.length/\(z4.length+i.length<=4611686018427387904/\(z4.length+i.length)*16<=140737488355328)/\f ((v4.1.set d.toNat true),v4.2.1,(z4++i)))else(f (v4.1,v4.2.1,z4)))))))else(j v4.2.1))) (((List.replicate (a.length:Int).toNat (dflt .bo)).set 0 true),[],[(Lt.step.mk 0 0)]))))) (fun h=>(h.length<=4611686018427387904->ab (α:=Int×Int×List Int) (fun k b=>have z5:=b.2.2.set b.1.toNat (b.2.2.getD b.2.1.toNat default);if decide (b.1<b.2.1)then(((0:Int)<=b.2.1/\b.2.1 < ((b.2.2.length:Nat):Int))/\((0:Int)<=b.1/\b.1 < ((b.2.2.length:Nat):Int))/\((0:Int)<=b.1/\b.1 < ((b.2.2.length:Nat):Int))/\b.1.toNat<b.2.2.length/\((0:Int)<=b.2.1/\b.2.1 < ((z5.length:Nat):Int))/\b.2.1.toNat<z5.length/\k ((i64.wrap (b.1+1)),(i64.wrap (b.2.1 - 1)),(z5.set b.2.1.toNat (b.2.2.getD b.1.toNat default))))else(KK b.2.2)) (0,(i64.wrap ((h.length:Int) - 1)),h)))
def PrF(g:List (List Int)):List Int->List Int->Prop
 |_,[]=>True
 |a,x::r=>(x≠0->∃y∈a,x∈g.getD y.toNat [])/\PrF g (x::a) r
variable{g:List (List Int)}
theorem PrF.mono:∀{r s t:List Int},PrF g s r->(∀x∈s,x∈t)->PrF g t r
 |[],s,t,_,_=>trivial
 |x::r,s,t,h,hs=>⟨fun e=>by obtain⟨y,hy,h'⟩:=h.1 e;grind,h.2.mono fun y hy=>by
   grind⟩
theorem Ea:∀{a b s:List Int},PrF g s (a++b) ↔ PrF g s a/\PrF g (a.reverse++s) b
 |[],b,s=>by simp[PrF]
 |x::a,b,s=>by
  rw[ak2,List.reverse_cons,akR];show((x≠0->∃y∈s,x∈g.getD y.toNat [])/\PrF g (x::s) (a++b)) ↔ ((x≠0->∃y∈s,x∈g.getD y.toNat [])/\PrF g (x::s) a)/\PrF g (a.reverse++(x::s)) b
  rw[Ea (a:=a),and_assoc]
theorem PrF.at:∀{r s:List Int},PrF g s r->∀i,i<r.length->r.getD i 0≠0->(∃y∈s,r.getD i 0∈g.getD y.toNat [])\/∃j,j<i/\r.getD i 0∈g.getD (r.getD j 0).toNat []
 |[],s,h,i,hi,_=>by grind
 |x::r,s,h,0,hi,e=>.inl (h.1 e)
 |x::r,s,h,i+1,hi,e=>by
  rcases h.2.at i (by grind) e with⟨y,hy,h'⟩|⟨j,hj,h'⟩
  ·rcases ajI.1 hy with rfl|hy
   ·exact .inr ⟨0,by omega,h'⟩
   grind
  exact .inr ⟨j+1,by omega,h'⟩
def atS(S:List Lt.step):List Int:=S.map (·.at_)
def wkS(g:List (List Int))(S:List Lt.step):Nat:=(S.map fun s=>(g.getD s.at_.toNat []).length-s.next.toNat+1).sum
structure DF (g:List (List Int)) (mk:List Bool) (out:List Int) (S:List Lt.step):Prop where
 ol:mk.length=g.length
 lt:∀k∈atS S++out.reverse,0<=k/\k < (g.length:Int)
 mv:∀k:Nat,k<g.length->(mk.getD k false=true ↔ (k:Int)∈atS S++out.reverse)
 z:(0:Int)∈atS S++out.reverse
 nd:(atS S++out.reverse).Nodup
 pr:PrF g [] (atS S++out.reverse)
 nx:∀s∈S,0<=s.next/\s.next.toNat<=(g.getD s.at_.toNat []).length
 co:∀k∈out,∀s∈g.getD k.toNat [],s∈atS S++out.reverse
 cs:∀s∈S,∀j,j<s.next.toNat->(g.getD s.at_.toNat []).getD j default∈atS S++out.reverse
variable{mk:List Bool}
theorem DF.len{out:List Int}{S:List Lt.step}(h:DF g mk out S):S.length+out.length<=g.length:=by
 have:=List.Nodup.length_le_of_subset h.nd (l₂:=(List.range g.length).map fun(i:Nat)=>(i:Int)) fun k hk=>by
  obtain⟨a,b⟩:=h.lt k hk;exact ajX.2 ⟨k.toNat,List.mem_range.2 kQ1,by omega⟩
 grind [atS]
theorem DF.od{out:List Int}(h:DF g mk out [])(hg:∀l∈g,∀k∈l,0<=k/\k < (g.length:Int)):Lt.Od g out.reverse:=by
 have e:atS []++out.reverse=out.reverse:=rfl
 refine⟨h.lt,fun k hk=>?_,h.nd,fun i hi hne=>?_⟩
 ·induction hk<;>grind [z,co,Int.toNat_natCast]
 rcases h.pr.at i hi hne with⟨y,hy,_⟩|h'
 all_goals grind
variable{t:Lt.step}
theorem DF.pop{out:List Int}{S:List Lt.step}(h:DF g mk out (S++[t]))(ht:t.next.toNat=(g.getD t.at_.toNat []).length):DF g mk (out++[t.at_]) S:=by
 have e:atS S++(out++[t.at_]).reverse=atS (S++[t])++out.reverse:=by simp[atS]
 refine⟨h.ol,by rw[e];exact h.lt,by grind [mv],by grind [z],by grind [nd],by grind [pr],fun s hs=>h.nx s (ak8 _ hs),fun k hk s hs=>?_,fun s hs j hj=>by grind [cs]⟩;rw[e];rcases ajO.1 hk with hk|hk
 ·grind [co]
 obtain rfl:=ajQ.1 hk;obtain⟨j,hj,e2⟩:=ajU.1 hs;have:=h.cs t (ak5 _ (ajQ.2 rfl)) j kQ1
 grind
theorem DF.on{out:List Int}{S R:List Lt.step}(h:DF g mk out (S++t::R))(ht:t.next.toNat < (g.getD t.at_.toNat []).length)(hm:(g.getD t.at_.toNat []).getD t.next.toNat default∈atS (S++t::R)++out.reverse):DF g mk out (S++Lt.step.mk t.at_ (t.next+1)::R):=by
 have e:atS (S++Lt.step.mk t.at_ (t.next+1)::R)=atS (S++t::R):=by simp[atS]
 have tm:t∈S++t::R:=ak5 _ (List.mem_cons_self)
 have tn:=(h.nx t tm).1
 have sp:∀s∈S++Lt.step.mk t.at_ (t.next+1)::R,s=Lt.step.mk t.at_ (t.next+1)\/s∈S++t::R:=fun s hs=>by
  grind
 refine⟨h.ol,by rw[e];exact h.lt,by grind [mv],by grind [z],by grind [nd],by grind [pr],fun s hs=>?_,by grind [co],fun s hs j hj=>?_⟩
 ·rcases sp s hs with rfl|hs
  ·grind
  exact h.nx s hs
 grind [cs]
theorem DF.push{out:List Int}{S:List Lt.step}{z:Int}(h:DF g mk out (S++[t]))(hz:0<=z/\z < (g.length:Int))(hn:¬ mk.getD z.toNat false=true)(hm:z∈g.getD t.at_.toNat []):DF g (mk.set z.toNat true) out (S++[t]++[Lt.step.mk z 0]):=by
 have e:atS (S++[t]++[Lt.step.mk z 0])=atS (S++[t])++[z]:=by simp[atS]
 have hl:z.toNat<mk.length:=by grind [ol]
 have hni:z ∉ atS (S++[t])++out.reverse:=fun hi=>hn ((h.mv z.toNat kQ1).2 (by grind))
 have up:∀k,k∈atS (S++[t])++out.reverse->k∈atS (S++[t]++[Lt.step.mk z 0])++out.reverse:=fun k hk=>by
  grind
 have dn:∀k,k∈atS (S++[t]++[Lt.step.mk z 0])++out.reverse->k=z\/k∈atS (S++[t])++out.reverse:=fun k hk=>by
  grind
 refine⟨by grind [ol],fun k hk=>?_,fun k hk=>?_,up _ h.z,?_,?_,fun s hs=>?_,fun k hk s hs=>up _ (h.co k hk s hs),fun s hs j hj=>?_⟩
 ·rcases dn k hk with rfl|hk
  ·exact hz
  exact h.lt k hk
 ·grind [dP,mv]
 ·grind [nd]
 ·rw[e,akR];have hp:=Ea.1 h.pr
  refine Ea.2 ⟨hp.1,fun _=>⟨t.at_,?_,hm⟩,hp.2.mono fun x hx=>aj1 _ hx⟩;simp[atS]
 ·rcases ajO.1 hs with hs|hs
  ·exact h.nx s hs
  grind
 grind [cs]
theorem Yu(S:List α)(t x:α){m:Nat}(h:m=S.length):(S++[t]).set m x=S++[x]:=by
 simp_all
theorem JA(g:List (List Int))(hp:AT g)(KK:List Int->Prop)(h:∀y,DD g y->KK y):Cv g KK:=by
 unfold Cv;obtain⟨⟨hn,u⟩,ag,Q⟩:=hp;dsimp only;intro J hJ hl;have hz:(g.length:Int).toNat=g.length:=Int.toNat_natCast _
 rw[hz];have hr:(List.replicate g.length (dflt .bo):List Bool).length=g.length:=akU
 refine⟨⟨by omega,by omega,by omega⟩,fun _=>?_⟩;rw[if_neg (by grind)];refine⟨⟨by omega,by omega⟩,by omega,?_⟩;have P:∀mk out,DF g mk out []->J out:=fun mk out hd=>by
  refine hJ out fun M=>?_
  have b:=hd.len
  simp only[ajS,akX]at b;generalize hn':out.length=n at b M⊢;rw[cz kQ1 kQ1];refine l9 (fun v=>∃i:Nat,v.1=(i:Int)/\v.2.1=(n:Int) - 1 - (i:Int)/\2*i<=n+1/\v.2.2.length=n/\∀k,k<n->v.2.2.getD k default=if k<i\/n<=k+i then out.getD (n - 1-k) default else out.getD k default) (fun v=>(v.2.1-v.1).toNat) (fun R v hv ih=>?_) _ ⟨0,rfl,by grind,by omega,hn',fun k hk=>by grind⟩;obtain⟨v1,v2,l⟩:=v;obtain⟨i,O,V,h3,h4,h5⟩:=hv;dsimp only at O V h4 h5 ih⊢;subst O V;refine ifk (fun hc=>?_) (fun hc=>?_)
  ·have hc:=of_decide_eq_true hc
   generalize hj:((n:Int) - 1 - (i:Int)).toNat=j;have W:j=n - 1-i:=by omega
   have C:i<l.length:=by omega
   have aa:j<l.length:=by omega
   rw[Int.toNat_natCast];refine⟨⟨by omega,by omega⟩,⟨by omega,by omega⟩,⟨by omega,by omega⟩,C,⟨by omega,by grind⟩,by grind,?_⟩;rw[ae kQ1,cz kQ1 kQ1];refine ih _ ⟨i+1,rfl,by grind,by omega,by grind,fun k hk=>?_⟩ (by grind);dsimp only;rw[fU _ (by grind),fU _ C];by_cases ej:k=j
   ·grind
   grind
  have hc:¬ (i:Int) < (n:Int) - 1 - (i:Int):=by grind
  have:l=out.reverse:=zO default (by grind) fun k hk=>by
   grind
  rw[this];exact h _ (hd.od Q)
 have H:DF g ((List.replicate g.length (dflt .bo):List Bool).set 0 true) [] [Lt.step.mk 0 0]:=by
  refine⟨by grind,fun k hk=>?_,fun k hk=>?_,by simp[atS],by simp[atS],⟨fun e=>absurd rfl e,trivial⟩,fun s hs=>?_,fun k hk=>(by cases hk),fun s hs j hj=>?_⟩
  ·grind [atS]
  ·rw[dP kQ1,show(List.replicate g.length (dflt .bo):List Bool).getD k false=false from uW _ _ _];simp[atS]
  all_goals grind
 refine l9 (fun v=>DF g v.1 v.2.1 v.2.2) (fun v=>1000002*iL v.1+wkS g v.2.2) (fun R v hd ih=>?_) _ H;obtain⟨mk,out,S⟩:=v;dsimp only at hd ih⊢;have b:=hd.len
 intro _;refine ifk (fun B=>?_) (fun U=>?_)
 rotate_left
 ·have e0:S=[]:=akG (by grind)
  grind
 have B:0<S.length:=by grind
 have hw:i64.wrap ((S.length:Int) - 1)=((S.length - 1:Nat):Int):=by
  grind [cz]
 rw[hw];dsimp +instances only [Int.toNat_natCast]
 generalize hmm:S.length - 1=m;have a:S=S.take m++[S.getD m default]:=by
  have:=ba S (i:=m) kQ1
  grind
 have G:(S.take m).length=m:=by grind
 generalize S.getD m default=t at a;generalize hT:S.take m=T at a G;have r:t∈S:=by grind
 have p:=hd.lt t.at_ (ak8 _ (ajX.2 ⟨t,r,rfl⟩))
 obtain⟨E,hx1⟩:=hd.nx t r;have d:t.at_.toNat<g.length:=by omega
 have A:g.getD t.at_.toNat []∈g:=by grind
 have ad:=u _ A
 have I:=Q _ A
 have Z:wkS g S=wkS g T+((g.getD t.at_.toNat []).length-t.next.toNat+1):=by grind [wkS]
 rw[a]at hd;have D:∀x,S.set m x=T++[x]:=fun x=>by grind [Yu]
 intro _;refine⟨⟨by omega,by omega⟩,⟨p.1,d⟩,fun _=>?_⟩;refine ifk (fun he=>?_) (fun K=>?_)
 ·grind [DF.pop]
 have K:¬ t.next=((g.getD t.at_.toNat []).length:Int):=by grind
 have c:t.next.toNat < (g.getD t.at_.toNat []).length:=by omega
 have f:(g.getD t.at_.toNat []).getD t.next.toNat default∈g.getD t.at_.toNat []:=aC _ c
 have o:=I _ f
 have L:i64.wrap (t.next+1)=t.next+1:=cz kQ1 kQ1
 rw[D,L];have N:=hd.on c
 have Y:wkS g (T++[Lt.step.mk t.at_ (t.next+1)])+1=wkS g S:=by
  grind [wkS]
 refine⟨⟨p.1,d⟩,⟨E,c⟩,by omega,fun J5 q=>?_⟩;generalize hze:(g.getD t.at_.toNat []).getD t.next.toNat default=z at f o N q⊢;have F:=hd.mv z.toNat kQ1
 rw[Int.toNat_of_nonneg o.1]at F;rw[if_pos (by grind),if_pos (by grind)];have ab:=hd.ol
 refine⟨⟨by omega,by omega⟩,q _ ?_⟩;refine ifk (fun hc=>?_) (fun hc=>?_)
 ·have hf:mk.getD z.toNat false=false:=by grind
  have hf0:mk.getD z.toNat true=false:=by
   grind
  have ac:=kN mk z.toNat hf0
  have X:z.toNat<g.length:=by omega
  have af:(g.getD z.toNat []).length<=1000000:=u _ (by grind)
  refine⟨⟨by omega,by omega⟩,by omega,⟨?_,?_⟩,?_⟩
  ·grind
  ·grind
  have w:=hd.push o (by grind) f
  rw[akR]at w;have hq:=DF.on (S:=T) (R:=[Lt.step.mk z 0]) (t:=t) w c (by grind [atS])
  grind [wkS]
 grind
end Go.Am
end

section
namespace Go.Am
open Go
open Lt (nmB toB Gd Rc bkB phB cR Bare bj)
theorem dH(s:a8):∀(l:List Lt.Block)(i:Int),((i7 s l i).2=true->∃k,k<l.length/\(i7 s l i).1=i+(k:Int)/\(l.getD k default).Name=s)/\((∃k,k<l.length/\(l.getD k default).Name=s)->(i7 s l i).2=true)
 |[],i=>⟨fun h=>(by cases h),fun⟨k,hk,_⟩=>absurd hk (Nat.not_lt_zero k)⟩
 |b::r,i=>by
  unfold i7;by_cases e:b.Name=s
  ·grind
  rw[if_neg e];obtain⟨h1,h2⟩:=dH s r (i+1);refine⟨fun h=>?_,fun⟨k,hk,h⟩=>h2 ?_⟩
  ·obtain⟨k,hk,c,a⟩:=h1 h;exact⟨k+1,Nat.succ_lt_succ hk,by omega,a⟩
  grind
theorem pI(f:Lt.Func):(jl f).length=f.Blocks.length:=by grind [jl]
theorem WC(f:Lt.Func){i:Nat}(hi:i<f.Blocks.length):(jl f).getD i []=(toB f.Blocks i).filterMap (oG f):=by
 grind [jl]
theorem Kz(f:Lt.Func)(s:a8)(z:Int)(h:oG f s=some z):∃k:Nat,k<f.Blocks.length/\z=(k:Int)/\nmB f.Blocks k=s:=by
 grind [oG,dH,aI]
variable{f:Lt.Func}{k:Nat}
theorem zL(a:Gd f.Blocks){i:Nat}:(k:Int)∈(jl f).getD i [] ↔ i<f.Blocks.length/\k<f.Blocks.length/\nmB f.Blocks k∈toB f.Blocks i:=by
 grind [pI,WC,aI,dH,oG,Gd.nd]
theorem I1(hp:r6 f):uP (jl f):=by
 refine⟨by rw[pI];exact hp.1,fun l hl=>?_⟩;unfold jl at hl;obtain⟨b,hb,rfl⟩:=ajX.1 hl;exact akQ (B1 _ _) (hp.2 b hb)
theorem WD(hp:r6 f)(a:Gd f.Blocks):AT (jl f):=by
 refine⟨I1 hp,by rw[pI];exact a.ps,fun l hl k hk=>?_⟩
 grind [jl,Kz]
theorem TA(a:Gd f.Blocks)(hk:k<f.Blocks.length)(z:Int):z∈(ib (jl f)).getD k [] ↔ ∃i:Nat,z=(i:Int)/\i<f.Blocks.length/\nmB f.Blocks k∈toB f.Blocks i:=by
 grind [ib,Ql,jl,zL]
theorem TM(a:Gd f.Blocks)(hk:k<f.Blocks.length):Lt.Gr (jl f) k:=by
 have:=a.re k hk
 induction this with
 |first _=>exact .first
 |next i k _ hi hk hm ih=>exact .next i k (ih hi) ((zL a).2 ⟨hi,hk,hm⟩)
def univ(f:Lt.Func):List a8:=f.Params.map (·.Name)++f.Blocks.flatMap fun b=>b.Phis.map (·.Dst)++b.Code.map (·.Dst)
theorem I2{α β:Type}(g:α->List β)(c:Nat):∀l:List α,(∀x∈l,(g x).length<=c)->(l.flatMap g).length<=l.length*c
 |[],_=>by simp
 |x::r,h=>by
  have:=I2 g c r fun y hy=>h y (aj1 _ hy)
  grind [Nat.succ_mul]
theorem YI(hp:uN f):(univ f).length<=4000000000000:=by
 obtain⟨⟨h1,_⟩,_,h2,h3⟩:=hp;have:=I2 (fun b:Lt.Block=>b.Phis.map (·.Dst)++b.Code.map (·.Dst)) 2000000 f.Blocks fun b hb=>by
  grind
 grind [univ]
theorem agL:∀v∈f.Params.map (·.Name),v∈univ f:=fun v hv=>ak8 _ hv
theorem agK(hk:k<f.Blocks.length):∀v∈phB f k,v∈univ f:=fun v hv=>ak5 _ (alF.2 ⟨_,aC _ hk,ak8 _ hv⟩)
theorem agM(hk:k<f.Blocks.length):∀v∈cR (bkB f k),v∈univ f:=fun v hv=>ak5 _ (alF.2 ⟨_,aC _ hk,ak5 _ (List.mem_filter.1 hv).1⟩)
theorem okU.okV{U:List a8}{s:Lt.Vs}(h:okU U s):Lt.okV s (s.getD []).length:=by
 obtain⟨m,rfl,h1,h2⟩:=h;exact⟨m,rfl,h1.1,h1.2,ajB _⟩
theorem XH{U:List a8}{a b y:Lt.Vs}(h:okU U a)(hy:Lt.okV y (a.getD []).length)(c:∀v,bj y v=(bj a v&&bj b v)):okU U y:=by
 obtain⟨l,rfl,h1,h2,_⟩:=hy;refine⟨l,rfl,⟨h1,h2⟩,fun v hv=>?_⟩;have e:=c v
 rw[jZ ⟨h1,h2⟩,decide_eq_true hv]at e;have e:bj a v=true:=by grind
 obtain⟨m,rfl,g1,g2⟩:=h
 grind [jZ]
def szV(n:Nat)(s:Lt.Vs):Nat:=match s with|none=>n+1|some m=>m.length
def Lc(n:Nat)(l:List Lt.Vs):Nat:=(l.map (szV n)).sum
theorem Ld(n:Nat):∀(l:List Lt.Vs)(k:Nat)(s:Lt.Vs),k<l.length->Lc n (l.set k s)+szV n (l.getD k none)=Lc n l+szV n s
 |[],k,s,h=>by grind
 |x::l,0,s,h=>by grind [Lc]
 |x::l,k+1,s,h=>by
  have:=Ld n l k s (by grind)
  grind [Lc]
theorem XS(s:Lt.Vs)(f:Lt.Func)(k:Nat)(v:a8):bj (mr s (bkB f k)) v=(bj s v||decide (v∈phB f k)):=yi s _ v
theorem p5(s:Lt.Vs)(b:Lt.Block)(v:a8):bj (iH s b) v=(bj s v||decide (v∈cR b)):=yi s _ v
theorem ri(s:Lt.Vs)(b:Lt.Block):iH s b≠default:=fun e=>by cases e
def pd(f:Lt.Func)(outs:List Lt.Vs)(k:Nat)(v:a8):Prop:=(k=0->v∈f.Params.map (·.Name))/\∀i,i<f.Blocks.length->nmB f.Blocks k∈toB f.Blocks i->outs.getD i default≠default->bj (outs.getD i default) v=true
structure AI (f:Lt.Func) (ins outs:List Lt.Vs):Prop where
 li:ins.length=f.Blocks.length
 lo:outs.length=f.Blocks.length
 no:∀k,k<f.Blocks.length->ins.getD k default=default->outs.getD k default=default
 ok:∀k,k<f.Blocks.length->ins.getD k default≠default->okU (univ f) (ins.getD k default)/\outs.getD k default=iH (ins.getD k default) (bkB f k)
 ov:∀k,k<f.Blocks.length->ins.getD k default≠default->∀v,¬ Bare f v k->bj (ins.getD k default) v=true
 tr:∀k,k<f.Blocks.length->ins.getD k default≠default->∀v,pd f outs k v\/v∈phB f k->bj (ins.getD k default) v=true
variable{outs:List Lt.Vs}
theorem AI.on{ins:List Lt.Vs}(h:AI f ins outs)(hk:k<f.Blocks.length)(ho:outs.getD k default≠default):ins.getD k default≠default:=fun e=>ho (h.no k hk e)
theorem AI.step{ins:List Lt.Vs}(h:AI f ins outs)(hk:k<f.Blocks.length){x:Lt.Vs}(hx:okU (univ f) x)(he:∀v,bj x v=true ↔ pd f outs k v\/v∈phB f k) :
  AI f (ins.set k x) (outs.set k (iH x (bkB f k)))/\(ins.getD k default≠default->∀v,bj x v=true->bj (ins.getD k default) v=true):=by
 have hki:k<ins.length:=by grind [li]
 have hko:k<outs.length:=by grind [lo]
 have less:ins.getD k default≠default->∀v,bj x v=true->bj (ins.getD k default) v=true:=fun hs v hv=>h.tr k hk hs v ((he v).1 hv)
 have xs:x≠default:=fun e=>by have:=hx.isS;grind
 have mdn:∀j v,pd f (outs.set k (iH x (bkB f k))) j v->pd f outs j v:=fun j v hm=>by
  refine⟨hm.1,fun i hi hmem hs=>?_⟩;have h2:=hm.2 i hi hmem
  rw[fU _ hko]at h2;by_cases e:i=k
  ·subst e;rw[if_pos rfl]at h2;have h2:=h2 (ri _ _)
   have hin:=h.on hk hs
   rw[(h.ok i hk hin).2,p5]
   grind [p5]
  grind
 refine⟨⟨by grind [li],by grind [lo],fun j hj hs=>?_,fun j hj hs=>?_,fun j hj hs v hv=>?_,fun j hj hs v hv=>?_⟩,less⟩
 ·grind [fU,no]
 ·grind [fU,ok]
 ·rw[fU _ hki]at hs⊢;by_cases e:j=k
  ·subst e;rw[if_pos rfl];refine(he v).2 (Classical.or_iff_not_imp_right.2 fun hp=>⟨fun e0=>Classical.byContradiction fun hn=>hv (by subst e0;exact .first hn),fun i hi hmem hso=>Classical.byContradiction fun hn=>hv ?_⟩);have hin:=h.on hi hso
   rw[(h.ok i hi hin).2,p5]at hn;have n1:bj (ins.getD i default) v≠true:=fun e=>hn (by grind)
   have n2:v ∉ cR (bkB f i):=fun e=>hn (by grind)
   exact .next i j (Classical.byContradiction fun hb=>n1 (h.ov i hi hin v hb)) (fun hp=>n1 (h.tr i hi hin v (.inr hp))) n2 hi hj hmem
  grind [ov]
 grind [fU,tr]
theorem AI.fin{ins:List Lt.Vs}(h:AI f ins outs)(hs:∀k,k<f.Blocks.length->ins.getD k default≠default)(hx:∀k,k<f.Blocks.length->∀v,bj (ins.getD k default) v=true->pd f outs k v\/v∈phB f k):uK f ins:=by
 refine⟨h.li,fun k hk=>⟨(h.ok k hk (hs k hk)).1.isS,fun v=>⟨fun hv=>?_,fun hv=>hv.elim (h.ov k hk (hs k hk) v) fun hp=>h.tr k hk (hs k hk) v (.inr hp)⟩⟩⟩;refine Classical.or_iff_not_imp_right.2 fun hp hb=>?_
 have key:∀k,Bare f v k->k<f.Blocks.length->v ∉ phB f k->bj (ins.getD k default) v≠true:=fun k hb=>by
  induction hb with
  |first hn=>exact fun hk hp hv=>hn (((hx 0 hk v hv).resolve_right hp).1 rfl)
  |next i k _ h1 h2 hi hk' hm ih=>
   intro hk hp hv;have hso:=(h.ok i hi (hs i hi)).2
   have h3:=((hx k hk v hv).resolve_right hp).2 i hi hm (by grind [ri])
   grind [p5]
 grind
structure RI (f:Lt.Func) (y:List Int) (t0:Nat) (j:Nat) (ins outs:List Lt.Vs) (ch:Bool):Prop where
 ai:AI f ins outs
 dn:∀i,i<j->ins.getD (y.getD i default).toNat default≠default
 sz:Lc (univ f).length ins<=t0
 s2:ch=true->Lc (univ f).length ins<t0
 fx:ch=false->∀i,i<j->∀v,bj (ins.getD (y.getD i default).toNat default) v=true->pd f outs (y.getD i default).toNat v\/v∈phB f (y.getD i default).toNat
variable{y:List Int}
theorem RI.step{t0 j:Nat}{ins:List Lt.Vs}{ch:Bool}(h:RI f y t0 j ins outs ch)(ek:y.getD j default=(k:Int))(hk:k<f.Blocks.length)(hy:∀i,i<j->(y.getD i default).toNat<f.Blocks.length){x:Lt.Vs}(hx:okU (univ f) x)(he:∀v,bj x v=true ↔ pd f outs k v\/v∈phB f k){c:Bool}
  (hc:c=(if(ins.getD k default).isNone=true then true else if !decide ((((ins.getD k default).getD []).length:Int)=((x.getD []).length:Int))then true else ch)) :
  RI f y t0 (j+1) (ins.set k x) (outs.set k (iH x (bkB f k))) c:=by
 obtain⟨ha,less⟩:=h.ai.step hk hx he;have hki:k<ins.length:=by rw[h.ai.li];exact hk
 have hko:k<outs.length:=by rw[h.ai.lo];exact hk
 have xs:x≠default:=fun e=>by have:=hx.isS;grind
 have hsz:=Ld (univ f).length ins k x hki
 have hxl:=hx.len
 obtain⟨mx,rfl⟩:∃mx,x=some mx:=by cases x<;>grind
 have s1:szV (univ f).length (some mx)=mx.length:=rfl
 simp only[akP]at hxl hc;have ways:(ins.getD k default=none/\c=true)\/(∃m,ins.getD k default=some m/\mx.length<=m.length/\((mx.length<m.length/\c=true)\/(mx.length=m.length/\c=ch))):=by
  cases hi:ins.getD k default with
  |none=>grind
  |some m=>
   refine .inr ⟨m,rfl,?_⟩;have hne:ins.getD k default≠default:=by grind
   have hl:=less hne
   have hok:=(h.ai.ok k hk hne).1
   rw[hi]at hl hok hc;have hle:=hx.le hok hl
   grind
 refine⟨ha,fun i hi=>?_,?_,fun ec=>?_,fun ec i hi v hv=>?_⟩
 ·grind [fU,dn]
 ·have:=h.sz
  grind [szV]
 ·have:=h.sz
  rcases ways with⟨e,_⟩|⟨m,e,h1,⟨h2,_⟩|⟨h2,h3⟩⟩
  ·grind [szV]
  ·grind [szV]
  have e2:szV (univ f).length (ins.getD k none)=m.length:=by rw[show ins.getD k none=some m from e];rfl
  have:=h.s2 (by grind)
  omega
 rcases ways with⟨_,e⟩|⟨m,e,h1,⟨_,h2⟩|⟨h2,h3⟩⟩
 ·grind
 ·grind
 have hne:ins.getD k default≠default:=by grind
 have hok:=(h.ai.ok k hk hne)
 have hsame:=hx.same hok.1 (less hne) (by grind)
 have hiff:∀v,bj (some mx) v=bj (ins.getD k default) v:=fun v=>by
  grind
 have mup:∀q v,pd f outs q v->pd f (outs.set k (iH (some mx) (bkB f k))) q v:=fun q v hm=>by
  refine⟨hm.1,fun i hi hmem hs=>?_⟩;rw[fU _ hko]at hs⊢;by_cases ei:i=k
  ·subst ei;rw[if_pos rfl];have:=hm.2 i hi hmem (by grind [ri])
   grind [p5]
  rw[if_neg ei]at hs⊢;exact hm.2 i hi hmem hs
 rcases akM i j with h'|h'
 ·grind [fx]
 grind
theorem NX{t0:Nat}{ins:List Lt.Vs}{ch:Bool}(a:Gd f.Blocks)(hy:Lt.Od (jl f) y)(h:RI f y t0 y.length ins outs ch)(hc:ch=false):uK f ins:=by
 have b:∀k,k<f.Blocks.length->∃i,i<y.length/\(y.getD i default).toNat=k:=fun k hk=>by
  obtain⟨i,hi,e⟩:=ajU.1 (hy.all k (TM a hk));exact⟨i,hi,by grind⟩
 refine h.ai.fin (fun k hk=>?_) fun k hk v hv=>?_
 all_goals grind [RI.dn,RI.fx]
theorem SP(f:Lt.Func)(hp:uN f)(KK:List Lt.Vs->Prop)(h:∀y,uK f y->KK y):OU f KK:=by
 unfold OU;have an:=YI hp
 obtain⟨D,P,al,av⟩:=hp;have hn:=D.1
 have aA:=P.ps
 dsimp only;have l:(f.Blocks.length:Int).toNat=f.Blocks.length:=Int.toNat_natCast _
 rw[l];refine⟨D,I1 D,WD D P,fun y hy _=>⟨⟨by omega,by omega,by omega⟩,fun _=>⟨⟨by omega,by omega,by omega⟩,?_⟩⟩⟩;have hy:Lt.Od (jl f) y:=hy
 have ag:∀i,i<y.length->∃k:Nat,y.getD i default=(k:Int)/\k<f.Blocks.length:=fun i hi=>by
  have:=hy.lt _ (aC _ hi)
  rw[pI]at this;exact⟨(y.getD i default).toNat,by omega,by omega⟩
 have ar:(ib (jl f)).length=f.Blocks.length:=by grind [ib,pI]
 have Z:AI f (List.replicate f.Blocks.length (dflt (.mp .s .bo))) (List.replicate f.Blocks.length (dflt (.mp .s .bo))):=by
  have e:∀k,(List.replicate f.Blocks.length (dflt (.mp .s .bo)):List Lt.Vs).getD k default=default:=fun k=>uW _ _ _
  exact⟨akU,akU,fun k _ _=>e k,fun k _ hk=>absurd (e k) hk,fun k _ hk=>absurd (e k) hk,fun k _ hk=>absurd (e k) hk⟩
 refine l9 (fun v=>AI f v.1 v.2.1/\(v.2.2=false->uK f v.1)) (fun v=>Lc (univ f).length v.1+v.2.2.toNat) (fun R v⟨T,H⟩ih=>?_) _ ⟨Z,fun e=>by cases e⟩;obtain⟨Q,ad,aw⟩:=v;dsimp only at T H ih⊢;refine ifk (fun I=>?_) (fun I=>h _ (H (by grind)));subst I;intro am;refine au _ y.length (fun j v=>v.2.2.2=(j:Int)/\RI f y (Lc (univ f).length Q) j v.1 v.2.1 v.2.2.1) (fun R4 j v hj⟨e,d⟩aj=>?_) (fun R4 v⟨e,d⟩=>?_) _ ⟨rfl,⟨T,fun i hi=>by omega,ajB _,fun e=>(by cases e),fun _ i hi=>by omega⟩⟩
 rotate_left
 ·obtain⟨ins,outs,ch,v4⟩:=v;dsimp only at e d⊢;subst e;rw[if_neg (by simp)];refine ih _ ⟨d.ai,NX P hy d⟩ ?_;dsimp only;have h1:=d.sz
  cases ch with
  |true=>have:=d.s2 rfl;omega
  |false=>grind
 obtain⟨ins,outs,ch,v4⟩:=v;dsimp only at e d⊢;subst e;rw[if_pos (aP hj)];refine⟨ob hj,?_⟩;obtain⟨k,ek,hk⟩:=ag j hj;dsimp +instances only [Int.toNat_natCast]
 have X:k≠0->∃i,i<f.Blocks.length/\nmB f.Blocks k∈toB f.Blocks i/\outs.getD i default≠default:=fun r=>by
  obtain⟨j',W,hm⟩:=hy.pr j hj (by grind);have hm:y.getD j default∈(jl f).getD (y.getD j' default).toNat []:=hm
  rw[ek]at hm;obtain⟨h1,h2,h3⟩:=(zL P).1 hm;refine⟨_,h1,h3,?_⟩;rw[(d.ai.ok _ h1 (d.dn j' W)).2];exact ri _ _
 have K:∀i,i<j->(y.getD i default).toNat<f.Blocks.length:=fun i hi=>by
  grind
 have u:=TA P hk
 have p:=fun x hx he c hc=>d.step (x:=x) (c:=c) ek hk K hx he hc
 rw[ek];dsimp +instances only [Int.toNat_natCast]
 generalize(ib (jl f)).getD k []=L at u;have ao:=d.ai.li
 have ax:=d.ai.lo
 intro J6 ah;have A:∀C,(C=default/\k≠0)\/(okU (univ f) C/\∀v,bj C v=true ↔ (k=0->v∈f.Params.map (·.Name)))->J6 C:=fun C O=>by
  refine ah _ ⟨⟨by omega,by omega⟩,fun az=>?_⟩;refine au _ L.length (fun i v=>v.2=(i:Int)/\((v.1=default/\k≠0/\∀z∈L.take i,outs.getD z.toNat default=default)\/(okU (univ f) v.1/\∀w,bj v.1 w=true ↔ (k=0->w∈f.Params.map (·.Name))/\∀z∈L.take i,outs.getD z.toNat default≠default->bj (outs.getD z.toNat default) w=true))) (fun R8 i v hi⟨e,m⟩G=>?_) (fun R8 v⟨e,m⟩=>?_) _ ⟨rfl,O.imp (fun⟨a,b⟩=>⟨a,b,fun z l=>(by cases l)⟩) (fun⟨a,b⟩=>⟨a,fun w=>(b w).trans ⟨fun h=>⟨h,fun z l=>(by cases l)⟩,fun h=>h.1⟩⟩)⟩
  ·obtain⟨n,v9⟩:=v;dsimp only at e m⊢;subst e;rw[if_pos (aP hi)];intro ap t;dsimp +instances only [Int.toNat_natCast]at t⊢
   have E:L.getD i default∈L:=aC _ hi
   have tk:=ba L hi
   generalize L.getD i default=z at E tk t⊢;obtain⟨q,ez,hq,_⟩:=(u z).1 E;subst ez;rw[Int.toNat_natCast];refine⟨ob hi,⟨by omega,by omega⟩,?_⟩;have mem:∀U,U∈L.take (i+1) ↔ U∈L.take i\/U=(q:Int):=fun U=>by grind
   refine ifk (fun hc=>⟨⟨by omega,by omega⟩,?_,fun x hx=>?_⟩) (fun hc=>?_)
   ·rcases m with⟨e,_⟩|⟨g,_⟩
    ·exact .inl e
    exact .inr ⟨_,g.okV⟩
   ·have o:outs.getD q default≠default:=fun e=>by grind
    have N:=d.ai.ok q hq (d.ai.on hq o)
    have ac:okU (univ f) (outs.getD q default):=by rw[N.2];exact N.1.put (agM hq)
    refine t _ (G _ ⟨ae kQ1,.inr ?_⟩);dsimp only;rcases m with⟨e,r,hno⟩|⟨g,hw⟩
    ·have hx:=hx.1 e
     subst hx;refine⟨ac,fun w=>⟨fun hw=>⟨fun e=>absurd e r,fun z l hs=>?_⟩,fun hw=>?_⟩⟩
     ·rcases(mem z).1 l with l|rfl
      ·grind
      exact hw
     exact hw.2 (q:Int) ((mem _).2 (.inr rfl)) o
    have af:n≠none:=fun e=>by have:=g.isS;grind
    obtain⟨hx1,J⟩:=hx.2 af;refine⟨XH g (hx1 _ g.okV) J,fun w=>?_⟩;rw[J,ai9,hw];refine⟨fun⟨⟨a,b⟩,c⟩=>⟨a,fun z l hs=>?_⟩,fun⟨a,b⟩=>⟨⟨a,fun z l hs=>b z ((mem z).2 (.inl l)) hs⟩,b (q:Int) ((mem _).2 (.inr rfl)) o⟩⟩;rcases(mem z).1 l with l|rfl
    ·grind
    exact c
   have B:outs.getD q default=default:=by
    cases e:outs.getD q default<;>grind
   refine t _ (G _ ⟨ae kQ1,?_⟩);dsimp only;rcases m with⟨e,r,hno⟩|⟨g,hw⟩
   ·refine .inl ⟨e,r,fun z l=>?_⟩;rcases(mem z).1 l with l|rfl
    ·grind
    exact B
   refine .inr ⟨g,fun w=>(hw w).trans ⟨fun⟨a,b⟩=>⟨a,fun z l hs=>?_⟩,fun⟨a,b⟩=>⟨a,fun z l hs=>b z ((mem z).2 (.inl l)) hs⟩⟩⟩;rcases(mem z).1 l with l|rfl
   ·grind
   exact absurd B hs
  obtain⟨n,v9⟩:=v;dsimp only at e m⊢;subst e;rw[if_neg (by simp)];rw[alG]at m;have m:okU (univ f) n/\∀w,bj n w=true ↔ pd f outs k w:=by
   rcases m with⟨_,r,hno⟩|⟨g,hw⟩
   ·obtain⟨i,h1,h2,h3⟩:=X r;exact absurd (hno (i:Int) ((u _).2 ⟨i,rfl,h1,h2⟩)) h3
   refine⟨g,fun w=>(hw w).trans ⟨fun⟨a,b⟩=>⟨a,fun i h1 h2 h3=>b (i:Int) ((u _).2 ⟨i,rfl,h1,h2⟩) h3⟩,fun⟨a,b⟩=>⟨a,fun z l hs=>?_⟩⟩⟩;obtain⟨i,rfl,h1,h2⟩:=(u z).1 l;exact b i h1 h2 hs
  obtain⟨g,hw⟩:=m;intro aq F;rw[if_neg (by have:=g.isS;cases n<;>grind)];refine F _ ⟨⟨by omega,hk⟩,g.isS,?_⟩;have hx:okU (univ f) (mr n (bkB f k)):=g.put (agK hk)
  have he:∀v,bj (mr n (bkB f k)) v=true ↔ pd f outs k v\/v∈phB f k:=fun v=>by
   grind [XS]
  have p:=p _ hx he
  have V:=hx.len
  have Y:=hx.isS
  show aa (α:=Bool) _ _
  intro ak M ay S;have last:∀c,c=(if(ins.getD k default).isNone=true then true else if !decide ((((ins.getD k default).getD []).length:Int)=(((mr n (bkB f k)).getD []).length:Int))then true else ch)->ak c:=fun c hc=>
   M c ⟨⟨by omega,hk⟩,Y,⟨by omega,by omega⟩,by omega,⟨by omega,by omega⟩,by omega,aj _ ⟨ae kQ1,p c hc⟩⟩
  refine⟨⟨by omega,by omega⟩,?_⟩;by_cases hc:(ins.getD k default).isNone=true
  ·grind
  rw[if_neg hc];have ab:ins.getD k default≠default:=fun e=>hc (by grind)
  have aB:=(d.ai.ok k hk ab).1.len
  refine⟨⟨by omega,by omega⟩,by omega,?_,S _ ?_⟩
  ·exact akQ V kQ1
  dsimp only;refine ifk (fun hd=>last true (by rw[if_neg hc];exact(if_pos hd).symm)) (fun hd=>last ch (by rw[if_neg hc];exact(if_neg hd).symm))
 refine ifk (fun hc=>A _ (.inr ⟨(okU.nil _).put agL,fun v=>?_⟩)) (fun hc=>A _ (.inl ⟨rfl,fun e=>hc (by grind)⟩));have r:k=0:=by grind
 show bj (Ca _ _) v=true ↔ _
 grind [yi,bj,aL]
end Go.Am
end

section
namespace Go.Am
open Go
theorem aeG{n:Int}(h:(Lt.Of n).2=true):(1<=n/\n<=21/\(Lt.Of n).1.Least=2)\/(22<=n/\n<=24/\(Lt.Of n).1.Least=1)\/n=25\/(n=26/\(Lt.Of n).1.Least=1)\/(n=27/\(Lt.Of n).1.Least=2)\/(n=28/\(Lt.Of n).1.Least=2)\/n=29\/(n=30/\(Lt.Of n).1.Least=1)\/n=31\/n=32\/(n=33/\(Lt.Of n).1.Least=1)\/n=34:=by
 by_cases d:1<=n/\n<=21
 ·grind [Lt.Of]
 by_cases e:22<=n/\n<=24
 ·grind [Lt.Of]
 by_cases a:n=25
 ·omega
 by_cases b:n=26
 ·grind [Lt.Of]
 by_cases c:n=27
 all_goals grind [Lt.Of]
theorem JS(q:Lt.asked)(hp:AX q)(KK:Bool->Prop)(h:KK (vi q)):CO q KK:=by
 unfold CO;obtain⟨h1,h2,h3,h4⟩:=hp;have hl:=aeG h1
 unfold vi at h;have e:∀J:Bool->Prop,(if q.i.Op=29 then J (decide (q.i.Op=29))else J (decide (q.i.Op=30)))=J (decide (q.i.Op=29\/q.i.Op=30)):=fun J=>by
  grind
 simp only[decide_eq_true_eq];simp only[e,ac,decide_eq_true_eq];refine ifk (fun k=>by grind) (fun k=>?_);rw[if_neg k]at h;refine ifk (fun l=>by grind) (fun l=>?_);rw[if_neg l]at h;refine ifk (fun p=>by grind) (fun p=>?_);rw[if_neg p]at h;refine ifk (fun m=>by grind) (fun m=>?_);rw[if_neg m]at h;refine ifk (fun n=>by grind) (fun n=>?_);rw[if_neg n]at h;refine ifk (fun f=>?_) (fun f=>?_)
 ·rw[if_pos f]at h;exact⟨⟨by omega,by omega⟩,h⟩
 rw[if_neg f]at h;refine ifk (fun o=>by grind) (fun o=>?_);rw[if_neg o]at h;refine ifk (fun j=>?_) (fun j=>?_)
 ·rw[if_pos j]at h;refine⟨⟨by omega,h2⟩,?_⟩
  grind
 rw[if_neg j]at h;refine ifk (fun g=>?_) (fun g=>?_)
 ·rw[if_pos g]at h;refine⟨⟨by omega,h2⟩,?_⟩
  grind
 rw[if_neg g]at h;refine ifk (fun c=>?_) (fun c=>?_)
 ·grind
 rw[if_neg c]at h;refine ifk (fun a=>?_) (fun a=>?_)
 ·rw[if_pos a]at h;exact⟨fun r=>by omega,h⟩
 rw[if_neg a]at h;refine ifk (fun b=>?_) (fun b=>?_)
 ·rw[if_pos b]at h;intro J s
  grind
 rw[if_neg b]at h;refine ifk (fun d=>?_) (fun d=>?_)
 ·rw[if_pos d]at h;intro J s
  grind
 grind
theorem Xh(p:Lt.Program)(f:Lt.Func)(i:Lt.Instr)(hp:uO p f i)(KK:Lt.asked×Bool->Prop)(h:KK (oM p f i)):UZ p f i KK:=by
 unfold UZ;dsimp only;have hp:i.Args.length<=1000000:=hp
 unfold oM at h;intro J j;have c:(iN f i&&i.Args.all fun a=>(gV f a).2)=false->KK (⟨⟨false,[],[],[],[]⟩,⟨0,[],[],[],[],[]⟩,[],[]⟩,false):=fun e=>by rw[if_neg (by grind)]at h;exact h
 have t:J (!((Lt.Of i.Op).2&&(decide ((Lt.Of i.Op).1.Least<=(i.Args.length:Int))&&decide ((i.Args.length:Int)<=(Lt.Of i.Op).1.Most)))):=j _ (by
  dsimp only;refine ifk (fun hc=>c ?_) (fun hc g b=>?_)
  ·grind [iN]
  have hc:(Lt.Of i.Op).2=true/\(Lt.Of i.Op).1.Least<=(i.Args.length:Int)/\(i.Args.length:Int)<=(Lt.Of i.Op).1.Most:=by grind
  obtain⟨l,m,s⟩:=hc;have fin:∀d:a8,((!(Lt.Of i.Op).1.Dst||(gR f i.Dst).2)=true)->d=IL f i->g ⟨p,i,d,[]⟩:=fun d hd e=>b _ (by
   dsimp only;intro hl;have hf:iN f i=true:=by
    grind [iN]
   rw[hf,aj3]at h c;subst e;refine dl i.Args (fun(q:Lt.asked) (k:Int)=>(k,q)) (fun r q=>(q=⟨p,i,IL f i,q.args⟩/\(i.Args.all fun a=>(gV f a).2)=(r.all fun a=>(gV f a).2)/\q.args++lM f r=lM f i.Args)) (fun R q k x r hi hx _ ih hq=>?_) (fun R q hq=>?_) _ ⟨rfl,rfl,rfl⟩
   ·obtain⟨o,q2,n⟩:=hq;dsimp only;rw[if_pos (aP hi)];refine⟨ob hi,?_⟩
    grind [Int.toNat_natCast,lM,ajH]
   grind [lM])
  grind [iN,IL])
 grind
theorem Nr(p:Lt.Program)(f:Lt.Func)(i:Lt.Instr)(hp:ad1 p f i)(KK:Bool->Prop)(h:KK (lx p f i)):GP p f i KK:=by
 unfold GP;refine⟨hp,ifk (fun hc=>⟨?_,?_⟩) (fun hc=>?_)⟩
 ·have e:(iN f i&&i.Args.all fun a=>(gV f a).2)=true:=by
   grind [oM]
  have b:oM p f i=(⟨p,i,IL f i,lM f i.Args⟩,true):=by grind [oM]
  rw[b];unfold iN at e;simp only[ai9,decide_eq_true_eq]at e;refine⟨e.1.1,by simp[lM],?_,?_⟩
  all_goals grind [lM]
 all_goals grind [lx,oM]
end Go.Am
end
