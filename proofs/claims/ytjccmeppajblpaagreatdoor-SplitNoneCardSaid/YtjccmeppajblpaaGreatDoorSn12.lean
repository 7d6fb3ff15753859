/-
  Part 12: AmLay · AmNiceM · AmLoopE · AmNice17 · AmNice18 · AmG18.
-/
import Derived.Test.YtjccmeppajblpaaGreatDoorSn11
import Derived.Shelf.Small.Strs
import Derived.Shelf.Small.Wraps
import Derived.Shelf.Strings.Cut
import Derived.Shelf.Strings.Split
import Derived.Test.YtjccmeppajblpaaGreatDoorProg
set_option linter.unusedSimpArgs false
set_option linter.unusedVariables false
set_option linter.unusedSectionVars false
set_option linter.unnecessarySimpa false
section
namespace Go.Proofs
open Go.Shelf
def Tryz.lays137_ren:Go.Shelf.Ren:=⟨fun | 137=>129 | 217=>115 | 266=>124 | n=>n,fun | 9=>9 | 5=>5 | 3=>3 | n=>n,fun | n=>n⟩
theorem Tryz.lays137:Go.Proofs.Lays.n137 Tryz.prog Tryz.lays137_ren:={
 mixed:=by kernel_rfl
 f137:=Tryz.func129.trans (congrArg some (by kernel_rfl))
 f217:=Tryz.func115.trans (congrArg some (by kernel_rfl))
 f266:=Tryz.func124.trans (congrArg some (by kernel_rfl))
 t3:=Tryz.underlying3
 a3:=Tryz.isAgg3
 z3:=Tryz.sizeOf3
 v3:=Tryz.zeroValue3
 t5:=Tryz.underlying5
 a5:=Tryz.isAgg5
 z5:=Tryz.sizeOf5
 v5:=Tryz.zeroValue5
 t9:=Tryz.underlying9
 a9:=Tryz.isAgg9
 z9:=Tryz.sizeOf9
 v9:=Tryz.zeroValue9 }
open Go.RowKit in
theorem Tryz.strings_IndexByte (s:ByteArray) (c:Int) (w:World) :
  Calls Tryz.prog 129 #[.string s,.int .u8 c] w fun e w'=>e=.returned (.int .i64 (Lib.indexByte s.data.toList c.toNat.toUInt8))/\w'=w:=Any.strings_IndexByte Tryz.lays137 s c w
def Tryz.lays103_ren:Go.Shelf.Ren:=⟨fun | 103=>128 | 210=>131 | 206=>132 | n=>n,fun | 9=>9 | 4=>4 | 24=>198 | 3=>3 | n=>n,fun | n=>n⟩
theorem Tryz.lays103:Go.Proofs.Lays.n103 Tryz.prog Tryz.lays103_ren:={
 mixed:=by kernel_rfl
 f103:=Tryz.func128.trans (congrArg some (by kernel_rfl))
 f206:=Tryz.func132.trans (congrArg some (by kernel_rfl))
 f210:=Tryz.func131.trans (congrArg some (by kernel_rfl))
 t3:=Tryz.underlying3
 a3:=Tryz.isAgg3
 z3:=Tryz.sizeOf3
 v3:=Tryz.zeroValue3
 t4:=Tryz.underlying4
 a4:=Tryz.isAgg4
 z4:=Tryz.sizeOf4
 v4:=Tryz.zeroValue4
 t9:=Tryz.underlying9
 a9:=Tryz.isAgg9
 z9:=Tryz.sizeOf9
 v9:=Tryz.zeroValue9
 t24:=Tryz.underlying198
 a24:=Tryz.isAgg198
 z24:=Tryz.sizeOf198
 v24:=Tryz.zeroValue198 }
open Go.RowKit in
theorem Tryz.strings_CutPrefix (s p:ByteArray) (w:World) :
  Calls Tryz.prog 128 #[.string s,.string p] w fun e w'=>e=.returned (.tuple #[.string ⟨(Lib.trimPrefix s.data.toList p.data.toList).toArray⟩,.bool (Lib.hasPrefix s.data.toList p.data.toList)])/\w'=w:=Any.strings_CutPrefix Tryz.lays103 s p w
def Tryz.lays145_ren:Go.Shelf.Ren:=⟨fun | 145=>59 | 220=>73 | 219=>101 | 217=>115 | 225=>116 | 224=>117 | 267=>118 | 266=>124 | 314=>125 | n=>n,fun | 9=>9 | 4=>4 | 59=>139 | 3=>3 | 5=>5 | 46=>188 | 146=>192 | 51=>191 | n=>n,fun | 1=>1 | n=>n⟩
theorem Tryz.lays145:Go.Proofs.Lays.n145 Tryz.prog Tryz.lays145_ren:={
 mixed:=by kernel_rfl
 f145:=Tryz.func59.trans (congrArg some (by kernel_rfl))
 f217:=Tryz.func115.trans (congrArg some (by kernel_rfl))
 f219:=Tryz.func101.trans (congrArg some (by kernel_rfl))
 f220:=Tryz.func73.trans (congrArg some (by kernel_rfl))
 f224:=Tryz.func117.trans (congrArg some (by kernel_rfl))
 f225:=Tryz.func116.trans (congrArg some (by kernel_rfl))
 f266:=Tryz.func124.trans (congrArg some (by kernel_rfl))
 f267:=Tryz.func118.trans (congrArg some (by kernel_rfl))
 f314:=Tryz.func125.trans (congrArg some (by kernel_rfl))
 t3:=Tryz.underlying3
 a3:=Tryz.isAgg3
 z3:=Tryz.sizeOf3
 v3:=Tryz.zeroValue3
 t4:=Tryz.underlying4
 a4:=Tryz.isAgg4
 z4:=Tryz.sizeOf4
 v4:=Tryz.zeroValue4
 t5:=Tryz.underlying5
 a5:=Tryz.isAgg5
 z5:=Tryz.sizeOf5
 v5:=Tryz.zeroValue5
 t9:=Tryz.underlying9
 a9:=Tryz.isAgg9
 z9:=Tryz.sizeOf9
 v9:=Tryz.zeroValue9
 t46:=Tryz.underlying188
 a46:=Tryz.isAgg188
 z46:=Tryz.sizeOf188
 v46:=Tryz.zeroValue188
 t51:=Tryz.underlying191
 a51:=Tryz.isAgg191
 z51:=Tryz.sizeOf191
 v51:=Tryz.zeroValue191
 t59:=Tryz.underlying139
 a59:=Tryz.isAgg139
 z59:=Tryz.sizeOf139
 v59:=Tryz.zeroValue139
 t146:=Tryz.underlying192
 a146:=Tryz.isAgg192
 z146:=Tryz.sizeOf192
 v146:=Tryz.zeroValue192
 g1:=by kernel_rfl }
open Go.RowKit Go.Lib in
theorem Tryz.strings_Cut (s sep:ByteArray) (m:Int) (w:World) (hs:s.size < 4294967281) (hm:w.cell? ⟨1,0,none⟩=some (.int .i64 m)) :
  Calls Tryz.prog 59 #[.string s,.string sep] w fun e w'=>e=.returned (.tuple #[.string ⟨(Lib.cut s.data.toList sep.data.toList).1.toArray⟩,.string ⟨(Lib.cut s.data.toList sep.data.toList).2.1.toArray⟩,.bool (Lib.cut s.data.toList sep.data.toList).2.2])/\∃ n,w'=w.drewN n:=Any.strings_Cut Tryz.lays145 s sep m w hs hm
def Tryz.lays146_ren:Go.Shelf.Ren:=⟨fun | 146=>58 | 221=>72 | 268=>98 | 138=>99 | 143=>100 | 195=>112 | 197=>113 | 218=>114 | 219=>101 | 260=>123 | 217=>115 | 225=>116 | 224=>117 | 267=>118 | 266=>124 | 314=>125 | n=>n,fun | 9=>9 | 31=>39 | 3=>3 | 4=>4 | 0=>0 | 105=>184 | 21=>21 | 5=>5 | 46=>188 | 119=>194 | 139=>197 | 138=>196 | 146=>192 | 51=>191 | n=>n,fun | 1=>1 | 3=>2 | 4=>3 | n=>n⟩
theorem Tryz.lays146:Go.Proofs.Lays.n146 Tryz.prog Tryz.lays146_ren:={
 mixed:=by kernel_rfl
 f138:=Tryz.func99.trans (congrArg some (by kernel_rfl))
 f143:=Tryz.func100.trans (congrArg some (by kernel_rfl))
 f146:=Tryz.func58.trans (congrArg some (by kernel_rfl))
 f195:=Tryz.func112.trans (congrArg some (by kernel_rfl))
 f197:=Tryz.func113.trans (congrArg some (by kernel_rfl))
 f217:=Tryz.func115.trans (congrArg some (by kernel_rfl))
 f218:=Tryz.func114.trans (congrArg some (by kernel_rfl))
 f219:=Tryz.func101.trans (congrArg some (by kernel_rfl))
 f221:=Tryz.func72.trans (congrArg some (by kernel_rfl))
 f224:=Tryz.func117.trans (congrArg some (by kernel_rfl))
 f225:=Tryz.func116.trans (congrArg some (by kernel_rfl))
 f260:=Tryz.func123.trans (congrArg some (by kernel_rfl))
 f266:=Tryz.func124.trans (congrArg some (by kernel_rfl))
 f267:=Tryz.func118.trans (congrArg some (by kernel_rfl))
 f268:=Tryz.func98.trans (congrArg some (by kernel_rfl))
 f314:=Tryz.func125.trans (congrArg some (by kernel_rfl))
 t0:=Tryz.underlying0
 a0:=Tryz.isAgg0
 z0:=Tryz.sizeOf0
 v0:=Tryz.zeroValue0
 t3:=Tryz.underlying3
 a3:=Tryz.isAgg3
 z3:=Tryz.sizeOf3
 v3:=Tryz.zeroValue3
 t4:=Tryz.underlying4
 a4:=Tryz.isAgg4
 z4:=Tryz.sizeOf4
 v4:=Tryz.zeroValue4
 t5:=Tryz.underlying5
 a5:=Tryz.isAgg5
 z5:=Tryz.sizeOf5
 v5:=Tryz.zeroValue5
 t9:=Tryz.underlying9
 a9:=Tryz.isAgg9
 z9:=Tryz.sizeOf9
 v9:=Tryz.zeroValue9
 t21:=Tryz.underlying21
 a21:=Tryz.isAgg21
 z21:=Tryz.sizeOf21
 v21:=Tryz.zeroValue21
 t31:=Tryz.underlying39
 a31:=Tryz.isAgg39
 z31:=Tryz.sizeOf39
 v31:=Tryz.zeroValue39
 t46:=Tryz.underlying188
 a46:=Tryz.isAgg188
 z46:=Tryz.sizeOf188
 v46:=Tryz.zeroValue188
 t51:=Tryz.underlying191
 a51:=Tryz.isAgg191
 z51:=Tryz.sizeOf191
 v51:=Tryz.zeroValue191
 t105:=Tryz.underlying184
 a105:=Tryz.isAgg184
 z105:=Tryz.sizeOf184
 v105:=Tryz.zeroValue184
 t119:=Tryz.underlying194
 a119:=Tryz.isAgg194
 z119:=Tryz.sizeOf194
 t138:=Tryz.underlying196
 a138:=Tryz.isAgg196
 z138:=Tryz.sizeOf196
 v138:=Tryz.zeroValue196
 t139:=Tryz.underlying197
 a139:=Tryz.isAgg197
 z139:=Tryz.sizeOf197
 v139:=Tryz.zeroValue197
 t146:=Tryz.underlying192
 a146:=Tryz.isAgg192
 z146:=Tryz.sizeOf192
 v146:=Tryz.zeroValue192
 g1:=by kernel_rfl
 g3:=by kernel_rfl
 g4:=by kernel_rfl }
open Go.RowKit Go.Lib in
theorem Tryz.strings_Split (s sep:ByteArray) (m:Int) (w:World) (hs:s.size < 4294967281) (hm:w.cell? ⟨1,0,none⟩=some (.int .i64 m)) (h1:1<=sep.size) :
  Calls Tryz.prog 58 #[.string s,.string sep] w fun e w'=>
   e=.returned (.slice (some ⟨w.heap.size,0,none⟩) (Lib.countB s sep+1) (Lib.countB s sep+1))/\w'=w.alloc (.cells ((Lib.splitB sep 0 (Lib.countB s sep) s).map Value.string).toArray 9):=Any.strings_Split Tryz.lays146 (by kernel_rfl) s sep m w hs hm h1
end Go.Proofs
end

section
namespace Lt
open Go
def digs (n:Nat):List UInt8:=if n < 10 then [UInt8.ofNat (48+n)] else digs (n / 10)++[UInt8.ofNat (48+n % 10)]
def dG (n:Int):Int:=IntKind.u8.wrap (IntKind.i64.wrap (48+(if n < 0 then IntKind.i64.wrap (0-n) else n)))
def bP (n:Int):List UInt8:=(if n < 0 then [45] else [])++digs n.natAbs
def kA (a b:List Var):Bool:=decide (a=b)
def kq (a b:List Arg):Bool:=decide (a=b)
def j0 (a b:Instr):Bool:=decide (a=b)
def jY (a b:Block):Bool:=decide (a=b)
def lX (a b:Func):Bool:=decide (a=b)
abbrev plus (n:Int) (k:Nat):Int:=IntKind.i64.wrap (n+(k:Int))
def upto (most n k:Int):Int:=if n<=most then IntKind.i64.wrap (n+k) else n
def vN (most:Int):List Var->Int->Int
 | [],n=>n
 | v::r,n=>if n<=most then (let m:=plus n v.Name.length; vN most r (if m<=most then plus m v.Type_.length else m)) else n
def dW (l:List Var) (most:Int):Int:=if most < (l.length:Int) then IntKind.i64.wrap (most+1) else vN most l (l.length:Int)
def uQ (most:Int):List Arg->Int->Int
 | [],n=>n
 | a::r,n=>if n<=most then uQ most r (plus n a.S.length) else n
def dk (l:List Arg) (most:Int):Int:=if most < (l.length:Int) then IntKind.i64.wrap (most+1) else uQ most l (l.length:Int)
def lC (most:Int):List Bind->Int->Int
 | [],n=>n
 | b::r,n=>if n<=most then (let m:=plus (IntKind.i64.wrap (n+1)) b.Name.length; lC most r (if m<=most then plus m b.A.S.length else m)) else n
def jq (most:Int):List Frame->Int->Int
 | [],n=>n
 | f::r,n=>if n<=most then (let m:=plus n f.Func.length; jq most r (lC most f.Vars (if m<=most then plus m f.Block.length else m))) else n
def pM (most:Int):List Virt->Int->Int
 | [],n=>n
 | o::r,n=>if n<=most then (let m:=plus n o.Class.length; pM most r (if m<=most then IntKind.i64.wrap (m+dk o.Vals most) else m)) else n
def dN (x:Instr) (most:Int):Int:=
 if (decide (most < (x.Frames.length:Int)))||(decide (most < (x.Objs.length:Int))) then IntKind.i64.wrap (most+1)
 else
  pM most x.Objs (jq most x.Frames (upto most (upto most (plus (plus (plus 1 x.Dst.length) x.Frames.length) x.Objs.length) (x.Name.length:Int)) (dk x.Args most)))
def cTo (most:Int):List (List UInt8)->Int->Int
 | [],n=>n
 | t::r,n=>if n<=most then cTo most r (plus (IntKind.i64.wrap (n+1)) t.length) else n
def Aq (most:Int):List In->Int->Int
 | [],n=>n
 | b::r,n=>if n<=most then (let m:=plus (IntKind.i64.wrap (n+1)) b.Block.length; Aq most r (if m<=most then plus m b.A.S.length else m)) else n
def oP (most:Int):List Phi->Int->Int
 | [],n=>n
 | x::r,n=>if n<=most then oP most r (Aq most x.Ins (plus (IntKind.i64.wrap (n+1)) x.Dst.length)) else n
def nl (most:Int):List Instr->Int->Int
 | [],n=>n
 | x::r,n=>if n<=most then nl most r (IntKind.i64.wrap (n+dN x most)) else n
def dB (b:Block) (most:Int):Int:=
 if (decide (most < (b.Phis.length:Int)))||(decide (most < (b.Code.length:Int)))||(decide (most < (b.End.To.length:Int))) then IntKind.i64.wrap (most+1)
 else
  nl most b.Code (oP most b.Phis (cTo most b.End.To (upto most (plus 1 b.Name.length) (b.End.A.S.length:Int))))
def kU (most:Int):List Block->Int->Int
 | [],n=>n
 | x::r,n=>if n<=most then kU most r (IntKind.i64.wrap (n+dB x most)) else n
def jG (f:Func) (most:Int):Int:=
 if most < (f.Blocks.length:Int) then IntKind.i64.wrap (most+1)
 else
  kU most f.Blocks (upto most (upto most (upto most (plus 1 f.Name.length) (f.Result.length:Int)) (dW f.Params most)) (dW f.Vars most))
def inR (n:Int):Prop:=-9223372036854775808<=n/\n < 9223372036854775808
def Arg.ok (a:Arg):Prop:=inR a.N
def L0 (l:List Arg):Prop:=∀ a∈l,a.ok
def Bind.ok (b:Bind):Prop:=b.A.ok
def Frame.ok (f:Frame):Prop:=f.Vars.length<=4611686018427387904/\∀ b∈f.Vars,b.ok
def Virt.ok (o:Virt):Prop:=L0 o.Vals
def Instr.ok (i:Instr):Prop:=L0 i.Args/\(∀ f∈i.Frames,f.ok)/\(∀ o∈i.Objs,o.ok)
def In.ok (i:In):Prop:=i.A.ok
def Phi.ok (x:Phi):Prop:=x.Ins.length<=4611686018427387904/\∀ i∈x.Ins,i.ok
def Term.ok (t:Term):Prop:=t.A.ok/\inR t.N
def Block.ok (b:Block):Prop:=(∀ x∈b.Phis,x.ok)/\(∀ i∈b.Code,i.ok)/\b.End.ok
def Func.ok (f:Func):Prop:=∀ b∈f.Blocks,b.ok
def Program.ok (p:Program):Prop:=∀ f∈p.Funcs,f.ok
def room:Nat:=1099511627776
def lR (n:Int):Prop:=inR n
def KD (x:Instr) (most:Int):Prop:=x.ok/\most<=4611686018427387904
def KX (b:Block) (most:Int):Prop:=b.ok/\most<=4611686018427387904
def G0 (f:Func) (most:Int):Prop:=f.ok/\most<=4611686018427387904
def L7 (s:List UInt8) (c:UInt8):Int:=Go.Lib.indexByte s c
def PH (s p:List UInt8):List UInt8×Bool:=(Go.Lib.trimPrefix s p,Go.Lib.hasPrefix s p)
def RV (s p:List UInt8):List UInt8×List UInt8×Bool:=Go.Lib.cut s p
def zP (s p:List UInt8):List (List UInt8):=(Go.Lib.splitB ⟨p.toArray⟩ 0 (Go.Lib.countB ⟨s.toArray⟩ ⟨p.toArray⟩) ⟨s.toArray⟩).map (·.data.toList)
def QY (s p:List UInt8):Prop:=s.length < 4294967281
def Nc (s p:List UInt8):Prop:=s.length < 4294967281/\1<=p.length
def flt (n:Int):Value:=.iface 101 (.agg #[.int .i64 n])
end Lt
end

section
namespace Go.Am
open Go
def LEN:Nat:=4611686018427387904
theorem ob {i n:Nat} (h:i<n):(0:Int)<=(i:Int)/\(i:Int).toNat<n:=by
 rw [Int.toNat_natCast]; exact ⟨SR i,h⟩
theorem cz {i n:Nat} (h:i<n):decide ((i:Int) < (n:Int))=true:=by simpa using h
theorem wz {n:Nat}:decide ((n:Int) < (n:Int))=false:=by simp
section
variable {α:Type}
theorem eZ (x:α) (B:α->Prop):aJ (fun J=>J x) B=B x:=
 propext ⟨fun h=>h B (fun _ h=>h),fun h J hJ=>hJ x h⟩
theorem vg (c:Prop) [Decidable c] (A A':(α->Prop)->Prop) (B:α->Prop):aJ (fun J=>if c then A J else A' J) B=if c then aJ A B else aJ A' B:=by
 unfold aJ;by_cases hc:c <;> simp only [hc,if_true,if_false]
theorem eW (P:Prop) (A:(α->Prop)->Prop) (B:α->Prop):aJ (fun J=>P/\A J) B=(P/\aJ A B):=
 propext ⟨fun h=>⟨(h (fun _=>True) (fun _ _=>trivial)).1,fun J hJ=>(h J hJ).2⟩,fun h J hJ=>⟨h.1,h.2 J hJ⟩⟩
theorem eT (P:Prop) (A:(α->Prop)->Prop) (B:α->Prop):aJ (fun J=>P->A J) B=(P->aJ A B):=
 propext ⟨fun h hp J hJ=>h J hJ hp,fun h J hJ hp=>h hp J hJ⟩
theorem lx (P:Prop) (B:α->Prop):aJ (fun _=>P) B=P:=
 propext ⟨fun h=>h (fun _=>True) (fun _ _=>trivial),fun h _ _=>h⟩
theorem jval (c:Prop) [Decidable c] (x y:α) (J:α->Prop):(if c then J x else J y)=J (if c then x else y):=by split <;> rfl
theorem bor (b c:Bool):(if b=true then true else c)=(b||c):=by cases b <;> rfl
theorem band (b c:Bool):(if b=true then c else false)=(b&&c):=by cases b <;> rfl
theorem bnand (b c:Bool):(if b=true then false else c)=(!b&&c):=by cases b <;> rfl
theorem bimp (b c:Bool):(if b=true then c else true)=(!b||c):=by cases b <;> rfl
end
theorem aN {α:Type} (body:(α->Prop)->α->Prop) (m:Nat) (P:Nat->α->Prop)
  (hs:∀ R i x,i<m->P i x->(∀ y,P (i+1) y->R y)->body R x) (he:∀ R x,P m x->body R x) (x:α) (h:P 0 x):ax body x:=by
 have key:∀ k i x,i+k=m->P i x->nk body (k+1) x:=by
  intro k;induction k with
  | zero=>
   intro i x hi h;have e:i=m:=by omega
   subst e;exact he _ x h
  | succ k ih=>
   intro i x hi h;exact hs _ i x (by omega) h (fun y hy=>ih (i+1) y (by omega) hy)
 exact ⟨m+1,key m 0 x (by omega) h⟩
theorem kJ {α β ρ σ:Type} [Inhabited α] (l:List α) (hl:l.length<=LEN) (st:β->Int->σ) (go:List α->β->ρ) (KK:ρ->Prop) (body:(σ->Prop)->σ->Prop)
  (hs:∀ R b i,i<l.length->(∀ b',KK (go (l.drop (i+1)) b')->R (st b' (IntKind.i64.wrap ((i:Int)+1))))->KK (go (l.getD i default::l.drop (i+1)) b)->body R (st b i))
  (he:∀ R b,KK (go [] b)->body R (st b l.length)) (b:β) (h:KK (go l b)):ax body (st b 0):=by
 have key:∀ k i b,i+k=l.length->KK (go (l.drop i) b)->nk body (k+1) (st b (i:Int)):=by
  intro k;induction k with
  | zero=>
   intro i b hi h;have e:i=l.length:=by omega
   subst e;rw [T7] at h;exact he _ b h
  | succ k ih=>
   intro i b hi h;have hlt:i<l.length:=by omega
   rw [Tr hlt] at h;have e:l.getD i default=l[i]:=by rw [List.getD,SK hlt]; rfl
   rw [<- e] at h;refine hs _ b i hlt (fun b' h'=>?_) h;rw [aw (by unfold LEN at hl; omega)];exact ih (i+1) b' (by omega) h'
 exact ⟨l.length+1,key l.length 0 b (by omega) h⟩
theorem JQ {α β ρ:Type} [Inhabited α] (l:List α) (hl:l.length<=LEN) (go:List α->β->ρ) (KK:ρ->Prop) (body:(β×Int->Prop)->β×Int->Prop)
  (hs:∀ R b i,i<l.length->(∀ b',KK (go (l.drop (i+1)) b')->R (b',(IntKind.i64.wrap ((i:Int)+1))))->KK (go (l.getD i default::l.drop (i+1)) b)->body R (b,(i:Int)))
  (he:∀ R b,KK (go [] b)->body R (b,(l.length:Int))) (b:β) (h:KK (go l b)):ax body (b,0):=
 kJ l hl (fun b i=>(b,i)) go KK body hs he b h
theorem KJ {α:Type} [Inhabited α] (l:List α) (hl:l.length<=LEN) (p:α->Bool) (rest:Bool) (KK:Bool->Prop) (body:(Int->Prop)->Int->Prop)
  (hs:∀ R i,i<l.length->(p (l.getD i default)=true->R (IntKind.i64.wrap ((i:Int)+1)))->(p (l.getD i default)=false->KK false)->body R (i:Int))
  (he:∀ R,KK rest->body R (l.length:Int)) (h:KK (l.all p&&rest)):ax body 0:=by
 refine kJ l hl (fun (_:Unit) i=>i) (fun t _=>t.all p&&rest) KK body (fun R _ i hi ih h=>?_) (fun R _ h=>he R (by simpa using h)) () h;refine hs R i hi (fun hp=>ih () ?_) (fun hp=>?_)
 ·simp only [S6,hp,TH] at h; exact h
 ·simp only [S6,hp,Ua] at h; exact h
theorem j9 {β:Type} (N:Nat) (hN:N<=LEN) (g:Nat->β) (body:(β×Int->Prop)->β×Int->Prop)
  (hs:∀ R i,i<N->R (g (i+1),IntKind.i64.wrap ((i:Int)+1))->body R (g i,(i:Int)))
  (he:∀ R,body R (g N,(N:Int))) {b:β} (hb:g 0=b):ax body (b,0):=by
 subst hb;refine aN body N (fun i x=>x=(g i,(i:Int))) (fun R i x hi hx ih=>?_) (fun R x hx=>?_) _ rfl
 ·subst hx;refine hs R i hi (ih _ ?_);rw [aw (by unfold LEN at hN; omega)]
 ·subst hx; exact he R
theorem bL {α:Type} [Inhabited α] (l:List α) {i:Nat} (h:i<l.length):l.take (i+1)=l.take i++[l.getD i default]:=by
 rw [List.take_add_one,List.getD,SK h]; rfl
theorem bQ {α:Type} [Inhabited α] (l:List α) {i:Nat} (h:i<l.length):l.getD i default∈l:=by
 rw [List.getD,SK h]; exact Tk h
end Go.Am
end

section
namespace Lt
open Go
def names (f:Func):List (List UInt8):=f.Blocks.map (·.Name)++(f.Params.map (·.Name)++f.Vars.map (·.Name))
def cj (s:List UInt8):List Block->Int->Int×Bool
 | [],_=>(0,false)
 | b::r,i=>if b.Name=s then (i,true) else cj s r (i+1)
def aA (f:Func) (s:List UInt8):Int×Bool:=cj s f.Blocks 0
def ee (known:List (List UInt8)) (begin:List UInt8):Nat->Nat->Nat
 | 0,n=>n
 | k+1,n=>if begin++bP n∈known then ee known begin k (n+1) else n
def sK:Bool:=true
end Lt
end

section
namespace Lt
open Go
def iU (f:Func) (s:List UInt8):Int×Bool:=aA f s
abbrev bY (f:Func) (i:Nat):List (List UInt8):=(f.Blocks.getD i default).End.To
def qe (f:Func) (i k:Int):Prop:=0<=i/\i < (f.Blocks.length:Int)
def qw (f:Func) (i k:Int):Bool:=(bY f i.toNat).any fun s=>(aA f s).2&&decide ((aA f s).1=k)
def uY (f:Func):Prop:=f.Blocks.length<=1000000
def JC (f:Func):Bool:=decide ((f.Blocks.length:Int)<=60)&&f.Blocks.all fun b=>decide ((b.End.To.length:Int)<=8)&&(decide ((b.Phis.length:Int)<=40)&&b.Phis.all fun p=>decide ((p.Ins.length:Int)<=60))
def D3 (v:Int):List Int->Int->Int
 | [],_=>-1
 | x::r,i=>if v=x then i else D3 v r (i+1)
def xG (l:List Int) (v:Int):Int:=D3 v l 0
def uj (l:List Int) (v:Int):Bool:=decide (0<=xG l v)
def CF (f:Func):Prop:=f.Blocks.length<=1000000/\∀ b∈f.Blocks,b.End.To.length<=1000000
def gU (f:Func) (s:List UInt8):Option Int:=if (aA f s).2=true then some (aA f s).1 else none
def fY (f:Func):List (List Int):=f.Blocks.map fun b=>b.End.To.filterMap (gU f)
def uI (g:List (List Int)):Prop:=g.length<=1000000/\∀ l∈g,l.length<=1000000
def zk (g:List (List Int)) (k:Nat):List Int:=((List.range g.length).filter fun i=>decide ((k:Int)∈g.getD i [])).map fun (i:Nat)=>(i:Int)
def eJ (g:List (List Int)):List (List Int):=(List.range g.length).map (zk g)
def mB (f:Func):Prop:=CF f
def gC (f:Func) (i k:Nat):Option way:=
 let z:=aA f ((bY f i).getD k default)
 if z.2=true/\1 < ((eJ (fY f)).getD z.1.toNat []).length then some ⟨i,k,z.1⟩ else none
def dp (f:Func) (i:Nat):List way:=if (bY f i).length < 2 then [] else (List.range (bY f i).length).filterMap (gC f i)
def aq (f:Func):List way:=(List.range f.Blocks.length).flatMap (dp f)
def pV (l:List Block):Prop:=l.length<=1000000/\∀ b∈l,b.End.To.length<=1000000/\b.Phis.length<=1000000/\∀ p∈b.Phis,p.Ins.length<=1000000
def iR (a b:List UInt8) (x:In):In:=if x.Block=a then ⟨b,x.A⟩ else x
def dt (a b:List UInt8) (x:Phi):Phi:=⟨x.Dst,x.Ins.map (iR a b)⟩
def dn (a b:List UInt8) (x:Block):Block:=⟨x.Name,x.Phis.map (dt a b),x.Code,x.End⟩
def wD (k:Nat) (b:List UInt8) (x:Block):Block:=⟨x.Name,x.Phis,x.Code,⟨x.End.Kind,x.End.A,x.End.To.set k b,x.End.N⟩⟩
def fM (known:List (List UInt8)):List UInt8:=[115]++bP (ee known [115] known.length 0)
def ak (l:List Block) (w:way) (s:List UInt8):List Block:=
 let l1:=l.set w.to.toNat (dn (l.getD w.from_.toNat default).Name s (l.getD w.to.toNat default))
 l1.set w.from_.toNat (wD w.at_.toNat s (l1.getD w.from_.toNat default))++[⟨s,[],[],⟨1,⟨0,[],0⟩,[(l.getD w.to.toNat default).Name],0⟩⟩]
def bM (x:List (List UInt8)×List Block) (w:way):List (List UInt8)×List Block:=(x.1++[fM x.1],ak x.2 w (fM x.1))
def ri (f:Func):Prop:=f.Blocks.length<=1000/\(∀ b∈f.Blocks,b.End.To.length<=1000/\b.Phis.length<=1000000/\∀ p∈b.Phis,p.Ins.length<=1000000)/\f.Params.length+f.Vars.length<=1000000
def fp (f:Func):Func:=⟨f.Name,f.Result,f.Params,f.Vars,((aq f).foldl bM (names f,f.Blocks)).2⟩
inductive Reach (f:Func):Nat->Prop
 | first:0<f.Blocks.length->Reach f 0
 | next (i k:Nat):Reach f i->k<f.Blocks.length->qw f i k=true->Reach f k
def PE (f:Func) (i:Nat):Prop:=(aA f (f.Blocks.getD i default).Name).1=i/\∀ k,k < (bY f i).length->(aA f ((bY f i).getD k default)).2=true/\(aA f ((bY f i).getD k default)).1≠0/\∀ j,j<k->(bY f i).getD j default≠(bY f i).getD k default
def zh (f:Func):Prop:=(∀ i,i<f.Blocks.length->PE f i)/\(∀ k,k<f.Blocks.length->Reach f k)/\0<f.Blocks.length
def qv (f:Func) (l:List Bool):Prop:=l.length=f.Blocks.length/\∀ k,l.getD k false=true->Reach f k
def nL (f:Func) (y:Bool):Prop:=y=true->zh f
def tS (f:Func):Prop:=G0 f 3000
def qu (f:Func) (y:Bool):Prop:=y=true->jG f 3000<=3000/\JC f=true/\f.Blocks.length<=40/\IntKind.i64.wrap ((f.Params.length:Int)+(f.Vars.length:Int))<=100/\zh f
end Lt
end

section
namespace Go.Am
open Go
def uN (a0_f:Lt.Func) (a1_name:List UInt8) (KK:(Int×Bool)->Prop):Prop:=
 ax (α:=Int) (fun R1 v2=>(a0_f.Blocks.length<=4611686018427387904->if (decide (v2 < (a0_f.Blocks.length:Int)))=true then (((0:Int)<=v2/\v2.toNat<a0_f.Blocks.length)/\if (decide ((a0_f.Blocks.getD v2.toNat default).Name=a1_name))=true then (KK (v2,true)) else (R1 (IntKind.i64.wrap (v2+1)))) else (KK (0,false)))) 0
def uf (a0_f:Lt.Func) (a1_from:Int) (a2_to:Int) (KK:Bool->Prop):Prop:=
 ax (α:=Int) (fun R1 v2=>((0:Int)<=a1_from/\a1_from.toNat<a0_f.Blocks.length)/\((((a0_f.Blocks.getD a1_from.toNat default).End).To).length<=4611686018427387904->if (decide (v2 < ((((a0_f.Blocks.getD a1_from.toNat default).End).To).length:Int)))=true then (((0:Int)<=a1_from/\a1_from.toNat<a0_f.Blocks.length)/\((0:Int)<=v2/\v2.toNat < (((a0_f.Blocks.getD a1_from.toNat default).End).To).length)/\aJ (α:=Bool) (fun J3=>if ((Lt.iU a0_f ((((a0_f.Blocks.getD a1_from.toNat default).End).To).getD v2.toNat default)).2)=true then (J3 (decide ((Lt.iU a0_f ((((a0_f.Blocks.getD a1_from.toNat default).End).To).getD v2.toNat default)).1=a2_to))) else (J3 false)) (fun v4=>if v4=true then (KK true) else (R1 (IntKind.i64.wrap (v2+1))))) else (KK false))) 0
def zN (a0_f:Lt.Func) (KK:(List Bool)->Prop):Prop:=
 have z2:=(a0_f.Blocks.length:Int); have z1:=(List.replicate z2.toNat (dflt .bo)); (a0_f.Blocks.length<=4611686018427387904->((0:Int)<=z2/\z2<=4611686018427387904/\1*z2.toNat<=281474976710656)/\(z1.length<=4611686018427387904->ax (α:=List Bool×Bool) (fun R1 v2=>if v2.2=true then (((0:Int)<=0/\0 < ((v2.1.length:Nat):Int))/\0<v2.1.length/\ax (α:=List Bool×Bool×Int) (fun R3 v4=>(v4.1.length<=4611686018427387904->if (decide (v4.2.2 < (v4.1.length:Int)))=true then (ax (α:=List Bool×Bool×Int) (fun R5 v6=>aJ (α:=Bool) (fun J7=>(v6.1.length<=4611686018427387904->if (decide (v6.2.2 < (v6.1.length:Int)))=true then (((0:Int)<=v4.2.2/\v4.2.2 < ((v6.1.length:Nat):Int))/\J7 (v6.1.getD v4.2.2.toNat default)) else (J7 false))) (fun v8=>if v8=true then (aJ (α:=List Bool×Bool) (fun J9=>aJ (α:=Bool) (fun J11=>((0:Int)<=v6.2.2/\v6.2.2 < ((v6.1.length:Nat):Int))/\if (!(v6.1.getD v6.2.2.toNat default))=true then ((Lt.qe a0_f v4.2.2 v6.2.2)/\J11 (Lt.qw a0_f v4.2.2 v6.2.2)) else (J11 false)) (fun v12=>if v12=true then (((0:Int)<=v6.2.2/\v6.2.2 < ((v6.1.length:Nat):Int))/\v6.2.2.toNat<v6.1.length/\J9 ((v6.1.set v6.2.2.toNat true),true)) else (J9 (v6.1,v6.2.1)))) (fun v10=>R5 (v10.1,v10.2,(IntKind.i64.wrap (v6.2.2+1))))) else (R3 (v6.1,v6.2.1,(IntKind.i64.wrap (v4.2.2+1)))))) (v4.1,v4.2.1,0)) else (R1 (v4.1,v4.2.1)))) ((v2.1.set 0 true),false,0)) else (KK v2.1)) (z1,(decide (0 < (z1.length:Int))))))
def l4 (a0_l:List Lt.Var) (a1_most:Int) (KK:Int->Prop):Prop:=
 (a0_l.length<=4611686018427387904->if (decide (a1_most < (a0_l.length:Int)))=true then (KK (IntKind.i64.wrap (a1_most+1))) else ((a0_l.length<=4611686018427387904->ax (α:=Int×Int) (fun R1 v2=>aJ (α:=Bool) (fun J3=>(a0_l.length<=4611686018427387904->if (decide (v2.2 < (a0_l.length:Int)))=true then (J3 (decide (v2.1<=a1_most))) else (J3 false))) (fun v4=>if v4=true then (aJ (α:=Int) (fun J5=>((0:Int)<=v2.2/\v2.2.toNat<a0_l.length)/\(((a0_l.getD v2.2.toNat default).Name).length<=4611686018427387904->if (decide ((IntKind.i64.wrap (v2.1+(((a0_l.getD v2.2.toNat default).Name).length:Int)))<=a1_most))=true then (((0:Int)<=v2.2/\v2.2.toNat<a0_l.length)/\(((a0_l.getD v2.2.toNat default).Type_).length<=4611686018427387904->J5 (IntKind.i64.wrap ((IntKind.i64.wrap (v2.1+(((a0_l.getD v2.2.toNat default).Name).length:Int)))+(((a0_l.getD v2.2.toNat default).Type_).length:Int))))) else (J5 (IntKind.i64.wrap (v2.1+(((a0_l.getD v2.2.toNat default).Name).length:Int)))))) (fun v6=>R1 (v6,(IntKind.i64.wrap (v2.2+1))))) else (KK v2.1))) ((a0_l.length:Int),0))))
def ml (a0_l:List Lt.Arg) (a1_most:Int) (KK:Int->Prop):Prop:=
 (a0_l.length<=4611686018427387904->if (decide (a1_most < (a0_l.length:Int)))=true then (KK (IntKind.i64.wrap (a1_most+1))) else ((a0_l.length<=4611686018427387904->ax (α:=Int×Int) (fun R1 v2=>aJ (α:=Bool) (fun J3=>(a0_l.length<=4611686018427387904->if (decide (v2.2 < (a0_l.length:Int)))=true then (J3 (decide (v2.1<=a1_most))) else (J3 false))) (fun v4=>if v4=true then (((0:Int)<=v2.2/\v2.2.toNat<a0_l.length)/\(((a0_l.getD v2.2.toNat default).S).length<=4611686018427387904->R1 ((IntKind.i64.wrap (v2.1+(((a0_l.getD v2.2.toNat default).S).length:Int))),(IntKind.i64.wrap (v2.2+1))))) else (KK v2.1))) ((a0_l.length:Int),0))))
def kV (a0_x:Lt.Instr) (a1_most:Int) (KK:Int->Prop):Prop:=
 have z2:=(IntKind.i64.wrap ((IntKind.i64.wrap ((IntKind.i64.wrap (1+(a0_x.Dst.length:Int)))+(a0_x.Frames.length:Int)))+(a0_x.Objs.length:Int))); aJ (α:=Bool) (fun J1=>(a0_x.Frames.length<=4611686018427387904->if (decide (a1_most < (a0_x.Frames.length:Int)))=true then (J1 true) else (J1 (decide (a1_most < (a0_x.Objs.length:Int)))))) (fun v2=>if v2=true then (KK (IntKind.i64.wrap (a1_most+1))) else ((a0_x.Dst.length<=4611686018427387904->(a0_x.Frames.length<=4611686018427387904->(a0_x.Objs.length<=4611686018427387904->aJ (α:=Int) (fun J3=>if (decide (z2<=a1_most))=true then ((a0_x.Name.length<=4611686018427387904->J3 (IntKind.i64.wrap (z2+(a0_x.Name.length:Int))))) else (J3 z2)) (fun v4=>aJ (α:=Int) (fun J5=>if (decide (v4<=a1_most))=true then (J5 (IntKind.i64.wrap (v4+(Lt.dk a0_x.Args a1_most)))) else (J5 v4)) (fun v6=>ax (α:=Int×Int) (fun R7 v8=>have z4:=((0:Int)<=v8.2/\v8.2.toNat<a0_x.Frames.length); have z1:=a0_x.Frames.getD v8.2.toNat default; have z6:=(IntKind.i64.wrap (v8.1+((z1.Func).length:Int))); aJ (α:=Bool) (fun J9=>(a0_x.Frames.length<=4611686018427387904->if (decide (v8.2 < (a0_x.Frames.length:Int)))=true then (J9 (decide (v8.1<=a1_most))) else (J9 false))) (fun v10=>if v10=true then (z4/\((z1.Func).length<=4611686018427387904->aJ (α:=Int) (fun J11=>if (decide (z6<=a1_most))=true then (z4/\((z1.Block).length<=4611686018427387904->J11 (IntKind.i64.wrap (z6+((z1.Block).length:Int))))) else (J11 z6)) (fun v12=>ax (α:=Int×Int) (fun R13 v14=>have z7:=(z1.Vars).getD v14.2.toNat default; have z3:=(IntKind.i64.wrap ((IntKind.i64.wrap (v14.1+1))+((z7.Name).length:Int))); aJ (α:=Bool) (fun J15=>z4/\((z1.Vars).length<=4611686018427387904->if (decide (v14.2 < ((z1.Vars).length:Int)))=true then (J15 (decide (v14.1<=a1_most))) else (J15 false))) (fun v16=>if v16=true then (aJ (α:=Int) (fun J17=>z4/\((0:Int)<=v14.2/\v14.2.toNat < (z1.Vars).length)/\((z7.Name).length<=4611686018427387904->if (decide (z3<=a1_most))=true then (z4/\((0:Int)<=v14.2/\v14.2.toNat < (z1.Vars).length)/\(((z7.A).S).length<=4611686018427387904->J17 (IntKind.i64.wrap (z3+(((z7.A).S).length:Int))))) else (J17 z3))) (fun v18=>R13 (v18,(IntKind.i64.wrap (v14.2+1))))) else (R7 (v14.1,(IntKind.i64.wrap (v8.2+1)))))) (v12,0)))) else (ax (α:=Int×Int) (fun R19 v20=>have z8:=a0_x.Objs.getD v20.2.toNat default; have z5:=(IntKind.i64.wrap (v20.1+((z8.Class).length:Int))); aJ (α:=Bool) (fun J21=>(a0_x.Objs.length<=4611686018427387904->if (decide (v20.2 < (a0_x.Objs.length:Int)))=true then (J21 (decide (v20.1<=a1_most))) else (J21 false))) (fun v22=>if v22=true then (aJ (α:=Int) (fun J23=>((0:Int)<=v20.2/\v20.2.toNat<a0_x.Objs.length)/\((z8.Class).length<=4611686018427387904->if (decide (z5<=a1_most))=true then (((0:Int)<=v20.2/\v20.2.toNat<a0_x.Objs.length)/\J23 (IntKind.i64.wrap (z5+(Lt.dk (z8.Vals) a1_most)))) else (J23 z5))) (fun v24=>R19 (v24,(IntKind.i64.wrap (v20.2+1))))) else (KK v20.1))) (v8.1,0)))) (v6,0))))))))
def kC (a0_b:Lt.Block) (a1_most:Int) (KK:Int->Prop):Prop:=
 have z5:=(IntKind.i64.wrap (1+(a0_b.Name.length:Int))); aJ (α:=Bool) (fun J1=>(a0_b.Phis.length<=4611686018427387904->if (decide (a1_most < (a0_b.Phis.length:Int)))=true then (J1 true) else (if (decide (a1_most < (a0_b.Code.length:Int)))=true then (J1 true) else (J1 (decide (a1_most < (a0_b.End.To.length:Int))))))) (fun v2=>if v2=true then (KK (IntKind.i64.wrap (a1_most+1))) else ((a0_b.Name.length<=4611686018427387904->aJ (α:=Int) (fun J3=>if (decide (z5<=a1_most))=true then ((a0_b.End.A.S.length<=4611686018427387904->J3 (IntKind.i64.wrap (z5+(a0_b.End.A.S.length:Int))))) else (J3 z5)) (fun v4=>ax (α:=Int×Int) (fun R5 v6=>aJ (α:=Bool) (fun J7=>(a0_b.End.To.length<=4611686018427387904->if (decide (v6.2 < (a0_b.End.To.length:Int)))=true then (J7 (decide (v6.1<=a1_most))) else (J7 false))) (fun v8=>if v8=true then (((0:Int)<=v6.2/\v6.2.toNat<a0_b.End.To.length)/\((a0_b.End.To.getD v6.2.toNat default).length<=4611686018427387904->R5 ((IntKind.i64.wrap ((IntKind.i64.wrap (v6.1+1))+((a0_b.End.To.getD v6.2.toNat default).length:Int))),(IntKind.i64.wrap (v6.2+1))))) else (ax (α:=Int×Int) (fun R9 v10=>have z3:=((0:Int)<=v10.2/\v10.2.toNat<a0_b.Phis.length); have z1:=a0_b.Phis.getD v10.2.toNat default; aJ (α:=Bool) (fun J11=>(a0_b.Phis.length<=4611686018427387904->if (decide (v10.2 < (a0_b.Phis.length:Int)))=true then (J11 (decide (v10.1<=a1_most))) else (J11 false))) (fun v12=>if v12=true then (z3/\((z1.Dst).length<=4611686018427387904->ax (α:=Int×Int) (fun R13 v14=>have z4:=(z1.Ins).getD v14.2.toNat default; have z2:=(IntKind.i64.wrap ((IntKind.i64.wrap (v14.1+1))+((z4.Block).length:Int))); aJ (α:=Bool) (fun J15=>z3/\((z1.Ins).length<=4611686018427387904->if (decide (v14.2 < ((z1.Ins).length:Int)))=true then (J15 (decide (v14.1<=a1_most))) else (J15 false))) (fun v16=>if v16=true then (aJ (α:=Int) (fun J17=>z3/\((0:Int)<=v14.2/\v14.2.toNat < (z1.Ins).length)/\((z4.Block).length<=4611686018427387904->if (decide (z2<=a1_most))=true then (z3/\((0:Int)<=v14.2/\v14.2.toNat < (z1.Ins).length)/\(((z4.A).S).length<=4611686018427387904->J17 (IntKind.i64.wrap (z2+(((z4.A).S).length:Int))))) else (J17 z2))) (fun v18=>R13 (v18,(IntKind.i64.wrap (v14.2+1))))) else (R9 (v14.1,(IntKind.i64.wrap (v10.2+1)))))) ((IntKind.i64.wrap ((IntKind.i64.wrap (v10.1+1))+((z1.Dst).length:Int))),0))) else (ax (α:=Int×Int) (fun R19 v20=>aJ (α:=Bool) (fun J21=>(a0_b.Code.length<=4611686018427387904->if (decide (v20.2 < (a0_b.Code.length:Int)))=true then (J21 (decide (v20.1<=a1_most))) else (J21 false))) (fun v22=>if v22=true then (((0:Int)<=v20.2/\v20.2.toNat<a0_b.Code.length)/\(Lt.KD (a0_b.Code.getD v20.2.toNat default) a1_most)/\R19 ((IntKind.i64.wrap (v20.1+(Lt.dN (a0_b.Code.getD v20.2.toNat default) a1_most))),(IntKind.i64.wrap (v20.2+1)))) else (KK v20.1))) (v10.1,0)))) (v6.1,0)))) (v4,0)))))
def qf (a0_f:Lt.Func) (a1_most:Int) (KK:Int->Prop):Prop:=
 have z3:=(IntKind.i64.wrap (1+(a0_f.Name.length:Int))); (a0_f.Blocks.length<=4611686018427387904->if (decide (a1_most < (a0_f.Blocks.length:Int)))=true then (KK (IntKind.i64.wrap (a1_most+1))) else ((a0_f.Name.length<=4611686018427387904->aJ (α:=Int) (fun J1=>if (decide (z3<=a1_most))=true then ((a0_f.Result.length<=4611686018427387904->J1 (IntKind.i64.wrap (z3+(a0_f.Result.length:Int))))) else (J1 z3)) (fun v2=>aJ (α:=Int) (fun J3=>if (decide (v2<=a1_most))=true then (J3 (IntKind.i64.wrap (v2+(Lt.dW a0_f.Params a1_most)))) else (J3 v2)) (fun v4=>aJ (α:=Int) (fun J5=>if (decide (v4<=a1_most))=true then (J5 (IntKind.i64.wrap (v4+(Lt.dW a0_f.Vars a1_most)))) else (J5 v4)) (fun v6=>ax (α:=Int×Int) (fun R7 v8=>have z1:=a0_f.Blocks.getD v8.2.toNat default; have z2:=Lt.Block.mk (z1.Name) (z1.Phis) (z1.Code) (Lt.Term.mk ((z1.End).Kind) ((z1.End).A) ((z1.End).To) ((z1.End).N)); aJ (α:=Bool) (fun J9=>(a0_f.Blocks.length<=4611686018427387904->if (decide (v8.2 < (a0_f.Blocks.length:Int)))=true then (J9 (decide (v8.1<=a1_most))) else (J9 false))) (fun v10=>if v10=true then (((0:Int)<=v8.2/\v8.2.toNat<a0_f.Blocks.length)/\(Lt.KX z2 a1_most)/\R7 ((IntKind.i64.wrap (v8.1+(Lt.dB z2 a1_most))),(IntKind.i64.wrap (v8.2+1)))) else (KK v8.1))) (v6,0)))))))
def tY (a0_f:Lt.Func) (KK:Bool->Prop):Prop:=
 ax (α:=Int) (fun R1 v2=>have z1:=((a0_f.Blocks.getD v2.toNat default).End).To; (a0_f.Blocks.length<=4611686018427387904->if (decide (v2 < (a0_f.Blocks.length:Int)))=true then (((0:Int)<=v2/\v2.toNat<a0_f.Blocks.length)/\if (!decide ((Lt.iU a0_f ((a0_f.Blocks.getD v2.toNat default).Name)).1=v2))=true then (KK false) else (((0:Int)<=v2/\v2.toNat<a0_f.Blocks.length)/\ax (α:=Int) (fun R3 v4=>(z1.length<=4611686018427387904->if (decide (v4 < (z1.length:Int)))=true then (((0:Int)<=v4/\v4.toNat<z1.length)/\aJ (α:=Bool) (fun J5=>if (!((Lt.iU a0_f (z1.getD v4.toNat default)).2))=true then (J5 true) else (J5 (decide ((Lt.iU a0_f (z1.getD v4.toNat default)).1=0)))) (fun v6=>if v6=true then (KK false) else (ax (α:=Int) (fun R7 v8=>if (decide (v8<v4))=true then (((0:Int)<=v8/\v8.toNat<z1.length)/\((0:Int)<=v4/\v4.toNat<z1.length)/\if (decide ((z1.getD v8.toNat default)=(z1.getD v4.toNat default)))=true then (KK false) else (R7 (IntKind.i64.wrap (v8+1)))) else (R3 (IntKind.i64.wrap (v4+1)))) 0))) else (R1 (IntKind.i64.wrap (v2+1))))) 0)) else ((Lt.uY a0_f)/\(∀ y9:List Bool,Lt.qv a0_f y9->ax (α:=Int) (fun R10 v11=>(y9.length<=4611686018427387904->if (decide (v11 < (y9.length:Int)))=true then (((0:Int)<=v11/\v11.toNat<y9.length)/\if (!(y9.getD v11.toNat default))=true then (KK false) else (R10 (IntKind.i64.wrap (v11+1)))) else ((y9.length<=4611686018427387904->KK (decide (0 < (y9.length:Int))))))) 0)))) 0
def EK (a0_f:Lt.Func) (KK:Bool->Prop):Prop:=
 (a0_f.Blocks.length<=4611686018427387904->if (decide (60 < (a0_f.Blocks.length:Int)))=true then (KK false) else (ax (α:=Int) (fun R1 v2=>(a0_f.Blocks.length<=4611686018427387904->if (decide (v2 < (a0_f.Blocks.length:Int)))=true then (aJ (α:=Bool) (fun J3=>((0:Int)<=v2/\v2.toNat<a0_f.Blocks.length)/\((((a0_f.Blocks.getD v2.toNat default).End).To).length<=4611686018427387904->if (decide (8 < ((((a0_f.Blocks.getD v2.toNat default).End).To).length:Int)))=true then (J3 true) else (((0:Int)<=v2/\v2.toNat<a0_f.Blocks.length)/\J3 (decide (40 < (((a0_f.Blocks.getD v2.toNat default).Phis).length:Int)))))) (fun v4=>if v4=true then (KK false) else (ax (α:=Int) (fun R5 v6=>((0:Int)<=v2/\v2.toNat<a0_f.Blocks.length)/\(((a0_f.Blocks.getD v2.toNat default).Phis).length<=4611686018427387904->if (decide (v6 < (((a0_f.Blocks.getD v2.toNat default).Phis).length:Int)))=true then (((0:Int)<=v2/\v2.toNat<a0_f.Blocks.length)/\((0:Int)<=v6/\v6.toNat < ((a0_f.Blocks.getD v2.toNat default).Phis).length)/\(((((a0_f.Blocks.getD v2.toNat default).Phis).getD v6.toNat default).Ins).length<=4611686018427387904->if (decide (60 < (((((a0_f.Blocks.getD v2.toNat default).Phis).getD v6.toNat default).Ins).length:Int)))=true then (KK false) else (R5 (IntKind.i64.wrap (v6+1))))) else (R1 (IntKind.i64.wrap (v2+1))))) 0))) else (KK true))) 0))
def zW (a0_f:Lt.Func) (KK:Bool->Prop):Prop:=
 aJ (α:=Bool) (fun J1=>(Lt.G0 a0_f 3000)/\if (decide ((Lt.jG a0_f 3000)<=3000))=true then (if (Lt.JC a0_f)=true then (if (decide ((a0_f.Blocks.length:Int)<=40))=true then (if (decide ((IntKind.i64.wrap ((a0_f.Params.length:Int)+(a0_f.Vars.length:Int)))<=100))=true then ((Lt.uY a0_f)/\(∀ y3:Bool,Lt.nL a0_f y3->J1 y3)) else (J1 false)) else (J1 false)) else (J1 false)) else (J1 false)) (fun v2=>KK v2)
def qP (a0_f:Lt.Func) (a1_name:List UInt8) (KK:(Int×Bool)->Prop):Prop:=
 (a0_f.Blocks.length<=4611686018427387904->ax (α:=Int) (fun R1 v2=>if (decide (v2 < (a0_f.Blocks.length:Int)))=true then (((0:Int)<=v2/\v2.toNat<a0_f.Blocks.length)/\if (decide ((a0_f.Blocks.getD v2.toNat default).Name=a1_name))=true then (KK (v2,true)) else (R1 (IntKind.i64.wrap (v2+1)))) else (KK (0,false))) 0)
def Ff (a0_f:Lt.Func) (KK:(List (List Int))->Prop):Prop:=
 have z3:=(a0_f.Blocks.length:Int); (a0_f.Blocks.length<=4611686018427387904->((0:Int)<=z3/\z3<=4611686018427387904/\24*z3.toNat<=281474976710656)/\(a0_f.Blocks.length<=4611686018427387904->ax (α:=List (List Int)×Int) (fun R1 v2=>have z1:=((a0_f.Blocks.getD v2.2.toNat default).End).To; if (decide (v2.2<z3))=true then (((0:Int)<=v2.2/\v2.2.toNat<a0_f.Blocks.length)/\(z1.length<=4611686018427387904->ax (α:=List (List Int)×Int) (fun R3 v4=>have z2:=Lt.aA a0_f (z1.getD v4.2.toNat default); if (decide (v4.2 < (z1.length:Int)))=true then (aJ (α:=List (List Int)) (fun J5=>((0:Int)<=v4.2/\v4.2.toNat<z1.length)/\if (z2.2)=true then (((0:Int)<=v2.2/\v2.2 < ((v4.1.length:Nat):Int))/\((v4.1.getD v2.2.toNat []).length+([z2.1]:List Int).length<=4611686018427387904/\((v4.1.getD v2.2.toNat []).length+([z2.1]:List Int).length)*8<=140737488355328)/\((0:Int)<=v2.2/\v2.2 < ((v4.1.length:Nat):Int))/\v2.2.toNat<v4.1.length/\v2.2.toNat=v2.2.toNat/\J5 (v4.1.set v2.2.toNat ((v4.1.getD v2.2.toNat [])++([z2.1]:List Int)))) else (J5 v4.1)) (fun v6=>R3 (v6,(IntKind.i64.wrap (v4.2+1))))) else (R1 (v4.1,(IntKind.i64.wrap (v2.2+1))))) (v2.1,0))) else (KK v2.1)) ((List.replicate z3.toNat (dflt (.sl (.i .i64)))),0)))
def Cn (a0_s:List Int) (a1_v:Int) (KK:Bool->Prop):Prop:=
 KK (decide (0<=(Lt.xG a0_s a1_v)))
def yW (a0_s:List Int) (a1_v:Int) (KK:Int->Prop):Prop:=
 (a0_s.length<=4611686018427387904->ax (α:=Int) (fun R1 v2=>if (decide (v2 < (a0_s.length:Int)))=true then (((0:Int)<=v2/\v2.toNat<a0_s.length)/\if (decide (a1_v=(a0_s.getD v2.toNat default)))=true then (KK v2) else (R1 (IntKind.i64.wrap (v2+1)))) else (KK (-1))) 0)
def qm (a0_g:List (List Int)) (KK:(List (List Int))->Prop):Prop:=
 (a0_g.length<=4611686018427387904->((0:Int)<=(a0_g.length:Int)/\(a0_g.length:Int)<=4611686018427387904/\24*(a0_g.length:Int).toNat<=281474976710656)/\(a0_g.length<=4611686018427387904->ax (α:=List (List Int)×Int) (fun R1 v2=>have z3:=a0_g.getD v2.2.toNat []; if (decide (v2.2 < (a0_g.length:Int)))=true then (((0:Int)<=v2.2/\v2.2.toNat<a0_g.length)/\(z3.length<=4611686018427387904->ax (α:=List (List Int)×Int) (fun R3 v4=>have z1:=z3.getD v4.2.toNat default; have z2:=((0:Int)<=z1/\z1 < ((v4.1.length:Nat):Int)); if (decide (v4.2 < (z3.length:Int)))=true then (aJ (α:=List (List Int)) (fun J5=>((0:Int)<=v4.2/\v4.2.toNat<z3.length)/\aJ (α:=Bool) (fun J7=>if (decide (0<=z1))=true then (if (decide (z1 < (a0_g.length:Int)))=true then (z2/\True/\J7 (!(Lt.uj (v4.1.getD z1.toNat []) v2.2))) else (J7 false)) else (J7 false)) (fun v8=>if v8=true then (z2/\((v4.1.getD z1.toNat []).length+([v2.2]:List Int).length<=4611686018427387904/\((v4.1.getD z1.toNat []).length+([v2.2]:List Int).length)*8<=140737488355328)/\z2/\z1.toNat<v4.1.length/\z1.toNat=z1.toNat/\J5 (v4.1.set z1.toNat ((v4.1.getD z1.toNat [])++([v2.2]:List Int)))) else (J5 v4.1))) (fun v6=>R3 (v6,(IntKind.i64.wrap (v4.2+1))))) else (R1 (v4.1,(IntKind.i64.wrap (v2.2+1))))) (v2.1,0))) else (KK v2.1)) ((List.replicate (a0_g.length:Int).toNat (dflt (.sl (.i .i64)))),0)))
def uW (a0_f:Lt.Func) (KK:(List Lt.way)->Prop):Prop:=
 (Lt.CF a0_f)/\(Lt.uI (Lt.fY a0_f))/\(a0_f.Blocks.length<=4611686018427387904->ax (α:=List Lt.way×Int) (fun R1 v2=>have z2:=((a0_f.Blocks.getD v2.2.toNat default).End).To; if (decide (v2.2 < (a0_f.Blocks.length:Int)))=true then (aJ (α:=List Lt.way) (fun J3=>((0:Int)<=v2.2/\v2.2.toNat<a0_f.Blocks.length)/\(z2.length<=4611686018427387904->if (decide ((z2.length:Int) < 2))=true then (J3 v2.1) else ((z2.length<=4611686018427387904->ax (α:=List Lt.way×Int) (fun R5 v6=>have z1:=Lt.aA a0_f (z2.getD v6.2.toNat default); have z3:=([(Lt.way.mk v2.2 v6.2 (z1.1))]:List Lt.way); if (decide (v6.2 < (z2.length:Int)))=true then (aJ (α:=List Lt.way) (fun J7=>((0:Int)<=v6.2/\v6.2.toNat<z2.length)/\aJ (α:=Bool) (fun J9=>if (z1.2)=true then (((0:Int)<=z1.1/\(z1.1).toNat < (Lt.eJ (Lt.fY a0_f)).length)/\J9 (decide (1 < (((Lt.eJ (Lt.fY a0_f)).getD (z1.1).toNat []).length:Int)))) else (J9 false)) (fun v10=>if v10=true then ((v6.1.length+z3.length<=4611686018427387904/\(v6.1.length+z3.length)*24<=140737488355328)/\J7 (v6.1++z3)) else (J7 v6.1))) (fun v8=>R5 (v8,(IntKind.i64.wrap (v6.2+1))))) else (J3 v6.1)) (v2.1,0))))) (fun v4=>R1 (v4,(IntKind.i64.wrap (v2.2+1))))) else (KK v2.1)) ([],0))
def yL (a0_f:Lt.Func) (KK:Lt.Func->Prop):Prop:=
 (a0_f.Blocks.length<=4611686018427387904->ax (α:=Int×List ((List UInt8)×Bool)) (fun R1 v2=>if (decide (v2.1 < (a0_f.Blocks.length:Int)))=true then (((0:Int)<=v2.1/\v2.1.toNat<a0_f.Blocks.length)/\R1 ((IntKind.i64.wrap (v2.1+1)),(eh .s v2.2 ((a0_f.Blocks.getD v2.1.toNat default).Name) true))) else ((([a0_f.Params,a0_f.Vars]:List _).length<=4611686018427387904->ax (α:=Int×List ((List UInt8)×Bool)) (fun R3 v4=>have z7:=[a0_f.Params,a0_f.Vars].getD v4.1.toNat []; if (decide (v4.1 < (([a0_f.Params,a0_f.Vars]:List _).length:Int)))=true then (((0:Int)<=v4.1/\v4.1 < (([a0_f.Params,a0_f.Vars].length:Nat):Int))/\(z7.length<=4611686018427387904->ax (α:=Int×List ((List UInt8)×Bool)) (fun R5 v6=>if (decide (v6.1 < (z7.length:Int)))=true then (((0:Int)<=v6.1/\v6.1.toNat<z7.length)/\R5 ((IntKind.i64.wrap (v6.1+1)),(eh .s v6.2 ((z7.getD v6.1.toNat default).Name) true))) else (R3 ((IntKind.i64.wrap (v4.1+1)),v6.2))) (0,v4.2))) else ((Lt.mB a0_f)/\Lt.pV a0_f.Blocks/\((Lt.aq a0_f).length<=4611686018427387904->ax (α:=Int×List ((List UInt8)×Bool)×Lt.Func) (fun R7 v8=>have z11:=((v8.2.2.Blocks.length:Nat):Int); have z1:=(Lt.aq a0_f).getD v8.1.toNat default; have z10:=v8.2.2.Blocks.getD (z1.to).toNat default; if (decide (v8.1 < ((Lt.aq a0_f).length:Int)))=true then (((0:Int)<=v8.1/\v8.1.toNat < (Lt.aq a0_f).length)/\ax (α:=Int) (fun R9 v10=>have z8:=[115]++(Lt.bP v10); have z4:=([(Lt.Block.mk z8 [] [] (Lt.Term.mk 1 (Lt.Arg.mk 0 ([]:List UInt8) 0) [z10.Name] 0))]:List Lt.Block); (Lt.lR v10)/\[115].length+(Lt.bP v10).length<=4611686018427387904/\if (!((aU (β:=Bool) .s v8.2.1 z8).getD (dflt .bo)))=true then (((0:Int)<=z1.from_/\z1.from_<z11)/\((0:Int)<=z1.to/\z1.to<z11)/\((0:Int)<=z1.to/\z1.to<z11)/\((z10.Phis).length<=4611686018427387904->ax (α:=Int×Lt.Func) (fun R11 v12=>have z9:=(v12.2.Blocks.getD (z1.to).toNat default).Phis; have z5:=v12.2.Blocks.getD (z1.from_).toNat default; have z2:=v12.2.Blocks.set (z1.from_).toNat (Lt.Block.mk (z5.Name) (z5.Phis) (z5.Code) (Lt.Term.mk ((z5.End).Kind) ((z5.End).A) (((z5.End).To).set (z1.at_).toNat z8) ((z5.End).N))); if (decide (v12.1 < ((z10.Phis).length:Int)))=true then (((0:Int)<=v12.1/\v12.1 < ((z9.length:Nat):Int))/\(((z9.getD v12.1.toNat default).Ins).length<=4611686018427387904->ax (α:=Int×Lt.Func) (fun R13 v14=>have z3:=v14.2.Blocks.getD (z1.to).toNat default; have z12:=((0:Int)<=v12.1/\v12.1 < (((z3.Phis).length:Nat):Int)); have z6:=(z3.Phis).getD v12.1.toNat default; if (decide (v14.1 < (((z9.getD v12.1.toNat default).Ins).length:Int)))=true then (aJ (α:=Lt.Func) (fun J15=>z12/\((0:Int)<=v14.1/\v14.1 < (((z6.Ins).length:Nat):Int))/\if (decide (((z6.Ins).getD v14.1.toNat default).Block=(v8.2.2.Blocks.getD (z1.from_).toNat default).Name))=true then (z12/\((0:Int)<=v14.1/\v14.1 < (((z6.Ins).length:Nat):Int))/\(z1.to).toNat<v14.2.Blocks.length/\v12.1.toNat < (z3.Phis).length/\v14.1.toNat < (z6.Ins).length/\J15 (Lt.Func.mk v14.2.Name v14.2.Result v14.2.Params v14.2.Vars (v14.2.Blocks.set (z1.to).toNat (Lt.Block.mk (z3.Name) ((z3.Phis).set v12.1.toNat (Lt.Phi.mk (z6.Dst) ((z6.Ins).set v14.1.toNat (Lt.In.mk z8 (((z6.Ins).getD v14.1.toNat default).A))))) (z3.Code) (Lt.Term.mk ((z3.End).Kind) ((z3.End).A) ((z3.End).To) ((z3.End).N)))))) else (J15 v14.2)) (fun v16=>R13 ((IntKind.i64.wrap (v14.1+1)),v16))) else (R11 ((IntKind.i64.wrap (v12.1+1)),v14.2))) (0,v12.2))) else (((0:Int)<=z1.from_/\z1.from_ < ((v12.2.Blocks.length:Nat):Int))/\((0:Int)<=z1.at_/\z1.at_ < ((((z5.End).To).length:Nat):Int))/\(z1.from_).toNat<v12.2.Blocks.length/\(z1.at_).toNat < ((z5.End).To).length/\(z2.length+z4.length<=4611686018427387904/\(z2.length+z4.length)*136<=140737488355328)/\R7 ((IntKind.i64.wrap (v8.1+1)),(eh .s v8.2.1 z8 true),(Lt.Func.mk v12.2.Name v12.2.Result v12.2.Params v12.2.Vars (z2++z4))))) (0,v8.2.2))) else (R9 (IntKind.i64.wrap (v10+1)))) 0) else (KK v8.2.2)) (0,v4.2,a0_f)))) (0,v2.2)))) (0,[]))
end Go.Am
end
