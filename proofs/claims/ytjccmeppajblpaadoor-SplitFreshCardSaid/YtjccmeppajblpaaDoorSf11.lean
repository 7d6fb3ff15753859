/-
  Part 11: AmLay · AmNiceM · AmLoopE · AmNice17 · AmG5.
-/
import Derived.Test.YtjccmeppajblpaaDoorSf10
import Derived.Shelf.Small.Strs
import Derived.Shelf.Small.Wraps
import Derived.Shelf.Strings.Cut
import Derived.Shelf.Strings.Split
import Derived.Test.YtjccmeppajblpaaDoorProg
set_option linter.unusedSimpArgs false
set_option linter.unusedVariables false
set_option linter.unusedSectionVars false
set_option linter.unnecessarySimpa false
section
namespace Go.Proofs
open Go.Shelf
def Tryd.lays137_ren:Go.Shelf.Ren:=⟨fun | 137=>99 | 217=>85 | 266=>94 | n=>n,fun | 9=>9 | 5=>5 | 3=>3 | n=>n,fun | n=>n⟩
theorem Tryd.lays137:Go.Proofs.Lays.n137 Tryd.prog Tryd.lays137_ren:={
 mixed:=by kernel_rfl
 f137:=Tryd.func99.trans (congrArg some (by kernel_rfl))
 f217:=Tryd.func85.trans (congrArg some (by kernel_rfl))
 f266:=Tryd.func94.trans (congrArg some (by kernel_rfl))
 t3:=Tryd.underlying3
 a3:=Tryd.isAgg3
 z3:=Tryd.sizeOf3
 v3:=Tryd.zeroValue3
 t5:=Tryd.underlying5
 a5:=Tryd.isAgg5
 z5:=Tryd.sizeOf5
 v5:=Tryd.zeroValue5
 t9:=Tryd.underlying9
 a9:=Tryd.isAgg9
 z9:=Tryd.sizeOf9
 v9:=Tryd.zeroValue9 }
open Go.RowKit in
theorem Tryd.strings_IndexByte (s:ByteArray) (c:Int) (w:World) :
  Calls Tryd.prog 99 #[.string s,.int .u8 c] w fun e w'=>e=.returned (.int .i64 (Lib.indexByte s.data.toList c.toNat.toUInt8))/\w'=w:=Any.strings_IndexByte Tryd.lays137 s c w
def Tryd.lays103_ren:Go.Shelf.Ren:=⟨fun | 103=>98 | 210=>101 | 206=>102 | n=>n,fun | 9=>9 | 4=>4 | 24=>168 | 3=>3 | n=>n,fun | n=>n⟩
theorem Tryd.lays103:Go.Proofs.Lays.n103 Tryd.prog Tryd.lays103_ren:={
 mixed:=by kernel_rfl
 f103:=Tryd.func98.trans (congrArg some (by kernel_rfl))
 f206:=Tryd.func102.trans (congrArg some (by kernel_rfl))
 f210:=Tryd.func101.trans (congrArg some (by kernel_rfl))
 t3:=Tryd.underlying3
 a3:=Tryd.isAgg3
 z3:=Tryd.sizeOf3
 v3:=Tryd.zeroValue3
 t4:=Tryd.underlying4
 a4:=Tryd.isAgg4
 z4:=Tryd.sizeOf4
 v4:=Tryd.zeroValue4
 t9:=Tryd.underlying9
 a9:=Tryd.isAgg9
 z9:=Tryd.sizeOf9
 v9:=Tryd.zeroValue9
 t24:=Tryd.underlying168
 a24:=Tryd.isAgg168
 z24:=Tryd.sizeOf168
 v24:=Tryd.zeroValue168 }
open Go.RowKit in
theorem Tryd.strings_CutPrefix (s p:ByteArray) (w:World) :
  Calls Tryd.prog 98 #[.string s,.string p] w fun e w'=>e=.returned (.tuple #[.string ⟨(Lib.trimPrefix s.data.toList p.data.toList).toArray⟩,.bool (Lib.hasPrefix s.data.toList p.data.toList)])/\w'=w:=Any.strings_CutPrefix Tryd.lays103 s p w
def Tryd.lays145_ren:Go.Shelf.Ren:=⟨fun | 145=>29 | 220=>44 | 219=>70 | 217=>85 | 225=>86 | 224=>87 | 267=>88 | 266=>94 | 314=>95 | n=>n,fun | 9=>9 | 4=>4 | 59=>96 | 3=>3 | 5=>5 | 46=>158 | 146=>162 | 51=>161 | n=>n,fun | 1=>0 | n=>n⟩
theorem Tryd.lays145:Go.Proofs.Lays.n145 Tryd.prog Tryd.lays145_ren:={
 mixed:=by kernel_rfl
 f145:=Tryd.func29.trans (congrArg some (by kernel_rfl))
 f217:=Tryd.func85.trans (congrArg some (by kernel_rfl))
 f219:=Tryd.func70.trans (congrArg some (by kernel_rfl))
 f220:=Tryd.func44.trans (congrArg some (by kernel_rfl))
 f224:=Tryd.func87.trans (congrArg some (by kernel_rfl))
 f225:=Tryd.func86.trans (congrArg some (by kernel_rfl))
 f266:=Tryd.func94.trans (congrArg some (by kernel_rfl))
 f267:=Tryd.func88.trans (congrArg some (by kernel_rfl))
 f314:=Tryd.func95.trans (congrArg some (by kernel_rfl))
 t3:=Tryd.underlying3
 a3:=Tryd.isAgg3
 z3:=Tryd.sizeOf3
 v3:=Tryd.zeroValue3
 t4:=Tryd.underlying4
 a4:=Tryd.isAgg4
 z4:=Tryd.sizeOf4
 v4:=Tryd.zeroValue4
 t5:=Tryd.underlying5
 a5:=Tryd.isAgg5
 z5:=Tryd.sizeOf5
 v5:=Tryd.zeroValue5
 t9:=Tryd.underlying9
 a9:=Tryd.isAgg9
 z9:=Tryd.sizeOf9
 v9:=Tryd.zeroValue9
 t46:=Tryd.underlying158
 a46:=Tryd.isAgg158
 z46:=Tryd.sizeOf158
 v46:=Tryd.zeroValue158
 t51:=Tryd.underlying161
 a51:=Tryd.isAgg161
 z51:=Tryd.sizeOf161
 v51:=Tryd.zeroValue161
 t59:=Tryd.underlying96
 a59:=Tryd.isAgg96
 z59:=Tryd.sizeOf96
 v59:=Tryd.zeroValue96
 t146:=Tryd.underlying162
 a146:=Tryd.isAgg162
 z146:=Tryd.sizeOf162
 v146:=Tryd.zeroValue162
 g1:=by kernel_rfl }
open Go.RowKit Go.Lib in
theorem Tryd.strings_Cut (s sep:ByteArray) (m:Int) (w:World) (hs:s.size < 4294967281) (hm:w.cell? ⟨0,0,none⟩=some (.int .i64 m)) :
  Calls Tryd.prog 29 #[.string s,.string sep] w fun e w'=>e=.returned (.tuple #[.string ⟨(Lib.cut s.data.toList sep.data.toList).1.toArray⟩,.string ⟨(Lib.cut s.data.toList sep.data.toList).2.1.toArray⟩,.bool (Lib.cut s.data.toList sep.data.toList).2.2])/\∃ n,w'=w.drewN n:=Any.strings_Cut Tryd.lays145 s sep m w hs hm
def Tryd.lays146_ren:Go.Shelf.Ren:=⟨fun | 146=>28 | 221=>43 | 268=>67 | 138=>68 | 143=>69 | 195=>82 | 197=>83 | 218=>84 | 219=>70 | 260=>93 | 217=>85 | 225=>86 | 224=>87 | 267=>88 | 266=>94 | 314=>95 | n=>n,fun | 9=>9 | 31=>50 | 3=>3 | 4=>4 | 0=>0 | 105=>154 | 21=>21 | 5=>5 | 46=>158 | 119=>164 | 139=>167 | 138=>166 | 146=>162 | 51=>161 | n=>n,fun | 1=>0 | 3=>1 | 4=>2 | n=>n⟩
theorem Tryd.lays146:Go.Proofs.Lays.n146 Tryd.prog Tryd.lays146_ren:={
 mixed:=by kernel_rfl
 f138:=Tryd.func68.trans (congrArg some (by kernel_rfl))
 f143:=Tryd.func69.trans (congrArg some (by kernel_rfl))
 f146:=Tryd.func28.trans (congrArg some (by kernel_rfl))
 f195:=Tryd.func82.trans (congrArg some (by kernel_rfl))
 f197:=Tryd.func83.trans (congrArg some (by kernel_rfl))
 f217:=Tryd.func85.trans (congrArg some (by kernel_rfl))
 f218:=Tryd.func84.trans (congrArg some (by kernel_rfl))
 f219:=Tryd.func70.trans (congrArg some (by kernel_rfl))
 f221:=Tryd.func43.trans (congrArg some (by kernel_rfl))
 f224:=Tryd.func87.trans (congrArg some (by kernel_rfl))
 f225:=Tryd.func86.trans (congrArg some (by kernel_rfl))
 f260:=Tryd.func93.trans (congrArg some (by kernel_rfl))
 f266:=Tryd.func94.trans (congrArg some (by kernel_rfl))
 f267:=Tryd.func88.trans (congrArg some (by kernel_rfl))
 f268:=Tryd.func67.trans (congrArg some (by kernel_rfl))
 f314:=Tryd.func95.trans (congrArg some (by kernel_rfl))
 t0:=Tryd.underlying0
 a0:=Tryd.isAgg0
 z0:=Tryd.sizeOf0
 v0:=Tryd.zeroValue0
 t3:=Tryd.underlying3
 a3:=Tryd.isAgg3
 z3:=Tryd.sizeOf3
 v3:=Tryd.zeroValue3
 t4:=Tryd.underlying4
 a4:=Tryd.isAgg4
 z4:=Tryd.sizeOf4
 v4:=Tryd.zeroValue4
 t5:=Tryd.underlying5
 a5:=Tryd.isAgg5
 z5:=Tryd.sizeOf5
 v5:=Tryd.zeroValue5
 t9:=Tryd.underlying9
 a9:=Tryd.isAgg9
 z9:=Tryd.sizeOf9
 v9:=Tryd.zeroValue9
 t21:=Tryd.underlying21
 a21:=Tryd.isAgg21
 z21:=Tryd.sizeOf21
 v21:=Tryd.zeroValue21
 t31:=Tryd.underlying50
 a31:=Tryd.isAgg50
 z31:=Tryd.sizeOf50
 v31:=Tryd.zeroValue50
 t46:=Tryd.underlying158
 a46:=Tryd.isAgg158
 z46:=Tryd.sizeOf158
 v46:=Tryd.zeroValue158
 t51:=Tryd.underlying161
 a51:=Tryd.isAgg161
 z51:=Tryd.sizeOf161
 v51:=Tryd.zeroValue161
 t105:=Tryd.underlying154
 a105:=Tryd.isAgg154
 z105:=Tryd.sizeOf154
 v105:=Tryd.zeroValue154
 t119:=Tryd.underlying164
 a119:=Tryd.isAgg164
 z119:=Tryd.sizeOf164
 t138:=Tryd.underlying166
 a138:=Tryd.isAgg166
 z138:=Tryd.sizeOf166
 v138:=Tryd.zeroValue166
 t139:=Tryd.underlying167
 a139:=Tryd.isAgg167
 z139:=Tryd.sizeOf167
 v139:=Tryd.zeroValue167
 t146:=Tryd.underlying162
 a146:=Tryd.isAgg162
 z146:=Tryd.sizeOf162
 v146:=Tryd.zeroValue162
 g1:=by kernel_rfl
 g3:=by kernel_rfl
 g4:=by kernel_rfl }
open Go.RowKit Go.Lib in
theorem Tryd.strings_Split (s sep:ByteArray) (m:Int) (w:World) (hs:s.size < 4294967281) (hm:w.cell? ⟨0,0,none⟩=some (.int .i64 m)) (h1:1<=sep.size) :
  Calls Tryd.prog 28 #[.string s,.string sep] w fun e w'=>
   e=.returned (.slice (some ⟨w.heap.size,0,none⟩) (Lib.countB s sep+1) (Lib.countB s sep+1))/\w'=w.alloc (.cells ((Lib.splitB sep 0 (Lib.countB s sep) s).map Value.string).toArray 9):=Any.strings_Split Tryd.lays146 (by kernel_rfl) s sep m w hs hm h1
end Go.Proofs
end

section
namespace Lt
open Go
def digs (n:Nat):List UInt8:=if n < 10 then [UInt8.ofNat (48+n)] else digs (n / 10)++[UInt8.ofNat (48+n % 10)]
def numDigit (n:Int):Int:=IntKind.u8.wrap (IntKind.i64.wrap (48+(if n < 0 then IntKind.i64.wrap (0-n) else n)))
def numPut (n:Int):List UInt8:=(if n < 0 then [45] else [])++digs n.natAbs
abbrev plus (n:Int) (k:Nat):Int:=IntKind.i64.wrap (n+(k:Int))
def upto (most n k:Int):Int:=if n<=most then IntKind.i64.wrap (n+k) else n
def cVars (most:Int):List Var->Int->Int
 | [],n=>n
 | v::r,n=>if n<=most then (let m:=plus n v.Name.length; cVars most r (if m<=most then plus m v.Type_.length else m)) else n
def countVars (l:List Var) (most:Int):Int:=if most < (l.length:Int) then IntKind.i64.wrap (most+1) else cVars most l (l.length:Int)
def cArgs (most:Int):List Arg->Int->Int
 | [],n=>n
 | a::r,n=>if n<=most then cArgs most r (plus n a.S.length) else n
def countArgs (l:List Arg) (most:Int):Int:=if most < (l.length:Int) then IntKind.i64.wrap (most+1) else cArgs most l (l.length:Int)
def cBinds (most:Int):List Bind->Int->Int
 | [],n=>n
 | b::r,n=>if n<=most then (let m:=plus (IntKind.i64.wrap (n+1)) b.Name.length; cBinds most r (if m<=most then plus m b.A.S.length else m)) else n
def cFrames (most:Int):List Frame->Int->Int
 | [],n=>n
 | f::r,n=>if n<=most then (let m:=plus n f.Func.length; cFrames most r (cBinds most f.Vars (if m<=most then plus m f.Block.length else m))) else n
def cObjs (most:Int):List Virt->Int->Int
 | [],n=>n
 | o::r,n=>if n<=most then (let m:=plus n o.Class.length; cObjs most r (if m<=most then IntKind.i64.wrap (m+countArgs o.Vals most) else m)) else n
def countInstr (x:Instr) (most:Int):Int:=
 if (decide (most < (x.Frames.length:Int)))||(decide (most < (x.Objs.length:Int))) then IntKind.i64.wrap (most+1)
 else
  cObjs most x.Objs (cFrames most x.Frames (upto most (upto most (plus (plus (plus 1 x.Dst.length) x.Frames.length) x.Objs.length) (x.Name.length:Int)) (countArgs x.Args most)))
def cTo (most:Int):List (List UInt8)->Int->Int
 | [],n=>n
 | t::r,n=>if n<=most then cTo most r (plus (IntKind.i64.wrap (n+1)) t.length) else n
def cIns (most:Int):List In->Int->Int
 | [],n=>n
 | b::r,n=>if n<=most then (let m:=plus (IntKind.i64.wrap (n+1)) b.Block.length; cIns most r (if m<=most then plus m b.A.S.length else m)) else n
def cPhis (most:Int):List Phi->Int->Int
 | [],n=>n
 | x::r,n=>if n<=most then cPhis most r (cIns most x.Ins (plus (IntKind.i64.wrap (n+1)) x.Dst.length)) else n
def cCode (most:Int):List Instr->Int->Int
 | [],n=>n
 | x::r,n=>if n<=most then cCode most r (IntKind.i64.wrap (n+countInstr x most)) else n
def countBlock (b:Block) (most:Int):Int:=
 if (decide (most < (b.Phis.length:Int)))||(decide (most < (b.Code.length:Int)))||(decide (most < (b.End.To.length:Int))) then IntKind.i64.wrap (most+1)
 else
  cCode most b.Code (cPhis most b.Phis (cTo most b.End.To (upto most (plus 1 b.Name.length) (b.End.A.S.length:Int))))
def cBlocks (most:Int):List Block->Int->Int
 | [],n=>n
 | x::r,n=>if n<=most then cBlocks most r (IntKind.i64.wrap (n+countBlock x most)) else n
def FewFunc (f:Func) (most:Int):Int:=
 if most < (f.Blocks.length:Int) then IntKind.i64.wrap (most+1)
 else
  cBlocks most f.Blocks (upto most (upto most (upto most (plus 1 f.Name.length) (f.Result.length:Int)) (countVars f.Params most)) (countVars f.Vars most))
def inR (n:Int):Prop:=-9223372036854775808<=n/\n < 9223372036854775808
def Arg.ok (a:Arg):Prop:=inR a.N
def argsOk (l:List Arg):Prop:=∀ a∈l,a.ok
def Bind.ok (b:Bind):Prop:=b.A.ok
def Frame.ok (f:Frame):Prop:=f.Vars.length<=4611686018427387904/\∀ b∈f.Vars,b.ok
def Virt.ok (o:Virt):Prop:=argsOk o.Vals
def Instr.ok (i:Instr):Prop:=argsOk i.Args/\(∀ f∈i.Frames,f.ok)/\(∀ o∈i.Objs,o.ok)
def In.ok (i:In):Prop:=i.A.ok
def Phi.ok (x:Phi):Prop:=x.Ins.length<=4611686018427387904/\∀ i∈x.Ins,i.ok
def Term.ok (t:Term):Prop:=t.A.ok/\inR t.N
def Block.ok (b:Block):Prop:=(∀ x∈b.Phis,x.ok)/\(∀ i∈b.Code,i.ok)/\b.End.ok
def Func.ok (f:Func):Prop:=∀ b∈f.Blocks,b.ok
def preNum (n:Int):Prop:=inR n
def preCI (x:Instr) (most:Int):Prop:=x.ok/\most<=4611686018427387904
def preCB (b:Block) (most:Int):Prop:=b.ok/\most<=4611686018427387904
def preFF (f:Func) (most:Int):Prop:=f.ok/\most<=4611686018427387904
def rSize (n:Int):Int:=if n < 0 then IntKind.u64.wrap (0 - (IntKind.u64.wrap n)) else IntKind.u64.wrap n
def rNum (n:Int):List UInt8:=numPut n
def gIndex (s:List UInt8) (c:UInt8):Int:=Go.Lib.indexByte s c
def gCutP (s p:List UInt8):List UInt8×Bool:=(Go.Lib.trimPrefix s p,Go.Lib.hasPrefix s p)
def gCut (s p:List UInt8):List UInt8×List UInt8×Bool:=Go.Lib.cut s p
def gSplit (s p:List UInt8):List (List UInt8):=(Go.Lib.splitB ⟨p.toArray⟩ 0 (Go.Lib.countB ⟨s.toArray⟩ ⟨p.toArray⟩) ⟨s.toArray⟩).map (·.data.toList)
def preCut (s p:List UInt8):Prop:=s.length < 4294967281
def preSplit (s p:List UInt8):Prop:=s.length < 4294967281/\1<=p.length
def flt (n:Int):Value:=.iface 68 (.agg #[.int .i64 n])
end Lt
end

section
namespace Go.Am
open Go
def LEN:Nat:=4611686018427387904
theorem ob {i n:Nat} (h:i<n):(0:Int)<=(i:Int)/\(i:Int).toNat<n:=by
 rw [Int.toNat_natCast]; exact ⟨Int.natCast_nonneg i,h⟩
theorem lt_t {i n:Nat} (h:i<n):decide ((i:Int) < (n:Int))=true:=by simpa using h
section
variable {α:Type}
theorem jn_app (x:α) (B:α->Prop):joinP (fun J=>J x) B=B x:=
 propext ⟨fun h=>h B (fun _ h=>h),fun h J hJ=>hJ x h⟩
theorem jn_ite (c:Prop) [Decidable c] (A A':(α->Prop)->Prop) (B:α->Prop):joinP (fun J=>if c then A J else A' J) B=if c then joinP A B else joinP A' B:=by
 unfold joinP
 by_cases hc:c <;> simp only [hc,if_true,if_false]
theorem jn_and (P:Prop) (A:(α->Prop)->Prop) (B:α->Prop):joinP (fun J=>P/\A J) B=(P/\joinP A B):=
 propext ⟨fun h=>⟨(h (fun _=>True) (fun _ _=>trivial)).1,fun J hJ=>(h J hJ).2⟩,fun h J hJ=>⟨h.1,h.2 J hJ⟩⟩
theorem jn_imp (P:Prop) (A:(α->Prop)->Prop) (B:α->Prop):joinP (fun J=>P->A J) B=(P->joinP A B):=
 propext ⟨fun h hp J hJ=>h J hJ hp,fun h J hJ hp=>h hp J hJ⟩
theorem jn_const (P:Prop) (B:α->Prop):joinP (fun _=>P) B=P:=
 propext ⟨fun h=>h (fun _=>True) (fun _ _=>trivial),fun h _ _=>h⟩
theorem jval (c:Prop) [Decidable c] (x y:α) (J:α->Prop):(if c then J x else J y)=J (if c then x else y):=by split <;> rfl
theorem bor (b c:Bool):(if b=true then true else c)=(b||c):=by cases b <;> rfl
theorem band (b c:Bool):(if b=true then c else false)=(b&&c):=by cases b <;> rfl
theorem bnand (b c:Bool):(if b=true then false else c)=(!b&&c):=by cases b <;> rfl
theorem bimp (b c:Bool):(if b=true then c else true)=(!b||c):=by cases b <;> rfl
end
theorem nat_loop {α:Type} (body:(α->Prop)->α->Prop) (m:Nat) (P:Nat->α->Prop)
  (hs:∀ R i x,i<m->P i x->(∀ y,P (i+1) y->R y)->body R x) (he:∀ R x,P m x->body R x) (x:α) (h:P 0 x):loopP body x:=by
 have key:∀ k i x,i+k=m->P i x->loopN body (k+1) x:=by
  intro k
  induction k with
  | zero=>
   intro i x hi h
   have e:i=m:=by omega
   subst e
   exact he _ x h
  | succ k ih=>
   intro i x hi h
   exact hs _ i x (by omega) h (fun y hy=>ih (i+1) y (by omega) hy)
 exact ⟨m+1,key m 0 x (by omega) h⟩
theorem drop_loopS {α β ρ σ:Type} [Inhabited α] (l:List α) (hl:l.length<=LEN) (st:β->Int->σ) (go:List α->β->ρ) (KK:ρ->Prop) (body:(σ->Prop)->σ->Prop)
  (hs:∀ R b i,i<l.length->(∀ b',KK (go (l.drop (i+1)) b')->R (st b' (IntKind.i64.wrap ((i:Int)+1))))->KK (go (l.getD i default::l.drop (i+1)) b)->body R (st b i))
  (he:∀ R b,KK (go [] b)->body R (st b l.length)) (b:β) (h:KK (go l b)):loopP body (st b 0):=by
 have key:∀ k i b,i+k=l.length->KK (go (l.drop i) b)->loopN body (k+1) (st b (i:Int)):=by
  intro k
  induction k with
  | zero=>
   intro i b hi h
   have e:i=l.length:=by omega
   subst e
   rw [List.drop_length] at h
   exact he _ b h
  | succ k ih=>
   intro i b hi h
   have hlt:i<l.length:=by omega
   rw [List.drop_eq_getElem_cons hlt] at h
   have e:l.getD i default=l[i]:=by rw [List.getD,List.getElem?_eq_getElem hlt]; rfl
   rw [<- e] at h
   refine hs _ b i hlt (fun b' h'=>?_) h
   rw [wrap_succ (by unfold LEN at hl; omega)]
   exact ih (i+1) b' (by omega) h'
 exact ⟨l.length+1,key l.length 0 b (by omega) h⟩
theorem drop_loop {α β ρ:Type} [Inhabited α] (l:List α) (hl:l.length<=LEN) (go:List α->β->ρ) (KK:ρ->Prop) (body:(β×Int->Prop)->β×Int->Prop)
  (hs:∀ R b i,i<l.length->(∀ b',KK (go (l.drop (i+1)) b')->R (b',(IntKind.i64.wrap ((i:Int)+1))))->KK (go (l.getD i default::l.drop (i+1)) b)->body R (b,(i:Int)))
  (he:∀ R b,KK (go [] b)->body R (b,(l.length:Int))) (b:β) (h:KK (go l b)):loopP body (b,0):=
 drop_loopS l hl (fun b i=>(b,i)) go KK body hs he b h
theorem take_snoc {α:Type} [Inhabited α] (l:List α) {i:Nat} (h:i<l.length):l.take (i+1)=l.take i++[l.getD i default]:=by
 rw [List.take_add_one,List.getD,List.getElem?_eq_getElem h]; rfl
theorem mem_getD {α:Type} [Inhabited α] (l:List α) {i:Nat} (h:i<l.length):l.getD i default∈l:=by
 rw [List.getD,List.getElem?_eq_getElem h]; exact List.getElem_mem h
end Go.Am
end

section
namespace Lt
open Go
def names (f:Func):List (List UInt8):=f.Blocks.map (·.Name)++(f.Params.map (·.Name)++f.Vars.map (·.Name))
def rfHas (f:Func) (s:List UInt8):Bool:=f.Blocks.any (fun b=>decide (b.Name=s))||(f.Params.any (fun b=>decide (b.Name=s))||f.Vars.any (fun b=>decide (b.Name=s)))
def placeOf (s:List UInt8):List Block->Int->Int×Bool
 | [],_=>(0,false)
 | b::r,i=>if b.Name=s then (i,true) else placeOf s r (i+1)
def spPlace (f:Func) (s:List UInt8):Int×Bool:=placeOf s f.Blocks 0
def freshN (known:List (List UInt8)) (begin:List UInt8):Nat->Nat->Nat
 | 0,n=>n
 | k+1,n=>if begin++numPut n∈known then freshN known begin k (n+1) else n
def rfFresh (f:Func) (begin:List UInt8):List UInt8:=begin++numPut (freshN (names f) begin (names f).length 0)
def spFresh (f:Func) (begin:List UInt8):List UInt8:=rfFresh f begin
def preFresh (f:Func) (begin:List UInt8):Prop:=(names f).length<=1000000/\begin.length<=1000000
def awake17:Bool:=true
def shortN (s:List UInt8):Prop:=s.length<=4611686018427387904
def preSF (f:Func) (begin:List UInt8):Prop:=f.ok/\shortN f.Name/\shortN f.Result/\(∀ v∈f.Params,shortN v.Name/\shortN v.Type_)/\(∀ v∈f.Vars,shortN v.Name/\shortN v.Type_)
def SplitFresh (f:Func) (begin:List UInt8):Bool:=true
end Lt
end

section
namespace Go.Am
open Go
set_option linter.unusedVariables false
def F_countVars (a0_l:List Lt.Var) (a1_most:Int) (KK:Int->Prop):Prop:=
 (a0_l.length<=4611686018427387904->if (decide (a1_most < (a0_l.length:Int)))=true then (KK (IntKind.i64.wrap (a1_most+1))) else ((a0_l.length<=4611686018427387904->loopP (α:=Int×Int) (fun R1 v2=>joinP (α:=Bool) (fun J3=>(a0_l.length<=4611686018427387904->if (decide (v2.2 < (a0_l.length:Int)))=true then (J3 (decide (v2.1<=a1_most))) else (J3 false))) (fun v4=>if v4=true then (joinP (α:=Int) (fun J5=>((0:Int)<=v2.2/\v2.2.toNat<a0_l.length)/\(((a0_l.getD v2.2.toNat default).Name).length<=4611686018427387904->if (decide ((IntKind.i64.wrap (v2.1+(((a0_l.getD v2.2.toNat default).Name).length:Int)))<=a1_most))=true then (((0:Int)<=v2.2/\v2.2.toNat<a0_l.length)/\(((a0_l.getD v2.2.toNat default).Type_).length<=4611686018427387904->J5 (IntKind.i64.wrap ((IntKind.i64.wrap (v2.1+(((a0_l.getD v2.2.toNat default).Name).length:Int)))+(((a0_l.getD v2.2.toNat default).Type_).length:Int))))) else (J5 (IntKind.i64.wrap (v2.1+(((a0_l.getD v2.2.toNat default).Name).length:Int)))))) (fun v6=>R1 (v6,(IntKind.i64.wrap (v2.2+1))))) else (KK v2.1))) ((a0_l.length:Int),0))))
def F_countArgs (a0_l:List Lt.Arg) (a1_most:Int) (KK:Int->Prop):Prop:=
 (a0_l.length<=4611686018427387904->if (decide (a1_most < (a0_l.length:Int)))=true then (KK (IntKind.i64.wrap (a1_most+1))) else ((a0_l.length<=4611686018427387904->loopP (α:=Int×Int) (fun R1 v2=>joinP (α:=Bool) (fun J3=>(a0_l.length<=4611686018427387904->if (decide (v2.2 < (a0_l.length:Int)))=true then (J3 (decide (v2.1<=a1_most))) else (J3 false))) (fun v4=>if v4=true then (((0:Int)<=v2.2/\v2.2.toNat<a0_l.length)/\(((a0_l.getD v2.2.toNat default).S).length<=4611686018427387904->R1 ((IntKind.i64.wrap (v2.1+(((a0_l.getD v2.2.toNat default).S).length:Int))),(IntKind.i64.wrap (v2.2+1))))) else (KK v2.1))) ((a0_l.length:Int),0))))
def F_countInstr (a0_x:Lt.Instr) (a1_most:Int) (KK:Int->Prop):Prop:=
 have z2:=(IntKind.i64.wrap ((IntKind.i64.wrap ((IntKind.i64.wrap (1+(a0_x.Dst.length:Int)))+(a0_x.Frames.length:Int)))+(a0_x.Objs.length:Int))); joinP (α:=Bool) (fun J1=>(a0_x.Frames.length<=4611686018427387904->if (decide (a1_most < (a0_x.Frames.length:Int)))=true then (J1 true) else (J1 (decide (a1_most < (a0_x.Objs.length:Int)))))) (fun v2=>if v2=true then (KK (IntKind.i64.wrap (a1_most+1))) else ((a0_x.Dst.length<=4611686018427387904->(a0_x.Frames.length<=4611686018427387904->(a0_x.Objs.length<=4611686018427387904->joinP (α:=Int) (fun J3=>if (decide (z2<=a1_most))=true then ((a0_x.Name.length<=4611686018427387904->J3 (IntKind.i64.wrap (z2+(a0_x.Name.length:Int))))) else (J3 z2)) (fun v4=>joinP (α:=Int) (fun J5=>if (decide (v4<=a1_most))=true then (J5 (IntKind.i64.wrap (v4+(Lt.countArgs a0_x.Args a1_most)))) else (J5 v4)) (fun v6=>loopP (α:=Int×Int) (fun R7 v8=>have z4:=((0:Int)<=v8.2/\v8.2.toNat<a0_x.Frames.length); have z1:=a0_x.Frames.getD v8.2.toNat default; have z6:=(IntKind.i64.wrap (v8.1+((z1.Func).length:Int))); joinP (α:=Bool) (fun J9=>(a0_x.Frames.length<=4611686018427387904->if (decide (v8.2 < (a0_x.Frames.length:Int)))=true then (J9 (decide (v8.1<=a1_most))) else (J9 false))) (fun v10=>if v10=true then (z4/\((z1.Func).length<=4611686018427387904->joinP (α:=Int) (fun J11=>if (decide (z6<=a1_most))=true then (z4/\((z1.Block).length<=4611686018427387904->J11 (IntKind.i64.wrap (z6+((z1.Block).length:Int))))) else (J11 z6)) (fun v12=>loopP (α:=Int×Int) (fun R13 v14=>have z7:=(z1.Vars).getD v14.2.toNat default; have z3:=(IntKind.i64.wrap ((IntKind.i64.wrap (v14.1+1))+((z7.Name).length:Int))); joinP (α:=Bool) (fun J15=>z4/\((z1.Vars).length<=4611686018427387904->if (decide (v14.2 < ((z1.Vars).length:Int)))=true then (J15 (decide (v14.1<=a1_most))) else (J15 false))) (fun v16=>if v16=true then (joinP (α:=Int) (fun J17=>z4/\((0:Int)<=v14.2/\v14.2.toNat < (z1.Vars).length)/\((z7.Name).length<=4611686018427387904->if (decide (z3<=a1_most))=true then (z4/\((0:Int)<=v14.2/\v14.2.toNat < (z1.Vars).length)/\(((z7.A).S).length<=4611686018427387904->J17 (IntKind.i64.wrap (z3+(((z7.A).S).length:Int))))) else (J17 z3))) (fun v18=>R13 (v18,(IntKind.i64.wrap (v14.2+1))))) else (R7 (v14.1,(IntKind.i64.wrap (v8.2+1)))))) (v12,0)))) else (loopP (α:=Int×Int) (fun R19 v20=>have z8:=a0_x.Objs.getD v20.2.toNat default; have z5:=(IntKind.i64.wrap (v20.1+((z8.Class).length:Int))); joinP (α:=Bool) (fun J21=>(a0_x.Objs.length<=4611686018427387904->if (decide (v20.2 < (a0_x.Objs.length:Int)))=true then (J21 (decide (v20.1<=a1_most))) else (J21 false))) (fun v22=>if v22=true then (joinP (α:=Int) (fun J23=>((0:Int)<=v20.2/\v20.2.toNat<a0_x.Objs.length)/\((z8.Class).length<=4611686018427387904->if (decide (z5<=a1_most))=true then (((0:Int)<=v20.2/\v20.2.toNat<a0_x.Objs.length)/\J23 (IntKind.i64.wrap (z5+(Lt.countArgs (z8.Vals) a1_most)))) else (J23 z5))) (fun v24=>R19 (v24,(IntKind.i64.wrap (v20.2+1))))) else (KK v20.1))) (v8.1,0)))) (v6,0))))))))
def F_countBlock (a0_b:Lt.Block) (a1_most:Int) (KK:Int->Prop):Prop:=
 have z5:=(IntKind.i64.wrap (1+(a0_b.Name.length:Int))); joinP (α:=Bool) (fun J1=>(a0_b.Phis.length<=4611686018427387904->if (decide (a1_most < (a0_b.Phis.length:Int)))=true then (J1 true) else (if (decide (a1_most < (a0_b.Code.length:Int)))=true then (J1 true) else (J1 (decide (a1_most < (a0_b.End.To.length:Int))))))) (fun v2=>if v2=true then (KK (IntKind.i64.wrap (a1_most+1))) else ((a0_b.Name.length<=4611686018427387904->joinP (α:=Int) (fun J3=>if (decide (z5<=a1_most))=true then ((a0_b.End.A.S.length<=4611686018427387904->J3 (IntKind.i64.wrap (z5+(a0_b.End.A.S.length:Int))))) else (J3 z5)) (fun v4=>loopP (α:=Int×Int) (fun R5 v6=>joinP (α:=Bool) (fun J7=>(a0_b.End.To.length<=4611686018427387904->if (decide (v6.2 < (a0_b.End.To.length:Int)))=true then (J7 (decide (v6.1<=a1_most))) else (J7 false))) (fun v8=>if v8=true then (((0:Int)<=v6.2/\v6.2.toNat<a0_b.End.To.length)/\((a0_b.End.To.getD v6.2.toNat default).length<=4611686018427387904->R5 ((IntKind.i64.wrap ((IntKind.i64.wrap (v6.1+1))+((a0_b.End.To.getD v6.2.toNat default).length:Int))),(IntKind.i64.wrap (v6.2+1))))) else (loopP (α:=Int×Int) (fun R9 v10=>have z3:=((0:Int)<=v10.2/\v10.2.toNat<a0_b.Phis.length); have z1:=a0_b.Phis.getD v10.2.toNat default; joinP (α:=Bool) (fun J11=>(a0_b.Phis.length<=4611686018427387904->if (decide (v10.2 < (a0_b.Phis.length:Int)))=true then (J11 (decide (v10.1<=a1_most))) else (J11 false))) (fun v12=>if v12=true then (z3/\((z1.Dst).length<=4611686018427387904->loopP (α:=Int×Int) (fun R13 v14=>have z4:=(z1.Ins).getD v14.2.toNat default; have z2:=(IntKind.i64.wrap ((IntKind.i64.wrap (v14.1+1))+((z4.Block).length:Int))); joinP (α:=Bool) (fun J15=>z3/\((z1.Ins).length<=4611686018427387904->if (decide (v14.2 < ((z1.Ins).length:Int)))=true then (J15 (decide (v14.1<=a1_most))) else (J15 false))) (fun v16=>if v16=true then (joinP (α:=Int) (fun J17=>z3/\((0:Int)<=v14.2/\v14.2.toNat < (z1.Ins).length)/\((z4.Block).length<=4611686018427387904->if (decide (z2<=a1_most))=true then (z3/\((0:Int)<=v14.2/\v14.2.toNat < (z1.Ins).length)/\(((z4.A).S).length<=4611686018427387904->J17 (IntKind.i64.wrap (z2+(((z4.A).S).length:Int))))) else (J17 z2))) (fun v18=>R13 (v18,(IntKind.i64.wrap (v14.2+1))))) else (R9 (v14.1,(IntKind.i64.wrap (v10.2+1)))))) ((IntKind.i64.wrap ((IntKind.i64.wrap (v10.1+1))+((z1.Dst).length:Int))),0))) else (loopP (α:=Int×Int) (fun R19 v20=>joinP (α:=Bool) (fun J21=>(a0_b.Code.length<=4611686018427387904->if (decide (v20.2 < (a0_b.Code.length:Int)))=true then (J21 (decide (v20.1<=a1_most))) else (J21 false))) (fun v22=>if v22=true then (((0:Int)<=v20.2/\v20.2.toNat<a0_b.Code.length)/\(Lt.preCI (a0_b.Code.getD v20.2.toNat default) a1_most)/\R19 ((IntKind.i64.wrap (v20.1+(Lt.countInstr (a0_b.Code.getD v20.2.toNat default) a1_most))),(IntKind.i64.wrap (v20.2+1)))) else (KK v20.1))) (v10.1,0)))) (v6.1,0)))) (v4,0)))))
def F_FewFunc (a0_f:Lt.Func) (a1_most:Int) (KK:Int->Prop):Prop:=
 have z3:=(IntKind.i64.wrap (1+(a0_f.Name.length:Int))); (a0_f.Blocks.length<=4611686018427387904->if (decide (a1_most < (a0_f.Blocks.length:Int)))=true then (KK (IntKind.i64.wrap (a1_most+1))) else ((a0_f.Name.length<=4611686018427387904->joinP (α:=Int) (fun J1=>if (decide (z3<=a1_most))=true then ((a0_f.Result.length<=4611686018427387904->J1 (IntKind.i64.wrap (z3+(a0_f.Result.length:Int))))) else (J1 z3)) (fun v2=>joinP (α:=Int) (fun J3=>if (decide (v2<=a1_most))=true then (J3 (IntKind.i64.wrap (v2+(Lt.countVars a0_f.Params a1_most)))) else (J3 v2)) (fun v4=>joinP (α:=Int) (fun J5=>if (decide (v4<=a1_most))=true then (J5 (IntKind.i64.wrap (v4+(Lt.countVars a0_f.Vars a1_most)))) else (J5 v4)) (fun v6=>loopP (α:=Int×Int) (fun R7 v8=>have z1:=a0_f.Blocks.getD v8.2.toNat default; have z2:=Lt.Block.mk (z1.Name) (z1.Phis) (z1.Code) (Lt.Term.mk ((z1.End).Kind) ((z1.End).A) ((z1.End).To) ((z1.End).N)); joinP (α:=Bool) (fun J9=>(a0_f.Blocks.length<=4611686018427387904->if (decide (v8.2 < (a0_f.Blocks.length:Int)))=true then (J9 (decide (v8.1<=a1_most))) else (J9 false))) (fun v10=>if v10=true then (((0:Int)<=v8.2/\v8.2.toNat<a0_f.Blocks.length)/\(Lt.preCB z2 a1_most)/\R7 ((IntKind.i64.wrap (v8.1+(Lt.countBlock z2 a1_most))),(IntKind.i64.wrap (v8.2+1)))) else (KK v8.1))) (v6,0)))))))
def F_rSize (a0_n:Int) (KK:Int->Prop):Prop:=
 if (decide (a0_n < 0))=true then (KK (IntKind.u64.wrap (0 - (IntKind.u64.wrap a0_n)))) else (KK (IntKind.u64.wrap a0_n))
def F_rNum (a0_n:Int) (KK:(List UInt8)->Prop):Prop:=
 joinP (α:=List UInt8) (fun J1=>loopP (α:=List UInt8×Int) (fun R3 v4=>(10:Int)≠0/\(([(UInt8.ofNat (IntKind.u8.wrap (IntKind.u64.wrap (48+(Int.tmod v4.2 10)))).toNat)]:List UInt8).length+v4.1.length<=4611686018427387904/\(([(UInt8.ofNat (IntKind.u8.wrap (IntKind.u64.wrap (48+(Int.tmod v4.2 10)))).toNat)]:List UInt8).length+v4.1.length)*1<=140737488355328)/\(10:Int)≠0/\if (decide ((IntKind.u64.wrap (Int.tdiv v4.2 10))=0))=true then (J1 (([(UInt8.ofNat (IntKind.u8.wrap (IntKind.u64.wrap (48+(Int.tmod v4.2 10)))).toNat)]:List UInt8)++v4.1)) else (R3 ((([(UInt8.ofNat (IntKind.u8.wrap (IntKind.u64.wrap (48+(Int.tmod v4.2 10)))).toNat)]:List UInt8)++v4.1),(IntKind.u64.wrap (Int.tdiv v4.2 10))))) ([],(Lt.rSize a0_n))) (fun v2=>if (decide (a0_n < 0))=true then ([45].length+v2.length<=4611686018427387904/\KK ([45]++v2)) else (KK v2))
def F_rfHas (a0_f:Lt.Func) (a1_s:List UInt8) (KK:Bool->Prop):Prop:=
 loopP (α:=Int) (fun R1 v2=>(a0_f.Blocks.length<=4611686018427387904->if (decide (v2 < (a0_f.Blocks.length:Int)))=true then (((0:Int)<=v2/\v2.toNat<a0_f.Blocks.length)/\if (decide ((a0_f.Blocks.getD v2.toNat default).Name=a1_s))=true then (KK true) else (R1 (IntKind.i64.wrap (v2+1)))) else (loopP (α:=Int) (fun R3 v4=>(a0_f.Params.length<=4611686018427387904->if (decide (v4 < (a0_f.Params.length:Int)))=true then (((0:Int)<=v4/\v4.toNat<a0_f.Params.length)/\if (decide ((a0_f.Params.getD v4.toNat default).Name=a1_s))=true then (KK true) else (R3 (IntKind.i64.wrap (v4+1)))) else (loopP (α:=Int) (fun R5 v6=>(a0_f.Vars.length<=4611686018427387904->if (decide (v6 < (a0_f.Vars.length:Int)))=true then (((0:Int)<=v6/\v6.toNat<a0_f.Vars.length)/\if (decide ((a0_f.Vars.getD v6.toNat default).Name=a1_s))=true then (KK true) else (R5 (IntKind.i64.wrap (v6+1)))) else (KK false))) 0))) 0))) 0
def F_rfFresh (a0_f:Lt.Func) (a1_begin:List UInt8) (KK:(List UInt8)->Prop):Prop:=
 loopP (α:=Int) (fun R1 v2=>joinP (α:=Bool) (fun J3=>((Lt.preNum v2)/\a1_begin.length+(Lt.rNum v2).length<=4611686018427387904/\J3 (Lt.rfHas a0_f (a1_begin++(Lt.rNum v2))))/\((Lt.preNum v2)/\a1_begin.length+(Lt.rNum v2).length<=4611686018427387904/\J3 (Lt.rfHas a0_f (a1_begin++(Lt.rNum v2))))) (fun v4=>if v4=true then (R1 (IntKind.i64.wrap (v2+1))) else ((Lt.preNum v2)/\a1_begin.length+(Lt.rNum v2).length<=4611686018427387904/\KK (a1_begin++(Lt.rNum v2))))) 0
def F_spPlace (a0_f:Lt.Func) (a1_name:List UInt8) (KK:(Int×Bool)->Prop):Prop:=
 (a0_f.Blocks.length<=4611686018427387904->loopP (α:=Int) (fun R1 v2=>if (decide (v2 < (a0_f.Blocks.length:Int)))=true then (((0:Int)<=v2/\v2.toNat<a0_f.Blocks.length)/\if (decide ((a0_f.Blocks.getD v2.toNat default).Name=a1_name))=true then (KK (v2,true)) else (R1 (IntKind.i64.wrap (v2+1)))) else (KK (0,false))) 0)
def F_spFresh (a0_f:Lt.Func) (a1_begin:List UInt8) (KK:(List UInt8)->Prop):Prop:=
 (a0_f.Blocks.length<=4611686018427387904->loopP (α:=Int×List ((List UInt8)×Bool)) (fun R1 v2=>if (decide (v2.1 < (a0_f.Blocks.length:Int)))=true then (((0:Int)<=v2.1/\v2.1.toNat<a0_f.Blocks.length)/\R1 ((IntKind.i64.wrap (v2.1+1)),(insE .s v2.2 ((a0_f.Blocks.getD v2.1.toNat default).Name) true))) else ((([a0_f.Params,a0_f.Vars]:List _).length<=4611686018427387904->loopP (α:=Int×List ((List UInt8)×Bool)) (fun R3 v4=>have z1:=[a0_f.Params,a0_f.Vars].getD v4.1.toNat []; if (decide (v4.1 < (([a0_f.Params,a0_f.Vars]:List _).length:Int)))=true then (((0:Int)<=v4.1/\v4.1 < (([a0_f.Params,a0_f.Vars].length:Nat):Int))/\(z1.length<=4611686018427387904->loopP (α:=Int×List ((List UInt8)×Bool)) (fun R5 v6=>if (decide (v6.1 < (z1.length:Int)))=true then (((0:Int)<=v6.1/\v6.1.toNat<z1.length)/\R5 ((IntKind.i64.wrap (v6.1+1)),(insE .s v6.2 ((z1.getD v6.1.toNat default).Name) true))) else (R3 ((IntKind.i64.wrap (v4.1+1)),v6.2))) (0,v4.2))) else (loopP (α:=Int) (fun R7 v8=>(Lt.preNum v8)/\a1_begin.length+(Lt.numPut v8).length<=4611686018427387904/\if (!((lookE (β:=Bool) .s v4.2 (a1_begin++(Lt.numPut v8))).getD (dflt .bo)))=true then (KK (a1_begin++(Lt.numPut v8))) else (R7 (IntKind.i64.wrap (v8+1)))) 0)) (0,v2.2)))) (0,[]))
def F_SplitFresh (a0_f:Lt.Func) (a1_begin:List UInt8) (KK:Bool->Prop):Prop:=
 have z1:=Lt.spFresh a0_f a1_begin; joinP (α:=Bool) (fun J1=>if (!Lt.awake17)=true then (J1 true) else ((Lt.preFF a0_f 3000)/\if (decide (3000 < (Lt.FewFunc a0_f 3000)))=true then (J1 true) else (J1 (decide (100 < (a1_begin.length:Int)))))) (fun v2=>if v2=true then (KK Lt.awake17) else ((Lt.preFresh a0_f a1_begin)/\loopP (α:=Bool×Int) (fun R3 v4=>(a0_f.Params.length<=4611686018427387904->if (decide (v4.2 < (a0_f.Params.length:Int)))=true then (joinP (α:=Bool) (fun J5=>if v4.1=true then (J5 true) else (((0:Int)<=v4.2/\v4.2.toNat<a0_f.Params.length)/\J5 (decide ((a0_f.Params.getD v4.2.toNat default).Name=z1)))) (fun v6=>R3 (v6,(IntKind.i64.wrap (v4.2+1))))) else (loopP (α:=Bool×Int) (fun R7 v8=>(a0_f.Vars.length<=4611686018427387904->if (decide (v8.2 < (a0_f.Vars.length:Int)))=true then (joinP (α:=Bool) (fun J9=>if v8.1=true then (J9 true) else (((0:Int)<=v8.2/\v8.2.toNat<a0_f.Vars.length)/\J9 (decide ((a0_f.Vars.getD v8.2.toNat default).Name=z1)))) (fun v10=>R7 (v10,(IntKind.i64.wrap (v8.2+1))))) else (joinP (α:=Bool) (fun J11=>if (!v8.1)=true then (if (decide ((a1_begin.length:Int) < (z1.length:Int)))=true then ((0:Int)<=(a1_begin.length:Int)/\(0<=(a1_begin.length:Int).toNat/\(a1_begin.length:Int).toNat<=z1.length)/\if (decide (((z1.drop 0).take ((a1_begin.length:Int).toNat - 0))=a1_begin))=true then ((Lt.preFresh a0_f a1_begin)/\J11 (decide (z1=(Lt.rfFresh a0_f a1_begin)))) else (J11 false)) else (J11 false)) else (J11 false)) (fun v12=>KK v12)))) (v4.1,0)))) ((Lt.spPlace a0_f z1).2,0)))
end Go.Am
end
