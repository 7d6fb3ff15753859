/-
  Part 11: AmShelf · AmBldCall · AmData · AmTy · AmJoin · AmNice · AmNiceD · AmU · AmE1 · AmE2 · AmE4 · AmLoopE · AmNiceS.
-/
import Derived.Test.YtlikflolhhlgjaaGreatDoorKe10
import Derived.Test.YtlikflolhhlgjaaGreatDoorProg
set_option linter.unusedSimpArgs false
set_option linter.unusedVariables false
set_option linter.unusedSectionVars false
set_option linter.unnecessarySimpa false
section
namespace Go.Proofs
open Go.Shelf
end Go.Proofs
end

section
namespace Go.Am
open Go.RowKit Go.Proofs
section
variable {P:Program} {g:G} {s:S} {H:FH} {b:Nat} {Q:Exit->S×List UInt8->Prop} {x:S×List UInt8}
end
end Go.Am
end

section
open Go Go.Am
namespace Lt
structure Var where
 Name:List UInt8
 Type_:List UInt8
 deriving Inhabited,DecidableEq
def Var.enc (x:Var):List D:=[.str x.Name,.str x.Type_]
def Var.dec:List D->Option Var
 | [.str v0,.str v1]=>some ⟨v0,v1⟩
 | _=>none
theorem Var.dec_inv:∀ (l:List D) (x:Var),Var.dec l=some x->l=x.enc:=by
 intro l x h;unfold Var.dec at h;split at h
 ·simp only [V6] at h; subst h; rfl
 ·simp at h
def Var.rw:Rw Var:=⟨Var.enc,Var.dec,Var.dec_inv⟩
theorem Var.rows (l:List Var):(∀ x∈l.map Var.enc,x.length=2)=True:=by
 simp [Var.enc]
attribute [push_cast] Var.enc Var.dec Var.rows
structure Class where
 Name:List UInt8
 Fields:List Var
 deriving Inhabited,DecidableEq
def Class.enc (x:Class):List D:=[.str x.Name,.li (x.Fields.map Var.enc)]
def Class.dec:List D->Option Class
 | [.str v0,.li v1]=>(cT Var.rw v1).bind fun w1=>some ⟨v0,w1⟩
 | _=>none
theorem Class.dec_inv:∀ (l:List D) (x:Class),Class.dec l=some x->l=x.enc:=by
 intro l x h;unfold Class.dec at h;split at h
 ·simp only [WB,V6] at h;obtain ⟨w1,hw1,rfl⟩:=h;rw [aG hw1]; rfl
 ·simp at h
def Class.rw:Rw Class:=⟨Class.enc,Class.dec,Class.dec_inv⟩
theorem Class.rows (l:List Class):(∀ x∈l.map Class.enc,x.length=2)=True:=by
 simp [Class.enc]
attribute [push_cast] Class.enc Class.dec Class.rows
structure Extern where
 Name:List UInt8
 N:Int
 deriving Inhabited,DecidableEq
def Extern.enc (x:Extern):List D:=[.str x.Name,.int .i64 x.N]
def Extern.dec:List D->Option Extern
 | [.str v0,.int .i64 v1]=>some ⟨v0,v1⟩
 | _=>none
theorem Extern.dec_inv:∀ (l:List D) (x:Extern),Extern.dec l=some x->l=x.enc:=by
 intro l x h;unfold Extern.dec at h;split at h
 ·simp only [V6] at h; subst h; rfl
 ·simp at h
def Extern.rw:Rw Extern:=⟨Extern.enc,Extern.dec,Extern.dec_inv⟩
theorem Extern.rows (l:List Extern):(∀ x∈l.map Extern.enc,x.length=2)=True:=by
 simp [Extern.enc]
attribute [push_cast] Extern.enc Extern.dec Extern.rows
structure Arg where
 Kind:Int
 S:List UInt8
 N:Int
 deriving Inhabited,DecidableEq
def Arg.enc (x:Arg):List D:=[.int .i64 x.Kind,.str x.S,.int .i64 x.N]
def Arg.dec:List D->Option Arg
 | [.int .i64 v0,.str v1,.int .i64 v2]=>some ⟨v0,v1,v2⟩
 | _=>none
theorem Arg.dec_inv:∀ (l:List D) (x:Arg),Arg.dec l=some x->l=x.enc:=by
 intro l x h;unfold Arg.dec at h;split at h
 ·simp only [V6] at h; subst h; rfl
 ·simp at h
def Arg.rw:Rw Arg:=⟨Arg.enc,Arg.dec,Arg.dec_inv⟩
theorem Arg.rows (l:List Arg):(∀ x∈l.map Arg.enc,x.length=3)=True:=by
 simp [Arg.enc]
attribute [push_cast] Arg.enc Arg.dec Arg.rows
structure In where
 Block:List UInt8
 A:Arg
 deriving Inhabited,DecidableEq
def In.enc (x:In):List D:=[.str x.Block,.int .i64 x.A.Kind,.str x.A.S,.int .i64 x.A.N]
def In.dec:List D->Option In
 | [.str v0,.int .i64 v1,.str v2,.int .i64 v3]=>some ⟨v0,⟨v1,v2,v3⟩⟩
 | _=>none
theorem In.dec_inv:∀ (l:List D) (x:In),In.dec l=some x->l=x.enc:=by
 intro l x h;unfold In.dec at h;split at h
 ·simp only [V6] at h; subst h; rfl
 ·simp at h
def In.rw:Rw In:=⟨In.enc,In.dec,In.dec_inv⟩
theorem In.rows (l:List In):(∀ x∈l.map In.enc,x.length=4)=True:=by
 simp [In.enc]
attribute [push_cast] In.enc In.dec In.rows
structure Phi where
 Dst:List UInt8
 Ins:List In
 deriving Inhabited,DecidableEq
def Phi.enc (x:Phi):List D:=[.str x.Dst,.li (x.Ins.map In.enc)]
def Phi.dec:List D->Option Phi
 | [.str v0,.li v1]=>(cT In.rw v1).bind fun w1=>some ⟨v0,w1⟩
 | _=>none
theorem Phi.dec_inv:∀ (l:List D) (x:Phi),Phi.dec l=some x->l=x.enc:=by
 intro l x h;unfold Phi.dec at h;split at h
 ·simp only [WB,V6] at h;obtain ⟨w1,hw1,rfl⟩:=h;rw [aG hw1]; rfl
 ·simp at h
def Phi.rw:Rw Phi:=⟨Phi.enc,Phi.dec,Phi.dec_inv⟩
theorem Phi.rows (l:List Phi):(∀ x∈l.map Phi.enc,x.length=2)=True:=by
 simp [Phi.enc]
attribute [push_cast] Phi.enc Phi.dec Phi.rows
structure Bind where
 Name:List UInt8
 A:Arg
 deriving Inhabited,DecidableEq
def Bind.enc (x:Bind):List D:=[.str x.Name,.int .i64 x.A.Kind,.str x.A.S,.int .i64 x.A.N]
def Bind.dec:List D->Option Bind
 | [.str v0,.int .i64 v1,.str v2,.int .i64 v3]=>some ⟨v0,⟨v1,v2,v3⟩⟩
 | _=>none
theorem Bind.dec_inv:∀ (l:List D) (x:Bind),Bind.dec l=some x->l=x.enc:=by
 intro l x h;unfold Bind.dec at h;split at h
 ·simp only [V6] at h; subst h; rfl
 ·simp at h
def Bind.rw:Rw Bind:=⟨Bind.enc,Bind.dec,Bind.dec_inv⟩
theorem Bind.rows (l:List Bind):(∀ x∈l.map Bind.enc,x.length=4)=True:=by
 simp [Bind.enc]
attribute [push_cast] Bind.enc Bind.dec Bind.rows
structure Frame where
 Func:List UInt8
 Block:List UInt8
 At:Int
 Vars:List Bind
 deriving Inhabited,DecidableEq
def Frame.enc (x:Frame):List D:=[.str x.Func,.str x.Block,.int .i64 x.At,.li (x.Vars.map Bind.enc)]
def Frame.dec:List D->Option Frame
 | [.str v0,.str v1,.int .i64 v2,.li v3]=>(cT Bind.rw v3).bind fun w3=>some ⟨v0,v1,v2,w3⟩
 | _=>none
theorem Frame.dec_inv:∀ (l:List D) (x:Frame),Frame.dec l=some x->l=x.enc:=by
 intro l x h;unfold Frame.dec at h;split at h
 ·simp only [WB,V6] at h;obtain ⟨w3,hw3,rfl⟩:=h;rw [aG hw3]; rfl
 ·simp at h
def Frame.rw:Rw Frame:=⟨Frame.enc,Frame.dec,Frame.dec_inv⟩
theorem Frame.rows (l:List Frame):(∀ x∈l.map Frame.enc,x.length=4)=True:=by
 simp [Frame.enc]
attribute [push_cast] Frame.enc Frame.dec Frame.rows
structure Virt where
 Class:List UInt8
 Vals:List Arg
 deriving Inhabited,DecidableEq
def Virt.enc (x:Virt):List D:=[.str x.Class,.li (x.Vals.map Arg.enc)]
def Virt.dec:List D->Option Virt
 | [.str v0,.li v1]=>(cT Arg.rw v1).bind fun w1=>some ⟨v0,w1⟩
 | _=>none
theorem Virt.dec_inv:∀ (l:List D) (x:Virt),Virt.dec l=some x->l=x.enc:=by
 intro l x h;unfold Virt.dec at h;split at h
 ·simp only [WB,V6] at h;obtain ⟨w1,hw1,rfl⟩:=h;rw [aG hw1]; rfl
 ·simp at h
def Virt.rw:Rw Virt:=⟨Virt.enc,Virt.dec,Virt.dec_inv⟩
theorem Virt.rows (l:List Virt):(∀ x∈l.map Virt.enc,x.length=2)=True:=by
 simp [Virt.enc]
attribute [push_cast] Virt.enc Virt.dec Virt.rows
structure Instr where
 Op:Int
 Dst:List UInt8
 Name:List UInt8
 Args:List Arg
 Frames:List Frame
 Objs:List Virt
 deriving Inhabited,DecidableEq
def Instr.enc (x:Instr):List D:=[.int .i64 x.Op,.str x.Dst,.str x.Name,.li (x.Args.map Arg.enc),.li (x.Frames.map Frame.enc),.li (x.Objs.map Virt.enc)]
def Instr.dec:List D->Option Instr
 | [.int .i64 v0,.str v1,.str v2,.li v3,.li v4,.li v5]=>(cT Arg.rw v3).bind fun w3=>(cT Frame.rw v4).bind fun w4=>(cT Virt.rw v5).bind fun w5=>some ⟨v0,v1,v2,w3,w4,w5⟩
 | _=>none
theorem Instr.dec_inv:∀ (l:List D) (x:Instr),Instr.dec l=some x->l=x.enc:=by
 intro l x h;unfold Instr.dec at h;split at h
 ·simp only [WB,V6] at h;obtain ⟨w3,hw3,w4,hw4,w5,hw5,rfl⟩:=h;rw [aG hw3,aG hw4,aG hw5]; rfl
 ·simp at h
def Instr.rw:Rw Instr:=⟨Instr.enc,Instr.dec,Instr.dec_inv⟩
theorem Instr.rows (l:List Instr):(∀ x∈l.map Instr.enc,x.length=6)=True:=by
 simp [Instr.enc]
attribute [push_cast] Instr.enc Instr.dec Instr.rows
structure Term where
 Kind:Int
 A:Arg
 To:List (List UInt8)
 N:Int
 deriving Inhabited,DecidableEq
def Term.enc (x:Term):List D:=[.int .i64 x.Kind,.int .i64 x.A.Kind,.str x.A.S,.int .i64 x.A.N,.li (x.To.map rS.enc),.int .i64 x.N]
def Term.dec:List D->Option Term
 | [.int .i64 v0,.int .i64 v1,.str v2,.int .i64 v3,.li v4,.int .i64 v5]=>(cT rS v4).bind fun w4=>some ⟨v0,⟨v1,v2,v3⟩,w4,v5⟩
 | _=>none
theorem Term.dec_inv:∀ (l:List D) (x:Term),Term.dec l=some x->l=x.enc:=by
 intro l x h;unfold Term.dec at h;split at h
 ·simp only [WB,V6] at h;obtain ⟨w4,hw4,rfl⟩:=h;rw [aG hw4]; rfl
 ·simp at h
def Term.rw:Rw Term:=⟨Term.enc,Term.dec,Term.dec_inv⟩
theorem Term.rows (l:List Term):(∀ x∈l.map Term.enc,x.length=6)=True:=by
 simp [Term.enc]
attribute [push_cast] Term.enc Term.dec Term.rows
structure Block where
 Name:List UInt8
 Phis:List Phi
 Code:List Instr
 End:Term
 deriving Inhabited,DecidableEq
def Block.enc (x:Block):List D:=[.str x.Name,.li (x.Phis.map Phi.enc),.li (x.Code.map Instr.enc),.int .i64 x.End.Kind,.int .i64 x.End.A.Kind,.str x.End.A.S,.int .i64 x.End.A.N,.li (x.End.To.map rS.enc),.int .i64 x.End.N]
def Block.dec:List D->Option Block
 | [.str v0,.li v1,.li v2,.int .i64 v3,.int .i64 v4,.str v5,.int .i64 v6,.li v7,.int .i64 v8]=>(cT Phi.rw v1).bind fun w1=>(cT Instr.rw v2).bind fun w2=>(cT rS v7).bind fun w7=>some ⟨v0,w1,w2,⟨v3,⟨v4,v5,v6⟩,w7,v8⟩⟩
 | _=>none
theorem Block.dec_inv:∀ (l:List D) (x:Block),Block.dec l=some x->l=x.enc:=by
 intro l x h;unfold Block.dec at h;split at h
 ·simp only [WB,V6] at h;obtain ⟨w1,hw1,w2,hw2,w7,hw7,rfl⟩:=h;rw [aG hw1,aG hw2,aG hw7]; rfl
 ·simp at h
def Block.rw:Rw Block:=⟨Block.enc,Block.dec,Block.dec_inv⟩
theorem Block.rows (l:List Block):(∀ x∈l.map Block.enc,x.length=9)=True:=by
 simp [Block.enc]
attribute [push_cast] Block.enc Block.dec Block.rows
structure Func where
 Name:List UInt8
 Result:List UInt8
 Params:List Var
 Vars:List Var
 Blocks:List Block
 deriving Inhabited,DecidableEq
def Func.enc (x:Func):List D:=[.str x.Name,.str x.Result,.li (x.Params.map Var.enc),.li (x.Vars.map Var.enc),.li (x.Blocks.map Block.enc)]
def Func.dec:List D->Option Func
 | [.str v0,.str v1,.li v2,.li v3,.li v4]=>(cT Var.rw v2).bind fun w2=>(cT Var.rw v3).bind fun w3=>(cT Block.rw v4).bind fun w4=>some ⟨v0,v1,w2,w3,w4⟩
 | _=>none
theorem Func.dec_inv:∀ (l:List D) (x:Func),Func.dec l=some x->l=x.enc:=by
 intro l x h;unfold Func.dec at h;split at h
 ·simp only [WB,V6] at h;obtain ⟨w2,hw2,w3,hw3,w4,hw4,rfl⟩:=h;rw [aG hw2,aG hw3,aG hw4]; rfl
 ·simp at h
def Func.rw:Rw Func:=⟨Func.enc,Func.dec,Func.dec_inv⟩
theorem Func.rows (l:List Func):(∀ x∈l.map Func.enc,x.length=5)=True:=by
 simp [Func.enc]
attribute [push_cast] Func.enc Func.dec Func.rows
structure Program where
 SSA:Bool
 Classes:List Class
 Globals:List Var
 Externs:List Extern
 Funcs:List Func
 deriving Inhabited,DecidableEq
def Program.enc (x:Program):List D:=[.bool x.SSA,.li (x.Classes.map Class.enc),.li (x.Globals.map Var.enc),.li (x.Externs.map Extern.enc),.li (x.Funcs.map Func.enc)]
def Program.dec:List D->Option Program
 | [.bool v0,.li v1,.li v2,.li v3,.li v4]=>(cT Class.rw v1).bind fun w1=>(cT Var.rw v2).bind fun w2=>(cT Extern.rw v3).bind fun w3=>(cT Func.rw v4).bind fun w4=>some ⟨v0,w1,w2,w3,w4⟩
 | _=>none
theorem Program.dec_inv:∀ (l:List D) (x:Program),Program.dec l=some x->l=x.enc:=by
 intro l x h;unfold Program.dec at h;split at h
 ·simp only [WB,V6] at h;obtain ⟨w1,hw1,w2,hw2,w3,hw3,w4,hw4,rfl⟩:=h;rw [aG hw1,aG hw2,aG hw3,aG hw4]; rfl
 ·simp at h
def Program.rw:Rw Program:=⟨Program.enc,Program.dec,Program.dec_inv⟩
theorem Program.rows (l:List Program):(∀ x∈l.map Program.enc,x.length=5)=True:=by
 simp [Program.enc]
attribute [push_cast] Program.enc Program.dec Program.rows
structure Reader where
 p:Program
 at_:Int
 where_:Int
 first:Bool
 long:Int
 deriving Inhabited,DecidableEq
def Reader.enc (x:Reader):List D:=[.bool x.p.SSA,.li (x.p.Classes.map Class.enc),.li (x.p.Globals.map Var.enc),.li (x.p.Externs.map Extern.enc),.li (x.p.Funcs.map Func.enc),.int .i64 x.at_,.int .i64 x.where_,.bool x.first,.int .i64 x.long]
def Reader.dec:List D->Option Reader
 | [.bool v0,.li v1,.li v2,.li v3,.li v4,.int .i64 v5,.int .i64 v6,.bool v7,.int .i64 v8]=>(cT Class.rw v1).bind fun w1=>(cT Var.rw v2).bind fun w2=>(cT Extern.rw v3).bind fun w3=>(cT Func.rw v4).bind fun w4=>some ⟨⟨v0,w1,w2,w3,w4⟩,v5,v6,v7,v8⟩
 | _=>none
theorem Reader.dec_inv:∀ (l:List D) (x:Reader),Reader.dec l=some x->l=x.enc:=by
 intro l x h;unfold Reader.dec at h;split at h
 ·simp only [WB,V6] at h;obtain ⟨w1,hw1,w2,hw2,w3,hw3,w4,hw4,rfl⟩:=h;rw [aG hw1,aG hw2,aG hw3,aG hw4]; rfl
 ·simp at h
def Reader.rw:Rw Reader:=⟨Reader.enc,Reader.dec,Reader.dec_inv⟩
theorem Reader.rows (l:List Reader):(∀ x∈l.map Reader.enc,x.length=9)=True:=by
 simp [Reader.enc]
attribute [push_cast] Reader.enc Reader.dec Reader.rows
structure Fault where
 e:Int
 deriving Inhabited,DecidableEq
def Fault.enc (x:Fault):List D:=[.int .i64 x.e]
def Fault.dec:List D->Option Fault
 | [.int .i64 v0]=>some ⟨v0⟩
 | _=>none
theorem Fault.dec_inv:∀ (l:List D) (x:Fault),Fault.dec l=some x->l=x.enc:=by
 intro l x h;unfold Fault.dec at h;split at h
 ·simp only [V6] at h; subst h; rfl
 ·simp at h
def Fault.rw:Rw Fault:=⟨Fault.enc,Fault.dec,Fault.dec_inv⟩
theorem Fault.rows (l:List Fault):(∀ x∈l.map Fault.enc,x.length=1)=True:=by
 simp [Fault.enc]
attribute [push_cast] Fault.enc Fault.dec Fault.rows
structure Line where
 N:Int
 Words:List (List UInt8)
 deriving Inhabited,DecidableEq
def Line.enc (x:Line):List D:=[.int .i64 x.N,.li (x.Words.map rS.enc)]
def Line.dec:List D->Option Line
 | [.int .i64 v0,.li v1]=>(cT rS v1).bind fun w1=>some ⟨v0,w1⟩
 | _=>none
theorem Line.dec_inv:∀ (l:List D) (x:Line),Line.dec l=some x->l=x.enc:=by
 intro l x h;unfold Line.dec at h;split at h
 ·simp only [WB,V6] at h;obtain ⟨w1,hw1,rfl⟩:=h;rw [aG hw1]; rfl
 ·simp at h
def Line.rw:Rw Line:=⟨Line.enc,Line.dec,Line.dec_inv⟩
theorem Line.eta (x:Line):(⟨x.N,x.Words⟩:Line)=x:=rfl
theorem Line.rwe (x:Line):Line.rw.enc x=x.enc:=rfl
theorem Line.rwd (l:List D):Line.rw.dec l=Line.dec l:=rfl
theorem Line.rwm:Line.rw.enc=Line.enc:=rfl
theorem Line.rows (l:List Line):(∀ x∈l.map Line.enc,x.length=2)=True:=by
 simp [Line.enc]
attribute [push_cast] Line.enc Line.dec Line.eta Line.rwe Line.rwd Line.rwm Line.rows
structure Read where
 P:Program
 Where:Int
 Long:Int
 deriving Inhabited,DecidableEq
def Read.enc (x:Read):List D:=[.bool x.P.SSA,.li (x.P.Classes.map Class.enc),.li (x.P.Globals.map Var.enc),.li (x.P.Externs.map Extern.enc),.li (x.P.Funcs.map Func.enc),.int .i64 x.Where,.int .i64 x.Long]
def Read.dec:List D->Option Read
 | [.bool v0,.li v1,.li v2,.li v3,.li v4,.int .i64 v5,.int .i64 v6]=>(cT Class.rw v1).bind fun w1=>(cT Var.rw v2).bind fun w2=>(cT Extern.rw v3).bind fun w3=>(cT Func.rw v4).bind fun w4=>some ⟨⟨v0,w1,w2,w3,w4⟩,v5,v6⟩
 | _=>none
theorem Read.dec_inv:∀ (l:List D) (x:Read),Read.dec l=some x->l=x.enc:=by
 intro l x h;unfold Read.dec at h;split at h
 ·simp only [WB,V6] at h;obtain ⟨w1,hw1,w2,hw2,w3,hw3,w4,hw4,rfl⟩:=h;rw [aG hw1,aG hw2,aG hw3,aG hw4]; rfl
 ·simp at h
def Read.rw:Rw Read:=⟨Read.enc,Read.dec,Read.dec_inv⟩
theorem Read.rows (l:List Read):(∀ x∈l.map Read.enc,x.length=7)=True:=by
 simp [Read.enc]
attribute [push_cast] Read.enc Read.dec Read.rows
structure RLine where
 N:Int
 Words:List (List UInt8)
 deriving Inhabited,DecidableEq
def RLine.enc (x:RLine):List D:=[.int .i64 x.N,.li (x.Words.map rS.enc)]
def RLine.dec:List D->Option RLine
 | [.int .i64 v0,.li v1]=>(cT rS v1).bind fun w1=>some ⟨v0,w1⟩
 | _=>none
theorem RLine.dec_inv:∀ (l:List D) (x:RLine),RLine.dec l=some x->l=x.enc:=by
 intro l x h;unfold RLine.dec at h;split at h
 ·simp only [WB,V6] at h;obtain ⟨w1,hw1,rfl⟩:=h;rw [aG hw1]; rfl
 ·simp at h
def RLine.rw:Rw RLine:=⟨RLine.enc,RLine.dec,RLine.dec_inv⟩
theorem RLine.rows (l:List RLine):(∀ x∈l.map RLine.enc,x.length=2)=True:=by
 simp [RLine.enc]
attribute [push_cast] RLine.enc RLine.dec RLine.rows
structure Sheet where
 l:List Line
 deriving Inhabited,DecidableEq
def Sheet.enc (x:Sheet):List D:=[.li (x.l.map Line.enc)]
def Sheet.dec:List D->Option Sheet
 | [.li v0]=>(cT Line.rw v0).bind fun w0=>some ⟨w0⟩
 | _=>none
theorem Sheet.dec_inv:∀ (l:List D) (x:Sheet),Sheet.dec l=some x->l=x.enc:=by
 intro l x h;unfold Sheet.dec at h;split at h
 ·simp only [WB,V6] at h;obtain ⟨w0,hw0,rfl⟩:=h;rw [aG hw0]; rfl
 ·simp at h
def Sheet.rw:Rw Sheet:=⟨Sheet.enc,Sheet.dec,Sheet.dec_inv⟩
theorem Sheet.rows (l:List Sheet):(∀ x∈l.map Sheet.enc,x.length=1)=True:=by
 simp [Sheet.enc]
attribute [push_cast] Sheet.enc Sheet.dec Sheet.rows
structure Form where
 Word:List UInt8
 Dst:Bool
 Named:Bool
 Least:Int
 Most:Int
 deriving Inhabited,DecidableEq
def Form.enc (x:Form):List D:=[.str x.Word,.bool x.Dst,.bool x.Named,.int .i64 x.Least,.int .i64 x.Most]
def Form.dec:List D->Option Form
 | [.str v0,.bool v1,.bool v2,.int .i64 v3,.int .i64 v4]=>some ⟨v0,v1,v2,v3,v4⟩
 | _=>none
theorem Form.dec_inv:∀ (l:List D) (x:Form),Form.dec l=some x->l=x.enc:=by
 intro l x h;unfold Form.dec at h;split at h
 ·simp only [V6] at h; subst h; rfl
 ·simp at h
def Form.rw:Rw Form:=⟨Form.enc,Form.dec,Form.dec_inv⟩
theorem Form.rows (l:List Form):(∀ x∈l.map Form.enc,x.length=5)=True:=by
 simp [Form.enc]
attribute [push_cast] Form.enc Form.dec Form.rows
structure RForm where
 Word:List UInt8
 Dst:Bool
 Named:Bool
 Least:Int
 Most:Int
 deriving Inhabited,DecidableEq
def RForm.enc (x:RForm):List D:=[.str x.Word,.bool x.Dst,.bool x.Named,.int .i64 x.Least,.int .i64 x.Most]
def RForm.dec:List D->Option RForm
 | [.str v0,.bool v1,.bool v2,.int .i64 v3,.int .i64 v4]=>some ⟨v0,v1,v2,v3,v4⟩
 | _=>none
theorem RForm.dec_inv:∀ (l:List D) (x:RForm),RForm.dec l=some x->l=x.enc:=by
 intro l x h;unfold RForm.dec at h;split at h
 ·simp only [V6] at h; subst h; rfl
 ·simp at h
def RForm.rw:Rw RForm:=⟨RForm.enc,RForm.dec,RForm.dec_inv⟩
theorem RForm.rows (l:List RForm):(∀ x∈l.map RForm.enc,x.length=5)=True:=by
 simp [RForm.enc]
attribute [push_cast] RForm.enc RForm.dec RForm.rows
def Sheet.cenc (x:Sheet):List T:=[.ow [.fr,.fr] (x.l.map Line.enc)]
def Sheet.cdec:List T->Option Sheet
 | [.ow sub v0]=>if sub.all Sh.isFr=true/\sub.length=2 then (cT Line.rw v0).bind fun w0=>some ⟨w0⟩ else none
 | [.nil]=>some ⟨[]⟩
 | _=>none
theorem Sheet.cs_inv (l:List T) (x:Sheet) (h:Sheet.cdec l=some x):qY [(0,[.fr,.fr])] l=x.cenc:=by
 unfold Sheet.cdec at h;split at h
 ·split at h
  ·rename_i sub v0 hs;simp only [WB,V6] at h;obtain ⟨w0,h0,rfl⟩:=h;rw [aG h0];have e:sub=[.fr,.fr]:=by rw [S0 hs.1,hs.2]; rfl
   subst e; rfl
  ·simp at h
 ·simp only [V6] at h; subst h; rfl
 ·simp at h
theorem Sheet.cs_ren (l:List T) (x:Sheet) (n:Nm) (h:Sheet.cdec l=some x):Sheet.cdec (l.map (T.ren n (.out 0)))=some x:=by
 unfold Sheet.cdec at h;split at h
 ·exact h
 ·exact h
 ·simp at h
def Sheet.cs:Cs1 Sheet:=⟨0,Sheet.cenc,Sheet.cdec,[(0,[.fr,.fr])],Sheet.cs_inv,fun _=>rfl,Sheet.cs_ren⟩
attribute [push_cast] Sheet.cenc Sheet.cdec
end Lt
end

section
namespace Go.Am
open Go.Proofs
theorem ty2:ty Tryz.prog 2=⟨true,false,1,8,.int .i64⟩:=by kernel_rfl
theorem ty5:ty Tryz.prog 5=⟨true,false,1,1,.int .u8⟩:=by kernel_rfl
theorem ty9:ty Tryz.prog 9=⟨true,false,1,16,.str⟩:=by kernel_rfl
theorem Vk:ty Tryz.prog 106=⟨true,false,1,24,.sl 5⟩:=by kernel_rfl
theorem Vy:ty Tryz.prog 173=⟨true,true,20,20,.ar 20 5⟩:=by kernel_rfl
theorem VJ:zcells Tryz.prog 173=some [.int .u8 0,.int .u8 0,.int .u8 0,.int .u8 0,.int .u8 0,.int .u8 0,.int .u8 0,.int .u8 0,.int .u8 0,.int .u8 0,.int .u8 0,.int .u8 0,.int .u8 0,.int .u8 0,.int .u8 0,.int .u8 0,.int .u8 0,.int .u8 0,.int .u8 0,.int .u8 0]:=by kernel_rfl
attribute [push_cast] ty2 ty5 ty9 Vk Vy VJ
end Go.Am
end

section
namespace Lt
def jw:Bool->List (List UInt8)->List UInt8
 | _,[]=>[]
 | b,w::r=>(if b then [32] else [])++w++jw true r
def S3 (l:List Line):List UInt8:=l.flatMap fun x=>jw false x.Words++[10]
end Lt
namespace Go.Am
open Go.RowKit Go.Proofs
section
variable {P:Program} {cs:CT} {all:List Oper} {g:G} {s:S} {H:FH} {b:Nat} {Q:Exit->S×List UInt8->Prop} {x:S×List UInt8}
end
end Go.Am
end

section
namespace Lt
open Go
def Bn (c:Int):Bool:=(((decide (97<=c))&&(decide (c<=122)))||((decide (65<=c))&&(decide (c<=90))))||(decide (c=95))
def letter (c:UInt8):Bool:=Bn ((c.toNat:Nat):Int)
def fh (c:UInt8):Bool:=(decide (48<=((c.toNat:Nat):Int)))&&(decide (((c.toNat:Nat):Int)<=57))
def kept (s:List UInt8):Bool:=((decide (s=[110,117,108,108]))||(decide (s=[105,110,116])))||(decide (s=[102,108,111,97,116]))
def iS (c:UInt8):Bool:=letter c||fh c
def Name (s:List UInt8):Bool:=(!decide (s=[])&&decide (s.length<=16)&&letter (s.getD 0 0)&&!kept s)&&s.all iS
def kind (s:List UInt8):Bool:=((decide (s=[105,110,116]))||(decide (s=[102,108,111,97,116])))||Name s
def typed (l:List Var) (most:Int):Bool:=decide ((l.length:Int)<=most)&&l.all fun v=>Name v.Name&&kind v.Type_
def Plain (n:Int):Int:=
 if ((decide ((IntKind.i64.wrap ((BitVec.ofInt IntKind.i64.bits n &&& BitVec.ofInt IntKind.i64.bits 9218868437227405312).toNat:Nat))=9218868437227405312))&&(!decide ((IntKind.i64.wrap ((BitVec.ofInt IntKind.i64.bits n &&& BitVec.ofInt IntKind.i64.bits 4503599627370495).toNat:Nat))=0)))=true then 9221120237041090560 else n
def bj (a:Arg):Bool:=
 if a.Kind=1 then Name a.S&&decide (a.N=0)
 else if a.Kind=2 then decide (a.S=[])
 else if a.Kind=3 then decide (a.S=[])&&decide (Plain a.N=a.N)
 else if a.Kind=4 then decide (a.S=[])&&decide (a.N=0)
 else if a.Kind=5 then (decide (a.S=[])&&decide (0<=a.N))&&decide (a.N<=999)
 else false
def dQ (objs:Bool) (a:Arg):Bool:=bj a&&!(decide (a.Kind=5)&&!objs)
def mT (l:List Arg) (objs:Bool):Bool:=l.all (dQ objs)
def AG (b:Bind):Bool:=Name b.Name&&dQ true b.A
def frame (f:Frame):Bool:=(Name f.Func&&Name f.Block&&decide (0<=f.At)&&decide (f.At<=1024)&&decide (f.Vars.length<=16))&&f.Vars.all AG
def virt (o:Virt):Bool:=Name o.Class&&decide (o.Vals.length<=8)&&mT o.Vals true
def M0 (l:List UInt8):Nat->Int->Nat->Nat->List UInt8
 | 0,_,_,_=>[]
 | k+1,n,f,i=>
  if i<l.length then
   if (((l.getD i 0).toNat:Nat):Int)=32 then
    if IntKind.i64.wrap (n - 1)=0 then (l.drop (f+1)).take (i - (f+1)) else M0 l k (IntKind.i64.wrap (n - 1)) i (i+1)
   else M0 l k n f (i+1)
  else []
def nth (l:List UInt8) (n:Int):List UInt8:=M0 l (l.length+1) n 0 1
def two:List UInt8:=32::97::100::100::32::115::117::98::32::109::117::108::32::100::105::118::32::114::101::109::32::97::110::100::32::111::114::32::120::111::114::32::115::104::108::32::115::104::114::32::101::113::32::110::101::32::108::116::32::108::101::32::102::97::100::100::32::102::115::117::98::32::102::109::117::108::32::102::100::105::118::32::102::101::113::32::102::108::116::32::102::108::101::32::[]
def Of (op:Int):Form×Bool:=
 if 1<=op/\op<=21 then (⟨nth two op,true,false,2,2⟩,true)
 else if 22<=op/\op<=24 then (⟨nth [32,105,116,111,102,32,102,116,111,105,32,109,111,118,32] (IntKind.i64.wrap (op - 21)),true,false,1,1⟩,true)
 else if op=25 then (⟨[110,101,119],true,true,0,8⟩,true)
 else if op=26 then (⟨[108,111,97,100],true,true,1,1⟩,true)
 else if op=27 then (⟨[115,116,111,114,101],false,true,2,2⟩,true)
 else if op=28 then (⟨[115,97,109,101],true,false,2,2⟩,true)
 else if op=29 then (⟨[103,108,111,97,100],true,true,0,0⟩,true)
 else if op=30 then (⟨[103,115,116,111,114,101],false,true,1,1⟩,true)
 else if op=31 then (⟨[99,97,108,108],true,true,0,8⟩,true)
 else if op=32 then (⟨[101,120,116],true,true,0,8⟩,true)
 else if op=33 then (⟨[111,117,116],false,false,1,1⟩,true)
 else if op=34 then (⟨[103,117,97,114,100],false,false,0,0⟩,true)
 else (⟨[],false,false,0,0⟩,false)
def instr (i:Instr):Bool:=
 ((Of i.Op).2&&((Of i.Op).1.Dst==!decide (i.Dst=[]))&&((Of i.Op).1.Named==!decide (i.Name=[]))&&!((Of i.Op).1.Dst&&!Name i.Dst)&&!((Of i.Op).1.Named&&!Name i.Name))
 && (decide ((Of i.Op).1.Least<=(i.Args.length:Int))&&decide ((i.Args.length:Int)<=(Of i.Op).1.Most)&&mT i.Args false&&decide (i.Frames.length<=16)&&decide (i.Objs.length<=99))
 && (if i.Op≠31/\i.Op≠34 then decide (i.Frames=[])&&decide (i.Objs=[]) else i.Frames.all frame&&i.Objs.all virt)
def Ko (i:In):Bool:=Name i.Block&&dQ false i.A
def phi (x:Phi):Bool:=(Name x.Dst&&!decide (x.Ins=[])&&decide (x.Ins.length<=256))&&x.Ins.all Ko
def Kp (a:Arg):Bool:=decide (a=⟨0,[],0⟩)
def jE (t:Term):Bool:=t.To.all Name &&
 (if t.Kind=1 then Kp t.A&&decide (t.To.length=1)&&decide (t.N=0)
  else if t.Kind=2 then dQ false t.A&&decide (t.To.length=2)&&decide (t.N=0)
  else if t.Kind=3 then dQ false t.A&&decide (t.To.length=0)&&decide (t.N=0)
  else if t.Kind=4 then Kp t.A&&decide (t.To.length=0)
  else false)
def block (b:Block):Bool:=(Name b.Name&&jE b.End)&&(b.Phis.all phi&&b.Code.all instr)
def blocks:List Block->Nat->Bool
 | [],_=>true
 | b::r,long=>(decide (long+(b.Phis.length+b.Code.length)<=1024)&&block b)&&blocks r (long+(b.Phis.length+b.Code.length))
def cm (f:Func):Bool:=(Name f.Name&&kind f.Result&&typed f.Params 6&&typed f.Vars 1024&&!decide (f.Blocks=[])&&decide (f.Blocks.length<=256))&&blocks f.Blocks 0
def iD (c:Class):Bool:=Name c.Name&&typed c.Fields 8
def mF (x:Extern):Bool:=Name x.Name&&decide (0<=x.N)&&decide (x.N<=8)
def digs (n:Nat):List UInt8:=if n < 10 then [UInt8.ofNat (48+n)] else digs (n / 10)++[UInt8.ofNat (48+n % 10)]
def dJ (n:Int):Int:=IntKind.u8.wrap (IntKind.i64.wrap (48+(if n < 0 then IntKind.i64.wrap (0-n) else n)))
def aS (n:Int):List UInt8:=(if n < 0 then [45] else [])++digs n.natAbs
def number (n:Int):List UInt8:=aS n
def Qe (u:Int) (x:Int):UInt8:=([48,49,50,51,52,53,54,55,56,57,97,98,99,100,101,102]:List UInt8).getD (IntKind.u64.wrap ((BitVec.ofInt IntKind.u64.bits (Int.fdiv (IntKind.u64.wrap u) (2 ^ (min (IntKind.u64.wrap x).toNat IntKind.u64.bits))) &&& BitVec.ofInt IntKind.u64.bits 15).toNat:Nat)).toNat 0
def oZ (n:Int):List UInt8:=[48,102]++(List.range 16).map fun (i:Nat)=>Qe (Plain n) (60 - 4*(i:Int))
def cG (a:Arg):List UInt8:=
 if bj a then
  if a.Kind=2 then aS a.N else if a.Kind=3 then oZ a.N else if a.Kind=4 then [110,117,108,108] else if a.Kind=5 then 35::aS a.N else a.S
 else []
def puts (l:List Arg):List (List UInt8):=l.map cG
def ln (w:List (List UInt8)):Line:=⟨0,w⟩
def words (i:Instr):List (List UInt8):=
 (if (Of i.Op).1.Dst then [i.Dst,[61]] else [])++[(Of i.Op).1.Word] ++
 (if i.Op=26\/i.Op=27 then (puts i.Args).getD 0 default::i.Name::(puts i.Args).drop 1
  else (if (Of i.Op).1.Named then [i.Name] else [])++puts i.Args)
def fy (a b:List Var):Bool:=decide (a=b)
def kn (a b:List Arg):Bool:=decide (a=b)
def kG (a b:Instr):Bool:=decide (a=b)
def kF (a b:Block):Bool:=decide (a=b)
def ml (a b:Func):Bool:=decide (a=b)
def Same (a b:Program):Bool:=decide (a=b)
def inR (n:Int):Prop:=-9223372036854775808<=n/\n < 9223372036854775808
def Arg.ok (a:Arg):Prop:=inR a.N
def QL (l:List Arg):Prop:=∀ a∈l,a.ok
def Bind.ok (b:Bind):Prop:=b.A.ok
def Frame.ok (f:Frame):Prop:=f.Vars.length<=4611686018427387904/\∀ b∈f.Vars,b.ok
def Virt.ok (o:Virt):Prop:=QL o.Vals
def Instr.ok (i:Instr):Prop:=QL i.Args/\(∀ f∈i.Frames,f.ok)/\(∀ o∈i.Objs,o.ok)
def In.ok (i:In):Prop:=i.A.ok
def Phi.ok (x:Phi):Prop:=x.Ins.length<=4611686018427387904/\∀ i∈x.Ins,i.ok
def Term.ok (t:Term):Prop:=t.A.ok/\inR t.N
def Block.ok (b:Block):Prop:=(∀ x∈b.Phis,x.ok)/\(∀ i∈b.Code,i.ok)/\b.End.ok
def Func.ok (f:Func):Prop:=∀ b∈f.Blocks,b.ok
def Program.ok (p:Program):Prop:=∀ f∈p.Funcs,f.ok
def room:Nat:=1099511627776
def gJ (n:Int):Prop:=inR n
def jV (a:Arg):Prop:=a.ok
end Lt
end

section
namespace Lt
open Go
def zH (n:Int):Int:=if n < 0 then IntKind.u64.wrap (0 - (IntKind.u64.wrap n)) else IntKind.u64.wrap n
def pU (n:Int):List UInt8:=aS n
def oH (n:Int):Bool:=decide (9218868437227405312 < (Int.tmod (IntKind.u64.wrap n) 9223372036854775808))
def bi (n:Int):Int:=if oH n=true then 9221120237041090560 else n
def Oa (x:Int):UInt8:=UInt8.ofNat (IntKind.u8.wrap ((IntKind.u8.wrap (Int.tmod x 16))+(if IntKind.u8.wrap (Int.tmod x 16) < 10 then 48 else 87))).toNat
def g9:Nat->Int->List UInt8->List UInt8
 | 0,_,l=>l
 | k+1,x,l=>g9 k (IntKind.u64.wrap (Int.tdiv x 16)) (Oa x::l)
def jR (n:Int):List UInt8:=[48,102]++g9 16 (IntKind.u64.wrap (bi n)) []
def lj (i:Nat) (c:UInt8):Bool:=
 !((((!(((decide (48<=((c.toNat:Nat):Int)))&&(decide (((c.toNat:Nat):Int)<=57)))&&(decide (0 < (i:Int)))))&&(!decide (((c.toNat:Nat):Int)=95)))&&((decide (((c.toNat:Nat):Int) < 65))||(decide (90 < ((c.toNat:Nat):Int)))))&&((decide (((c.toNat:Nat):Int) < 97))||(decide (122 < ((c.toNat:Nat):Int)))))
def az (s:List UInt8):Bool:=((List.range s.length).all fun i=>lj i (s.getD i 0)) &&
 (((((decide (1<=(s.length:Int)))&&(decide ((s.length:Int)<=16)))&&(!decide (s=[110,117,108,108])))&&(!decide (s=[105,110,116])))&&(!decide (s=[102,108,111,97,116])))
def fX (a:Arg):Bool:=
 if a.Kind=1 then az a.S&&decide (a.N=0)
 else if (((decide (a.Kind < 1))||(decide (5<a.Kind)))||(!decide (a.S=[])))=true then false
 else (((decide (a.Kind=2))||((decide (a.Kind=3))&&(decide ((bi a.N)=a.N))))||((decide (a.Kind=4))&&(decide (a.N=0))))||(((decide (a.Kind=5))&&(decide (0<=a.N)))&&(decide (a.N<=999)))
def mJ (a:Arg):List UInt8:=
 if fX a then
  if a.Kind=1 then a.S else if a.Kind=2 then pU a.N else if a.Kind=3 then jR a.N else if a.Kind=4 then [110,117,108,108] else 35::pU a.N
 else []
def rOf (op:Int):RForm×Bool:=
 if op < 1\/34<op then (⟨[],false,false,0,0⟩,false)
 else (⟨Go.Am.gw.getD op.toNat default,(((!decide (op=27))&&(!decide (op=30)))&&(!decide (op=33)))&&(!decide (op=34)),(((decide (op=25))||(decide (op=26)))||(decide (op=27)))||((decide (29<=op))&&(decide (op<=32))),
  if op=22\/op=23\/op=24\/op=26\/op=30\/op=33 then 1 else if op=25\/op=31\/op=32\/op=29\/op=34 then 0 else 2,
  if op=22\/op=23\/op=24\/op=26\/op=30\/op=33 then 1 else if op=25\/op=31\/op=32 then 8 else if op=29\/op=34 then 0 else 2⟩,true)
end Lt
end

section
namespace Go.Am
open Go
inductive Sn where
 | Var | Class | Extern | Arg | In | Phi | Bind | Frame | Virt | Instr | Term | Block | Func | Program | Reader | Fault | Line | Read | RLine | Sheet | Form | RForm
 deriving DecidableEq,Inhabited
inductive U where
 | i (k:IntKind) | b8 | bo | s | sl (u:U) | st (n:Sn)
 deriving DecidableEq,Inhabited
abbrev Uc:Sn->Type
 | .Var=>Lt.Var
 | .Class=>Lt.Class
 | .Extern=>Lt.Extern
 | .Arg=>Lt.Arg
 | .In=>Lt.In
 | .Phi=>Lt.Phi
 | .Bind=>Lt.Bind
 | .Frame=>Lt.Frame
 | .Virt=>Lt.Virt
 | .Instr=>Lt.Instr
 | .Term=>Lt.Term
 | .Block=>Lt.Block
 | .Func=>Lt.Func
 | .Program=>Lt.Program
 | .Reader=>Lt.Reader
 | .Fault=>Lt.Fault
 | .Line=>Lt.Line
 | .Read=>Lt.Read
 | .RLine=>Lt.RLine
 | .Sheet=>Lt.Sheet
 | .Form=>Lt.Form
 | .RForm=>Lt.RForm
abbrev El:U->Type
 | .i _=>Int
 | .b8=>UInt8
 | .bo=>Bool
 | .s=>List UInt8
 | .sl u=>List (El u)
 | .st n=>Uc n
abbrev Fl:List U->Type
 | []=>Unit
 | [u]=>El u
 | u::v::r=>El u×Fl (v::r)
def Fl.cons:(u:U)->(us:List U)->El u->Fl us->Fl (u::us)
 | _,[],x,_=>x
 | _,_::_,x,y=>(x,y)
def Fl.hd:(u:U)->(us:List U)->Fl (u::us)->El u
 | _,[],x=>x
 | _,_::_,x=>x.1
def Fl.tl:(u:U)->(us:List U)->Fl (u::us)->Fl us
 | _,[],_=>()
 | _,_::_,x=>x.2
structure SD (α:Type) where
 fs:List U
 mkF:Fl fs->α
 un:α->Fl fs
 l1:∀ x,mkF (un x)=x
 l2:∀ y,un (mkF y)=y
 enc:α->List D
 df:α
def sd:(n:Sn)->SD (Uc n)
 | .Var=>⟨[.s,.s],fun x=>⟨x.1,x.2⟩,fun x=>(x.Name,x.Type_),fun _=>rfl,fun _=>rfl,Lt.Var.enc,default⟩
 | .Class=>⟨[.s,(.sl (.st .Var))],fun x=>⟨x.1,x.2⟩,fun x=>(x.Name,x.Fields),fun _=>rfl,fun _=>rfl,Lt.Class.enc,default⟩
 | .Extern=>⟨[.s,(.i .i64)],fun x=>⟨x.1,x.2⟩,fun x=>(x.Name,x.N),fun _=>rfl,fun _=>rfl,Lt.Extern.enc,default⟩
 | .Arg=>⟨[(.i .i64),.s,(.i .i64)],fun x=>⟨x.1,x.2.1,x.2.2⟩,fun x=>(x.Kind,x.S,x.N),fun _=>rfl,fun _=>rfl,Lt.Arg.enc,default⟩
 | .In=>⟨[.s,(.i .i64),.s,(.i .i64)],fun x=>⟨x.1,⟨x.2.1,x.2.2.1,x.2.2.2⟩⟩,fun x=>(x.Block,x.A.Kind,x.A.S,x.A.N),fun _=>rfl,fun _=>rfl,Lt.In.enc,default⟩
 | .Phi=>⟨[.s,(.sl (.st .In))],fun x=>⟨x.1,x.2⟩,fun x=>(x.Dst,x.Ins),fun _=>rfl,fun _=>rfl,Lt.Phi.enc,default⟩
 | .Bind=>⟨[.s,(.i .i64),.s,(.i .i64)],fun x=>⟨x.1,⟨x.2.1,x.2.2.1,x.2.2.2⟩⟩,fun x=>(x.Name,x.A.Kind,x.A.S,x.A.N),fun _=>rfl,fun _=>rfl,Lt.Bind.enc,default⟩
 | .Frame=>⟨[.s,.s,(.i .i64),(.sl (.st .Bind))],fun x=>⟨x.1,x.2.1,x.2.2.1,x.2.2.2⟩,fun x=>(x.Func,x.Block,x.At,x.Vars),fun _=>rfl,fun _=>rfl,Lt.Frame.enc,default⟩
 | .Virt=>⟨[.s,(.sl (.st .Arg))],fun x=>⟨x.1,x.2⟩,fun x=>(x.Class,x.Vals),fun _=>rfl,fun _=>rfl,Lt.Virt.enc,default⟩
 | .Instr=>⟨[(.i .i64),.s,.s,(.sl (.st .Arg)),(.sl (.st .Frame)),(.sl (.st .Virt))],fun x=>⟨x.1,x.2.1,x.2.2.1,x.2.2.2.1,x.2.2.2.2.1,x.2.2.2.2.2⟩,fun x=>(x.Op,x.Dst,x.Name,x.Args,x.Frames,x.Objs),fun _=>rfl,fun _=>rfl,Lt.Instr.enc,default⟩
 | .Term=>⟨[(.i .i64),(.i .i64),.s,(.i .i64),(.sl .s),(.i .i64)],fun x=>⟨x.1,⟨x.2.1,x.2.2.1,x.2.2.2.1⟩,x.2.2.2.2.1,x.2.2.2.2.2⟩,fun x=>(x.Kind,x.A.Kind,x.A.S,x.A.N,x.To,x.N),fun _=>rfl,fun _=>rfl,Lt.Term.enc,default⟩
 | .Block=>⟨[.s,(.sl (.st .Phi)),(.sl (.st .Instr)),(.i .i64),(.i .i64),.s,(.i .i64),(.sl .s),(.i .i64)],fun x=>⟨x.1,x.2.1,x.2.2.1,⟨x.2.2.2.1,⟨x.2.2.2.2.1,x.2.2.2.2.2.1,x.2.2.2.2.2.2.1⟩,x.2.2.2.2.2.2.2.1,x.2.2.2.2.2.2.2.2⟩⟩,fun x=>(x.Name,x.Phis,x.Code,x.End.Kind,x.End.A.Kind,x.End.A.S,x.End.A.N,x.End.To,x.End.N),fun _=>rfl,fun _=>rfl,Lt.Block.enc,default⟩
 | .Func=>⟨[.s,.s,(.sl (.st .Var)),(.sl (.st .Var)),(.sl (.st .Block))],fun x=>⟨x.1,x.2.1,x.2.2.1,x.2.2.2.1,x.2.2.2.2⟩,fun x=>(x.Name,x.Result,x.Params,x.Vars,x.Blocks),fun _=>rfl,fun _=>rfl,Lt.Func.enc,default⟩
 | .Program=>⟨[.bo,(.sl (.st .Class)),(.sl (.st .Var)),(.sl (.st .Extern)),(.sl (.st .Func))],fun x=>⟨x.1,x.2.1,x.2.2.1,x.2.2.2.1,x.2.2.2.2⟩,fun x=>(x.SSA,x.Classes,x.Globals,x.Externs,x.Funcs),fun _=>rfl,fun _=>rfl,Lt.Program.enc,default⟩
 | .Reader=>⟨[.bo,(.sl (.st .Class)),(.sl (.st .Var)),(.sl (.st .Extern)),(.sl (.st .Func)),(.i .i64),(.i .i64),.bo,(.i .i64)],fun x=>⟨⟨x.1,x.2.1,x.2.2.1,x.2.2.2.1,x.2.2.2.2.1⟩,x.2.2.2.2.2.1,x.2.2.2.2.2.2.1,x.2.2.2.2.2.2.2.1,x.2.2.2.2.2.2.2.2⟩,fun x=>(x.p.SSA,x.p.Classes,x.p.Globals,x.p.Externs,x.p.Funcs,x.at_,x.where_,x.first,x.long),fun _=>rfl,fun _=>rfl,Lt.Reader.enc,default⟩
 | .Fault=>⟨[(.i .i64)],fun x=>⟨x⟩,fun x=>x.e,fun _=>rfl,fun _=>rfl,Lt.Fault.enc,default⟩
 | .Line=>⟨[(.i .i64),(.sl .s)],fun x=>⟨x.1,x.2⟩,fun x=>(x.N,x.Words),fun _=>rfl,fun _=>rfl,Lt.Line.enc,default⟩
 | .Read=>⟨[.bo,(.sl (.st .Class)),(.sl (.st .Var)),(.sl (.st .Extern)),(.sl (.st .Func)),(.i .i64),(.i .i64)],fun x=>⟨⟨x.1,x.2.1,x.2.2.1,x.2.2.2.1,x.2.2.2.2.1⟩,x.2.2.2.2.2.1,x.2.2.2.2.2.2⟩,fun x=>(x.P.SSA,x.P.Classes,x.P.Globals,x.P.Externs,x.P.Funcs,x.Where,x.Long),fun _=>rfl,fun _=>rfl,Lt.Read.enc,default⟩
 | .RLine=>⟨[(.i .i64),(.sl .s)],fun x=>⟨x.1,x.2⟩,fun x=>(x.N,x.Words),fun _=>rfl,fun _=>rfl,Lt.RLine.enc,default⟩
 | .Sheet=>⟨[(.sl (.st .Line))],fun x=>⟨x⟩,fun x=>x.l,fun _=>rfl,fun _=>rfl,Lt.Sheet.enc,default⟩
 | .Form=>⟨[.s,.bo,.bo,(.i .i64),(.i .i64)],fun x=>⟨x.1,x.2.1,x.2.2.1,x.2.2.2.1,x.2.2.2.2⟩,fun x=>(x.Word,x.Dst,x.Named,x.Least,x.Most),fun _=>rfl,fun _=>rfl,Lt.Form.enc,default⟩
 | .RForm=>⟨[.s,.bo,.bo,(.i .i64),(.i .i64)],fun x=>⟨x.1,x.2.1,x.2.2.1,x.2.2.2.1,x.2.2.2.2⟩,fun x=>(x.Word,x.Dst,x.Named,x.Least,x.Most),fun _=>rfl,fun _=>rfl,Lt.RForm.enc,default⟩
end Go.Am
end

section
namespace Go.Am
inductive C where
 | i (k:IntKind) (n:Int)
 | b (x:UInt8)
 | bo (x:Bool)
 | s (l:List UInt8)
 | li (u:U) (l:List (El u))
 | v (x:Value)
 | any
 deriving Inhabited
def dflt:(u:U)->El u
 | .i _=>(default:Int)
 | .b8=>(default:UInt8)
 | .bo=>(default:Bool)
 | .s=>(default:List UInt8)
 | .sl _=>[]
 | .st n=>(sd n).df
def tb (u' u:U) (l:List (El u')):Option (List (El u)):=if h:u'=u then some (cast (by rw [h]) l) else none
theorem jW {u' u:U} {l:List (El u')} {x:List (El u)} (h:tb u' u l=some x):∃ e:u'=u,x=e ▸ l:=by
 unfold tb at h;split at h
 ·rename_i e; subst e; exact ⟨rfl,(Option.some.inj h).symm⟩
 ·cases h
def gL:(u:U)->El u->C
 | .i k,n=>.i k n
 | .b8,x=>.b x
 | .bo,x=>.bo x
 | .s,l=>.s l
 | .sl u,l=>.li u l
 | .st _,_=>.any
def sq:(u:U)->C->Option (El u)
 | .i k,.i k' n=>if k'=k then some n else none
 | .b8,.b x=>some x
 | .bo,.bo x=>some x
 | .s,.s l=>some l
 | .sl u,.li u' l=>tb u' u l
 | _,_=>none
def leaf:U->Bool
 | .st _=>false
 | _=>true
theorem kD {u:U} {c:C} {x:El u} (h:sq u c=some x):c=gL u x:=by
 unfold sq at h;split at h
 ·split at h
  ·rename_i e; subst e; rw [<- Option.some.inj h]; rfl
  ·cases h
 ·rw [<- Option.some.inj h]; rfl
 ·rw [<- Option.some.inj h]; rfl
 ·rw [<- Option.some.inj h]; rfl
 ·obtain ⟨e,rfl⟩:=jW h; subst e; rfl
 ·cases h
def dK:(us:List U)->Fl us->List C
 | [],_=>[]
 | u::r,x=>gL u (Fl.hd u r x)::dK r (Fl.tl u r x)
def jD:(us:List U)->List C->Option (Fl us)
 | [],[]=>some ()
 | u::r,c::cs=>match sq u c,jD r cs with
  | some x,some y=>some (Fl.cons u r x y)
  | _,_=>none
 | _,_=>none
theorem jB (u:U) (us:List U) (x:El u) (y:Fl us):Fl.hd u us (Fl.cons u us x y)=x:=by cases us <;> rfl
theorem jh (u:U) (us:List U) (x:El u) (y:Fl us):Fl.tl u us (Fl.cons u us x y)=y:=by cases us <;> rfl
theorem uP:∀ {us:List U} {cs:List C} {x:Fl us},jD us cs=some x->cs=dK us x
 | [],[],_,_=>rfl
 | u::r,c::cs,x,h=>by
  simp only [jD] at h;cases h1:sq u c with
  | none=>rw [h1] at h; cases h
  | some a=>
   cases h2:jD r cs with
   | none=>rw [h1,h2] at h; cases h
   | some b=>
    rw [h1,h2] at h;simp only [V6] at h;subst h;rw [dK,jB,jh,<- kD h1,<- uP h2]
 | [],_::_,_,h=>by simp [jD] at h
 | _::_,[],_,h=>by simp [jD] at h
def flat:(u:U)->El u->List C
 | .st n,x=>dK (sd n).fs ((sd n).un x)
 | .i k,x=>[.i k x]
 | .b8,x=>[.b x]
 | .bo,x=>[.bo x]
 | .s,x=>[.s x]
 | .sl u,x=>[.li u x]
def unflat:(u:U)->List C->Option (El u)
 | .st n,cs=>match jD (sd n).fs cs with
  | some y=>some ((sd n).mkF y)
  | none=>none
 | u,[c]=>sq u c
 | _,_=>none
theorem kg:∀ {u:U} (_:leaf u=true) (x:El u),flat u x=[gL u x]
 | .i _,_,_=>rfl
 | .b8,_,_=>rfl
 | .bo,_,_=>rfl
 | .s,_,_=>rfl
 | .sl _,_,_=>rfl
 | .st _,h,_=>by cases h
theorem AJ {u:U} {cs:List C} {x:El u} (h:unflat u cs=some x):cs=flat u x:=by
 cases u with
 | st n=>
  simp only [unflat] at h;cases h1:jD (sd n).fs cs with
  | none=>rw [h1] at h; cases h
  | some y=>
   rw [h1] at h;have hx:=Option.some.inj h
   subst hx;show cs=dK (sd n).fs ((sd n).un ((sd n).mkF y))
   rw [(sd n).l2,<- uP h1]
 | _=>
  cases cs with
  | nil=>cases h
  | cons c r=>cases r with
   | nil=>rw [kg rfl,<- kD h]
   | cons _ _=>cases h
def nc:U->Nat
 | .st n=>(sd n).fs.length
 | _=>1
theorem oq:∀ (us:List U) (x:Fl us),(dK us x).length=us.length
 | [],_=>rfl
 | u::r,x=>by simp only [dK,Wp,oq r]
theorem gv {u:U} (x:El u):(flat u x).length=nc u:=by
 cases u with
 | st n=>exact oq _ _
 | _=>rfl
def ao:(u:U)->El u->List D
 | .i k,n=>[.int k n]
 | .b8,x=>[.int .u8 (x.toNat:Int)]
 | .bo,x=>[.bool x]
 | .s,l=>[.str l]
 | .sl u,l=>[.li (l.map (ao u))]
 | .st n,x=>(sd n).enc x
def C.toD:C->D
 | .i k n=>.int k n
 | .b x=>.int .u8 (x.toNat:Int)
 | .bo x=>.bool x
 | .s l=>.str l
 | .li u l=>.li (l.map (ao u))
 | .v x=>.v x
 | .any=>.any
theorem TP:∀ (n:Sn) (x:Uc n),(dK (sd n).fs ((sd n).un x)).map C.toD=(sd n).enc x:=by
 intro n; cases n <;> intro x <;> rfl
theorem bz {u:U} (x:El u):(flat u x).map C.toD=ao u x:=by
 cases u with
 | st n=>exact TP n x
 | _=>rfl
theorem jl {u:U} (x:El u):(ao u x).length=nc u:=by rw [<- bz,Wc,gv]
inductive Tt where
 | d (c:C)
 | nil
 | ow (sh:List Sh) (u:U) (l:List (El u))
 | el (row:List C) (off:Nat)
 | ga (u:U) (l:List (El u)) (i:Nat)
 | pl (p:Pl)
 | rf (p:Pl)
 | any
 deriving Inhabited
def Tt.toT:Tt->T
 | .d c=>.d c.toD
 | .nil=>.nil
 | .ow sh u l=>.ow sh (l.map (ao u))
 | .el row off=>.el (row.map C.toD) off
 | .ga u l i=>.el (l.map fun x=>(gL u x).toD) i
 | .pl p=>.pl p
 | .rf p=>.rf p
 | .any=>.any
inductive A1 where
 | c (t:Tt)
 | agg (ts:List Tt)
 deriving Inhabited
def A1.toV:A1->AV1
 | .c t=>.c t.toT
 | .agg ts=>.agg (ts.map Tt.toT)
inductive At where
 | one (x:A1)
 | tup (vs:List A1)
 | any
 deriving Inhabited
def At.toV:At->AV
 | .one x=>.one x.toV
 | .tup vs=>.tup (vs.map A1.toV)
 | .any=>.any
structure Rt where
 blk:Bool
 cells:List Tt
 hole:Option (Nat×Step×List Step)
def holed (cells:List T):Option (Nat×Step×List Step)->List T
 | none=>cells
 | some (off,st,q)=>match cells[off]? with
  | some (.ow sub l)=>cells.set off (.ow sub (bE sub l .any (st::q)))
  | _=>cells
def Rt.toR (r:Rt):Root:=⟨r.blk,holed (r.cells.map Tt.toT) r.hole⟩
structure St where
 nx:Nat
 t:List (Nat×Nat×At)
 m:List (Nm×Nat×Rt)
def St.toS (s:St):S:=⟨s.t.map fun x=>(x.1,x.2.2.toV),s.m.map fun x=>(x.1,x.2.2.toR)⟩
def gtA:List (Nat×Nat×At)->Nat->At
 | [],_=>.any
 | (k,_,v)::t,i=>match Nat.beq k i with
  | true=>v
  | false=>gtA t i
def bK:List (Nm×Nat×Rt)->Nm->Option Rt
 | [],_=>none
 | (k,_,r)::m,n=>if k=n then some r else bK m n
def fK:List (Nm×Nat×Rt)->Nm->Nat->Rt->List (Nm×Nat×Rt)
 | [],_,_,_=>[]
 | (k,j,x)::m,n,i,r=>if k=n then (k,i,r)::m else (k,j,x)::fK m n i r
def dw:List (Nm×Nat×Rt)->Nm->List (Nm×Nat×Rt)
 | [],_=>[]
 | (k,j,x)::m,n=>if k=n then dw m n else (k,j,x)::dw m n
theorem cK (i:Nat):∀ t:List (Nat×Nat×At),aA (t.map fun x=>(x.1,x.2.2.toV)) i=(gtA t i).toV
 | []=>rfl
 | (k,j,v)::t=>by
  simp only [List.map_cons,aA,gtA];by_cases h:k=i
  ·subst h; rw [if_pos rfl,Nat.beq_refl]
  ·rw [if_neg h];have:Nat.beq k i=false:=by
    cases hb:Nat.beq k i
    ·rfl
    ·exact absurd (Wg hb) h
   rw [this]; exact cK i t
abbrev toM (m:List (Nm×Nat×Rt)):Mm:=m.map fun x=>(x.1,x.2.2.toR)
theorem qe (n:Nm):∀ m:List (Nm×Nat×Rt),ae (toM m) n=(bK m n).map Rt.toR
 | []=>rfl
 | (k,j,v)::m=>by
  simp only [toM,List.map_cons,ae,bK];by_cases h:k=n
  ·rw [if_pos h,if_pos h]; rfl
  ·rw [if_neg h,if_neg h]; exact qe n m
theorem fo (n:Nm) (i:Nat) (r:Rt):∀ m:List (Nm×Nat×Rt),toM (fK m n i r)=cy (toM m) n r.toR
 | []=>rfl
 | (k,j,v)::m=>by
  simp only [toM,List.map_cons,cy,fK];by_cases h:k=n
  ·rw [if_pos h,if_pos h]; rfl
  ·rw [if_neg h,if_neg h,List.map_cons]; exact congrArg _ (fo n i r m)
abbrev ND (m:List (Nm×Nat×Rt)):Prop:=(m.map (·.1)).Nodup
theorem KV (n:Nm):∀ m:List (Nm×Nat×Rt),n ∉ m.map (·.1)->dw m n=m
 | [],_=>rfl
 | (k,j,v)::m,h=>by
  simp only [List.map_cons,Wk,not_or] at h;simp only [dw];rw [if_neg (fun e=>h.1 e.symm),KV n m h.2]
theorem mb (n:Nm):∀ m:List (Nm×Nat×Rt),ND m->toM (dw m n)=bh (toM m) n
 | [],_=>rfl
 | (k,j,v)::m,hn=>by
  have hn':k ∉ m.map (·.1)/\(m.map (·.1)).Nodup:=by simpa [ND] using hn
  simp only [toM,List.map_cons,bh,dw];by_cases h:k=n
  ·subst h; rw [if_pos rfl,if_pos rfl,KV k m hn'.1]
  ·rw [if_neg h,if_neg h,List.map_cons]; exact congrArg _ (mb n m hn'.2)
def St.put (s:St):Option Tmp->At->St
 | none,_=>s
 | some d,v=>⟨s.nx+1,(d,s.nx,v)::s.t,s.m⟩
end Go.Am
end

section
namespace Go.Am
def Tt.kill (bad:Bool->Pl->Bool):Tt->Tt
 | .pl p=>if bad false p then .any else .pl p
 | .rf p=>if bad true p then .any else .rf p
 | t=>t
def A1.kill (bad:Bool->Pl->Bool):A1->A1
 | .c t=>.c (t.kill bad)
 | .agg ts=>.agg (ts.map (·.kill bad))
def At.kill (bad:Bool->Pl->Bool):At->At
 | .one x=>.one (x.kill bad)
 | .tup xs=>.tup (xs.map (·.kill bad))
 | .any=>.any
def Tt.ment (n:Nm):Tt->Bool
 | .pl p=>decide (p.root=n)
 | .rf p=>decide (p.root=n)
 | _=>false
def Tt.hit (bad:Bool->Pl->Bool):Tt->Bool
 | .pl p=>bad false p
 | .rf p=>bad true p
 | _=>false
def A1.hit (bad:Bool->Pl->Bool):A1->Bool
 | .c t=>t.hit bad
 | .agg ts=>ts.any (·.hit bad)
def At.hit (bad:Bool->Pl->Bool):At->Bool
 | .one x=>x.hit bad
 | .tup xs=>xs.any (·.hit bad)
 | .any=>false
def Rt.kill (bad:Bool->Pl->Bool) (r:Rt):Rt:=⟨r.blk,r.cells.map (·.kill bad),r.hole⟩
def stp:Bool->Nat->Nat->Nat
 | true,i,_=>i
 | false,_,j=>j
def eR (bad:Bool->Pl->Bool) (nx:Nat) (t:List (Nat×Nat×At)):List (Nat×Nat×At):=t.map fun x=>(x.1,stp (x.2.2.hit bad) nx x.2.1,x.2.2.kill bad)
def bw (bad:Bool->Pl->Bool) (nx:Nat) (m:List (Nm×Nat×Rt)):List (Nm×Nat×Rt):=m.map fun x=>(x.1,stp (x.2.2.cells.any (·.hit bad)) nx x.2.1,x.2.2.kill bad)
def St.drop (s:St) (n:Nm):St:=⟨s.nx+1,eR (bG n) s.nx s.t,bw (bG n) s.nx (dw s.m n)⟩
def St.fresh (s:St) (n:Nm):St:=match bK s.m n with
 | none=>s
 | some _=>s.drop n
def St.root (s:St) (n:Nm) (r:Rt):St:=⟨s.nx+1,s.t,(n,s.nx,r)::s.m⟩
def Tt.frz (q:Pl) (u:U) (l:List (El u)):Tt->Tt
 | .rf p=>match p with
  | ⟨n,o,[]⟩=>if n=q.root/\o=q.off then .d (.li u l) else (Tt.rf ⟨n,o,[]⟩).kill (thr q)
  | p=>(Tt.rf p).kill (thr q)
 | t=>t.kill (thr q)
def A1.map (f:Tt->Tt):A1->A1
 | .c t=>.c (f t)
 | .agg ts=>.agg (ts.map f)
def At.map (f:Tt->Tt):At->At
 | .one x=>.one (x.map f)
 | .tup xs=>.tup (xs.map (·.map f))
 | .any=>.any
def setCell (m:List (Nm×Nat×Rt)) (n:Nm) (i:Nat) (off:Nat) (t:Tt):List (Nm×Nat×Rt):=match bK m n with
 | some r=>fK m n i { r with cells:=r.cells.set off t }
 | none=>m
def DX (q:Pl) (rf:Bool) (p:Pl):Bool:=thr q rf p||(rf&&decide (p.root=q.root/\p.off=q.off))
def qk (s:St) (q:Pl):St:=
 match q.path,bK s.m q.root with
 | [],some r=>match r.hole,r.cells[q.off]? with
  | none,some (.ow _ u l)=>⟨s.nx+1,s.t.map fun x=>(x.1,stp (x.2.2.hit (DX q)) s.nx x.2.1,x.2.2.map (Tt.frz q u l)),
    setCell (bw (thr q) s.nx (setCell s.m q.root s.nx q.off .any)) q.root s.nx q.off (.d (.li u l))⟩
  | _,_=>s
 | _,_=>s
def Kz (s:St):Tt->St
 | .rf p=>qk s p
 | _=>s
def Ch:St->List Tt->St
 | s,[]=>s
 | s,t::ts=>Ch (Kz s t) ts
def jz (s:St):At->St
 | .one (.c t)=>Kz s t
 | .one (.agg ts)=>Ch s ts
 | _=>s
def b9 (s:St):List At->St
 | []=>s
 | v::vs=>b9 (jz s v) vs
def mkC (k:IntKind) (n:Int):C:=match k with
 | .u8=>.b (UInt8.ofNat n.toNat)
 | k=>.i k n
def q9:C->Option (IntKind×Int)
 | .i k n=>match k with
  | .u8=>none
  | k=>some (k,n)
 | .b x=>some (.u8,(x.toNat:Int))
 | _=>none
def qX:Value->Tt
 | .bool b=>.d (.bo b)
 | .int k n=>match k with
  | .u8=>if 0<=n/\n < 256 then .d (.b (UInt8.ofNat n.toNat)) else .any
  | k=>.d (.i k n)
 | .string s=>.d (.s s.data.toList)
 | .slice none 0 0=>.nil
 | .pointer none=>.d (.v (.pointer none))
 | .map none=>.d (.v (.map none))
 | .nilFunc=>.d (.v .nilFunc)
 | .nilIface=>.d (.v .nilIface)
 | .func f a b=>.d (.v (.func f a b))
 | _=>.any
def TS:Value->At
 | .agg cs=>.one (.agg (cs.toList.map qX))
 | v=>.one (.c (qX v))
abbrev sct (x:C):At:=.one (.c (.d x))
def Ti (k:Nat):Option (List (List UInt8)):=match gP k with
 | none=>none
 | some _=>some gw
def evA (s:St):Operand->At
 | .tmp t=>gtA s.t t
 | .const v=>TS v
 | .func f=>sct (.v (.func (.func f) #[] #[]))
 | .global g=>match Ti g with
  | some l=>.one (.c (.ga .s l 0))
  | none=>.any
def zk (c x y:At) (k:At->Prop):Prop:=
 match c with
 | .one (.c (.d (.bo b)))=>if b=true then k x else k y
 | _=>False
def OP (op:BinOp) (k:IntKind) (a b:Int) (K:C->Prop):Prop:=
 match op with
 | .add=>K (mkC k (k.wrap (a+b)))
 | .sub=>K (mkC k (k.wrap (a-b)))
 | .mul=>K (mkC k (k.wrap (a*b)))
 | .quo=>b≠0/\K (mkC k (k.wrap (a.tdiv b)))
 | .rem=>b≠0/\K (mkC k (a.tmod b))
 | .and=>K (mkC k (k.wrap (BitVec.ofInt k.bits a &&& BitVec.ofInt k.bits b).toNat))
 | .or=>K (mkC k (k.wrap (BitVec.ofInt k.bits a ||| BitVec.ofInt k.bits b).toNat))
 | .xor=>K (mkC k (k.wrap (BitVec.ofInt k.bits a ^^^ BitVec.ofInt k.bits b).toNat))
 | .andNot=>K (mkC k (k.wrap (BitVec.ofInt k.bits a &&& ~~~BitVec.ofInt k.bits b).toNat))
 | .shl=>0<=b/\K (mkC k (k.wrap (a*2 ^ (min b.toNat k.bits))))
 | .shr=>0<=b/\K (mkC k (a.fdiv (2 ^ (min b.toNat k.bits))))
 | .eql=>K (.bo (decide (a=b)))
 | .neq=>K (.bo (!decide (a=b)))
 | .lss=>K (.bo (decide (a<b)))
 | .leq=>K (.bo (decide (a<=b)))
 | .gtr=>K (.bo (decide (b<a)))
 | .geq=>K (.bo (decide (b<=a)))
def Vu:BinOp->Bool
 | .shl=>true
 | .shr=>true
 | _=>false
def L5 (op:BinOp) (x y:C) (K:C->Prop):Prop:=
 match x,y with
 | .s a,.s b=>match op with
  | .add=>a.length+b.length<=4611686018427387904/\K (.s (a++b))
  | .eql=>K (.bo (decide (a=b)))
  | .neq=>K (.bo (!decide (a=b)))
  | .lss=>K (.bo (Op.bytesLess a b))
  | .leq=>K (.bo (Op.bytesLess a b||decide (a=b)))
  | .gtr=>K (.bo (!(Op.bytesLess a b||decide (a=b))))
  | .geq=>K (.bo (!Op.bytesLess a b))
  | _=>False
 | x,y=>match q9 x,q9 y with
  | some (k,a),some (k',b)=>if Vu op=true\/k=k' then OP op k a b K else False
  | _,_=>False
def eqC (ck:CK) (x y:C):Option Bool:=
 match ck with
 | .i=>match q9 x,q9 y with
  | some (k,a),some (k',b)=>if k=k' then some (decide (a=b)) else none
  | _,_=>none
 | .s=>match x,y with
  | .s a,.s b=>some (decide (a=b))
  | _,_=>none
 | .b=>match x,y with
  | .bo a,.bo b=>some (a==b)
  | _,_=>none
def Pt:List (Nat×CK)->List C->List C->Option Bool
 | [],_,_=>some true
 | (o,ck)::l,xs,ys=>match xs[o]?,ys[o]? with
  | some x,some y=>match eqC ck x y,l with
   | some b,[]=>some b
   | some b,l=>match Pt l xs ys with
    | some r=>some (b&&r)
    | none=>none
   | none,_=>none
  | _,_=>none
def TC:Tt->C
 | .d c=>c
 | _=>.any
def Mp (P:Program) (op:BinOp) (t:TypeId) (x y:At) (k:At->Prop):Prop:=
 match x,y with
 | .one (.c (.d (.bo a))),.one (.c (.d (.bo b)))=>match (ty P t).k with
  | .bool=>match op with
   | .eql=>k (sct (.bo (a==b)))
   | .neq=>k (sct (.bo (!(a==b))))
   | _=>False
  | _=>False
 | .one (.c (.d a)),.one (.c (.d b))=>L5 op a b fun d=>k (sct d)
 | .one (.agg xs),.one (.agg ys)=>match JZ P t with
  | some l=>match Pt l (xs.map TC) (ys.map TC),op with
   | some b,.eql=>k (sct (.bo b))
   | some b,.neq=>k (sct (.bo (!b)))
   | _,_=>False
  | none=>False
 | _,_=>False
def unT (op:UnOp) (x:At) (k:At->Prop):Prop:=
 match op,x with
 | .not,.one (.c (.d (.bo b)))=>k (sct (.bo (!b)))
 | .neg,.one (.c (.d c))=>match q9 c with
  | some (κ,n)=>k (sct (mkC κ (κ.wrap (0-n))))
  | none=>False
 | .xor,.one (.c (.d c))=>match q9 c with
  | some (κ,n)=>k (sct (mkC κ (κ.wrap (BitVec.ofInt κ.bits (if κ.signed then -1 else κ.max) ^^^ BitVec.ofInt κ.bits n).toNat)))
  | none=>False
 | _,_=>False
def j1 (x:At) (i:Nat) (k:At->Prop):Prop:=
 match x with
 | .tup vs=>match vs[i]? with
  | some v=>k (.one v)
  | none=>False
 | _=>False
def inT (sub:List Sh) (u:U) (l:List (El u)) (n:Nat):List Step->Option (List Tt)
 | []=>none
 | [st]=>match Nat.ble (st.off+n) sub.length with
  | true=>some (List.zipWith (fun s c=>match s,c with
    | Sh.fr,x=>Tt.d x
    | Sh.ow s,C.li u' l'=>Tt.ow s u' l'
    | _,_=>Tt.any) ((sub.drop st.off).take n) (((flat u (l.getD st.idx (dflt u))).drop st.off).take n))
  | false=>none
 | st::st'::r=>match sub[st.off]?,(flat u (l.getD st.idx (dflt u)))[st.off]? with
  | some (.ow s),some (.li u' l')=>inT s u' l' n (st'::r)
  | _,_=>none
def UM:Option (Nat×Step×List Step)->List Step->Bool
 | none,_=>true
 | some (_,_,q'),p=>Nat.blt p.length (q'.length+1)
def atT (m:List (Nm×Nat×Rt)) (p:Pl) (n:Nat):Option (List Tt):=
 match bK m p.root with
 | none=>none
 | some r=>match p.path with
  | []=>match Nat.ble (p.off+n) r.cells.length with
   | true=>some ((r.cells.drop p.off).take n)
   | false=>none
  | st::q=>match UM r.hole (st::q),r.cells[p.off]? with
   | true,some (.ow sub u l)=>inT sub u l n (st::q)
   | _,_=>none
def QO (q:Pl):Tt->Tt
 | .ow _ _ _=>.rf q
 | t=>t
def I2 (p:Pl) (ts:List Tt):List Tt:=ts.zipIdx.map fun x=>QO (p.add x.2) x.1
def sliceAt (m:List (Nm×Nat×Rt)) (p:Pl):Option ((_:List Sh)×(u:U)×List (El u)):=
 match atT m p 1 with
 | some [.ow sh u l]=>some ⟨sh,u,l⟩
 | _=>none
def gift:Option (Nat×Bool)->Nat->Prop->Prop
 | none,n,q=>n<=4611686018427387904->q
 | some _,_,q=>q
def Ma (gd:Option (Nat×Bool)) (m:List (Nm×Nat×Rt)) (x:At) (k:Nat->Prop):Prop:=
 match x with
 | .one (.c (.d (.s l)))=>gift gd l.length (k l.length)
 | .one (.c (.d (.li _ l)))=>gift gd l.length (k l.length)
 | .one (.c .nil)=>k 0
 | .one (.c (.rf p))=>match sliceAt m p with
  | some ⟨_,_,l⟩=>gift gd l.length (k l.length)
  | _=>False
 | _=>False
def rZ (x i:At) (k:At->Prop):Prop:=
 match x,i with
 | .one (.c (.d (.s l))),.one (.c (.d (.i _ n)))=>(0<=n/\n.toNat<l.length)/\k (sct (.b (l.getD n.toNat 0)))
 | _,_=>False
def fG (x:Option At) (d:Nat) (k:Nat->Prop):Prop:=
 match x with
 | none=>k d
 | some (.one (.c (.d (.i _ n))))=>0<=n/\k n.toNat
 | _=>False
def r9 (P:Program) (t:TypeId) (x:At) (lo hi:Option At) (k:At->Prop):Prop:=
 match x with
 | .one (.c (.d (.s l)))=>match (ty P t).k with
  | .str=>fG lo 0 fun a=>fG hi l.length fun b=>(a<=b/\b<=l.length)/\k (sct (.s ((l.drop a).take (b-a))))
  | _=>False
 | .one (.c (.d (.li u l)))=>match (ty P t).k with
  | .sl e=>match (ty P e).ok&&Nat.beq (nc u) (ty P e).size with
   | true=>fG lo 0 fun a=>fG hi l.length fun b=>(a<=b/\b<=l.length)/\k (sct (.li u ((l.drop a).take (b-a))))
   | false=>False
  | _=>False
 | .one (.c .nil)=>match (ty P t).k with
  | .sl e=>match (ty P e).ok with
   | true=>fG lo 0 fun a=>fG hi 0 fun b=>a<=b/\b<=0/\k (.one (.c .nil))
   | false=>False
  | _=>False
 | _=>False
def mC (m:List (Nm×Nat×Rt)) (p:Pl) (n:Nat):Bool:=
 match bK m p.root with
 | none=>false
 | some r=>match p.path,r.cells[p.off]? with
  | [],_=>Nat.ble (n+1) (r.cells.length-p.off)
  | st::q,some (.ow sub _ _)=>match tF sub (st::q) with
   | some k=>Nat.ble (n+1) k
   | none=>false
  | _,_=>false
def fW (P:Program) (m:List (Nm×Nat×Rt)) (t:TypeId) (x:At) (i:Nat) (k:At->Prop):Prop:=
 match (ty P t).k with
 | .st fs=>match fs[i]? with
  | some (off,size+1,_)=>match x with
   | .one (.c (.pl p))=>match mC m p off with
    | true=>k (.one (.c (.pl (p.add off))))
    | false=>False
   | .one (.c (.el row o))=>k (.one (.c (.el row (o+off))))
   | _=>False
  | _=>False
 | _=>False
def gc (P:Program) (m:List (Nm×Nat×Rt)) (t:TypeId) (x i:At) (k:At->Prop):Prop:=
 match i with
 | .one (.c (.d (.i _ n)))=>match (ty P t).k with
  | .sl e=>match x with
   | .one (.c (.d (.li u l)))=>match (ty P e).ok&&Nat.beq (nc u) (ty P e).size with
    | true=>(0<=n/\n.toNat<l.length)/\k (.one (.c (.el (flat u (l.getD n.toNat (dflt u))) 0)))
    | false=>False
   | .one (.c (.rf p))=>match (ty P e).ok&&Nat.ble 1 (ty P e).size with
    | true=>match sliceAt m p with
     | some ⟨sh,_,l⟩=>match Nat.beq sh.length (ty P e).size with
      | true=>(0<=n/\n < (l.length:Int))/\k (.one (.c (.pl (p.at n.toNat (ty P e).size))))
      | false=>False
     | _=>False
    | false=>False
   | _=>False
  | .ar N e=>match x with
   | .one (.c (.ga u l i))=>match (ty P e).ok&&Nat.beq (ty P e).size 1&&leaf u with
    | true=>(0<=n/\n < (N:Int))/\k (.one (.c (.ga u l (n.toNat+i))))
    | false=>False
   | .one (.c (.pl p))=>match (ty P e).ok&&mC m p (n.toNat*(ty P e).size) with
    | true=>(0<=n/\n < (N:Int))/\k (.one (.c (.pl (p.add (n.toNat*(ty P e).size)))))
    | false=>False
   | _=>False
  | _=>False
 | _=>False
def ou (P:Program) (m:List (Nm×Nat×Rt)) (t:TypeId) (x:At) (k:At->Prop):Prop:=
 match (ty P t).ok with
 | true=>match x with
  | .one (.c (.el row o))=>match (ty P t).agg with
   | true=>match Nat.ble (o+(ty P t).size) row.length with
    | true=>k (.one (.agg (((row.drop o).take (ty P t).size).map Tt.d)))
    | false=>False
   | false=>match row[o]? with
    | some c=>k (sct c)
    | none=>False
  | .one (.c (.ga u l i))=>match (ty P t).agg,leaf u with
   | false,true=>i<l.length/\k (sct (gL u (l.getD i (dflt u))))
   | _,_=>False
  | .one (.c (.pl p))=>match (ty P t).agg with
   | true=>match atT m p (ty P t).size with
    | some ts=>k (.one (.agg (I2 p ts)))
    | none=>False
   | false=>match atT m p 1 with
    | some [t']=>k (.one (.c (QO p t')))
    | _=>False
  | _=>False
 | false=>False
def sK (P:Program) (t:TypeId) (x:At) (i:Nat) (k:At->Prop):Prop:=
 match (ty P t).k,x with
 | .st fs,.one (.agg ts)=>match fs[i]? with
  | some (off,_,some false)=>match ts[off]? with
   | some t'=>k (.one (.c t'))
   | none=>False
  | some (off,size,some true)=>match Nat.ble (off+size) ts.length with
   | true=>k (.one (.agg ((ts.drop off).take size)))
   | false=>False
  | _=>False
 | _,_=>False
def io (x:At) (k:At->Prop):Prop:=
 match x with
 | .one (.c (.pl _))=>k x
 | .one (.c (.el _ _))=>k x
 | .one (.c (.ga _ _ _))=>k x
 | _=>False
def Tt.sure:Tt->Bool
 | .any=>false
 | .d .any=>false
 | _=>true
def ni:At->Option (List Tt)
 | .one (.c t)=>some [t]
 | .one (.agg ts)=>some ts
 | _=>none
def pc (pl:Nat->Option (Nat×Nat)):List Tt->List (Nat×At)->Option (List Tt)
 | ts,[]=>some ts
 | ts,(i,x)::r=>match pl i,ni x with
  | some (off,size),some cs=>match Nat.beq cs.length size&&Nat.ble (off+cs.length) ts.length&&cs.all Tt.sure with
   | true=>pc pl (overw ts off cs) r
   | false=>none
  | _,_=>none
def lg (s:St) (ps:Array (Nat×Operand)):List (Nat×At):=ps.toList.map fun x=>(x.1,evA s x.2)
def r7 (P:Program) (t:TypeId) (parts:List (Nat×At)) (k:At->Prop):Prop:=
 match zst P t with
 | some (zs,places)=>match pc (places[·]?) (zs.map qX) parts with
  | some ts=>k (.one (.agg ts))
  | none=>False
 | none=>False
def yR (P:Program) (su du:TypeId) (x:At) (k:At->Prop):Prop:=
 match (ty P su).k,(ty P du).k with
 | .int _,.int κ=>match x with
  | .one (.c (.d c))=>match q9 c with
   | some (_,n)=>k (sct (mkC κ (κ.wrap n)))
   | none=>False
  | _=>False
 | .sl e,.str=>match (ty P e).k with
  | .int .u8=>match x with
   | .one (.c (.d (.li .b8 l)))=>k (sct (.s l))
   | .one (.c .nil)=>k (sct (.s []))
   | _=>False
  | _=>False
 | _,_=>False
def sv (P:Program) (s:St) (t:TypeId) (d:Tmp) (k:St->Prop):Prop:=
 match zcells P t with
 | some (z::zs)=>match Nat.blt d 1000000 with
  | true=>k (((s.fresh (lL t d)).root (lL t d) ⟨true,(z::zs).map qX,none⟩).put (some d) (.one (.c (.pl ⟨lL t d,0,[]⟩))))
  | false=>False
 | _=>False
def LI (s:St) (x:Operand) (d:Tmp) (k:St->Prop):Prop:=
 match ni (evA (s.fresh (.loc d)) x) with
 | some (t::ts)=>match (t::ts).all Tt.sure&&Nat.blt d 1000000 with
  | true=>k (((s.fresh (.loc d)).root (.loc d) ⟨true,t::ts,none⟩).put (some d) (.one (.c (.pl ⟨.loc d,0,[]⟩))))
  | false=>False
 | _=>False
def Ut:=List (TypeId×U)
def Ut.get:Ut->TypeId->Option U
 | [],_=>none
 | (t,u)::r,i=>match Nat.beq t i with
  | true=>some u
  | false=>Ut.get r i
def EQ (u:U) (c:Tt):Option (El u):=
 match c with
 | .d c=>sq u c
 | .nil=>match u with
  | .sl _=>some []
  | _=>none
 | _=>none
def jv:(us:List U)->List Tt->Option (Fl us)
 | [],[]=>some ()
 | u::r,c::cs=>match EQ u c,jv r cs with
  | some x,some y=>some (Fl.cons u r x y)
  | _,_=>none
 | _,_=>none
def je (u:U) (ts:List Tt):Option (El u):=
 match u with
 | .st n=>match jv (sd n).fs ts with
  | some y=>some ((sd n).mkF y)
  | none=>none
 | u=>match ts with
  | [t]=>EQ u t
  | _=>none
def lf (u:U):List (List Tt)->Option (List (El u))
 | []=>some []
 | r::rs=>match je u r,lf u rs with
  | some x,some xs=>some (x::xs)
  | _,_=>none
def Tt.noRf:Tt->Bool
 | .rf _=>false
 | _=>true
def At.noRf:At->Bool
 | .one (.c t)=>t.noRf
 | .one (.agg ts)=>ts.all Tt.noRf
 | _=>true
def eZ (P:Program) (E:Ut) (s0:St) (t:TypeId) (len:Nat) (ps:Array (Nat×Operand)) (d:Tmp) (k:St->Prop):Prop:=
 match (ty P t).k with
 | .sl e=>match E.get e,zcells P e with
  | some u,some _=>match (ty P e).ok&&Nat.beq (nc u) (ty P e).size&&Nat.ble (len*nc u) 16777216&&Nat.ble len 16777216 with
   | true=>
    let s1:=b9 s0 (ps.toList.map fun x=>evA s0 x.2)
    let s:=s1.fresh (.gh d)
    match pc (fun i=>some (i*nc u,nc u)) (List.replicate (len*nc u) .any) (lg s ps),(lg s1 ps).all (fun x=>x.2.noRf) with
    | some ts,true=>match lf u (chunk (nc u) len ts) with
     | some l=>k ((s.root (.gh d) ⟨false,[.ow (List.replicate (nc u) .fr) u l],none⟩).put (some d) (.one (.c (.rf ⟨.gh d,0,[]⟩))))
     | none=>False
    | _,_=>False
   | false=>False
  | _,_=>False
 | _=>False
def Tt.owned:Tt->Bool
 | .ow _ _ _=>true
 | _=>false
def Dn (u:U) (x:El u) (off:Nat) (c:C):Option (El u):=match (flat u x)[off]? with
 | some _=>unflat u ((flat u x).set off c)
 | none=>none
def C0 (sub:List Sh) (u:U) (l:List (El u)) (t:Tt):List Step->Option (List (El u))
 | []=>none
 | [st]=>match sub[st.off]?,t with
  | some .fr,.d c=>match Dn u (l.getD st.idx (dflt u)) st.off c with
   | some x=>some (l.set st.idx x)
   | none=>none
  | some .fr,.nil=>match (flat u (l.getD st.idx (dflt u)))[st.off]? with
   | some (.li u' _)=>match Dn u (l.getD st.idx (dflt u)) st.off (.li u' []) with
    | some x=>some (l.set st.idx x)
    | none=>none
   | _=>none
  | _,_=>none
 | st::st'::r=>match sub[st.off]?,(flat u (l.getD st.idx (dflt u)))[st.off]? with
  | some (.ow s),some (.li u' l')=>match C0 s u' l' t (st'::r) with
   | some l''=>match Dn u (l.getD st.idx (dflt u)) st.off (.li u' l'') with
    | some x=>some (l.set st.idx x)
    | none=>none
   | none=>none
  | _,_=>none
mutual
def EH:Sh->Sh->Bool
 | .fr,.fr=>true
 | .ow a,.ow b=>mw a b
 | _,_=>false
def mw:List Sh->List Sh->Bool
 | [],[]=>true
 | a::r,b::q=>EH a b&&mw r q
 | _,_=>false
end
def FG (sub:List Sh) (u:U) (l:List (El u)) (sh:List Sh) (v:U) (lv:List (El v)):List Step->Option (List (El u))
 | []=>none
 | [st]=>match sub[st.off]?,(flat u (l.getD st.idx (dflt u)))[st.off]? with
  | some (.ow s),some _=>match mw s sh,Dn u (l.getD st.idx (dflt u)) st.off (.li v lv) with
   | true,some x=>some (l.set st.idx x)
   | _,_=>none
  | _,_=>none
 | st::st'::r=>match sub[st.off]?,(flat u (l.getD st.idx (dflt u)))[st.off]? with
  | some (.ow s),some (.li u' l')=>match FG s u' l' sh v lv (st'::r) with
   | some l''=>match Dn u (l.getD st.idx (dflt u)) st.off (.li u' l'') with
    | some x=>some (l.set st.idx x)
    | none=>none
   | none=>none
  | _,_=>none
def frs (sub:List Sh) (off:Nat):Nat->Bool
 | 0=>true
 | n+1=>match sub[off]? with
  | some .fr=>frs sub (off+1) n
  | _=>false
def iE (cs:List C) (off:Nat):List Tt->Option (List C)
 | []=>some cs
 | .d c::r=>match c,cs[off]? with
  | .any,_=>none
  | c,some _=>iE (cs.set off c) (off+1) r
  | _,none=>none
 | .nil::r=>match cs[off]? with
  | some (.li u' _)=>iE (cs.set off (.li u' [])) (off+1) r
  | _=>none
 | _=>none
def ql (sub:List Sh) (u:U) (l:List (El u)) (ts:List Tt):List Step->Option (List (El u))
 | []=>none
 | [st]=>match frs sub st.off ts.length,iE (flat u (l.getD st.idx (dflt u))) st.off ts with
  | true,some cs=>match unflat u cs with
   | some x=>some (l.set st.idx x)
   | none=>none
  | _,_=>none
 | st::st'::r=>match sub[st.off]?,(flat u (l.getD st.idx (dflt u)))[st.off]? with
  | some (.ow s),some (.li u' l')=>match ql s u' l' ts (st'::r) with
   | some l''=>match Dn u (l.getD st.idx (dflt u)) st.off (.li u' l'') with
    | some x=>some (l.set st.idx x)
    | none=>none
   | none=>none
  | _,_=>none
def oS (sub:List Sh) (u:U) (l:List (El u)):List Step->Prop->Prop
 | [],_=>False
 | [st],k=>st.idx<l.length/\k
 | st::st'::r,k=>match sub[st.off]?,(flat u (l.getD st.idx (dflt u)))[st.off]? with
  | some (.ow s),some (.li u' l')=>st.idx<l.length/\oS s u' l' (st'::r) k
  | _,_=>False
def pA:List Step->List Step->Prop->Prop
 | [],[],p=>p
 | a::r,b::q,p=>match Nat.beq a.esz b.esz&&Nat.beq a.off b.off with
  | true=>a.idx=b.idx/\pA r q p
  | false=>False
 | _,_,_=>False
def ET (s:St) (p:Pl) (t:Tt) (k:St->Prop):Prop:=
 match bK s.m p.root with
 | none=>False
 | some r=>match p.path,r.hole,r.cells[p.off]? with
  | [],none,some t0=>match t0.owned with
   | false=>k ⟨s.nx+1,s.t,fK s.m p.root s.nx { r with cells:=r.cells.set p.off t }⟩
   | true=>False
  | st::q,none,some (.ow sub u l)=>match C0 sub u l t (st::q) with
   | some l'=>oS sub u l (st::q) (k ⟨s.nx+1,s.t,fK s.m p.root s.nx { r with cells:=r.cells.set p.off (.ow sub u l') }⟩)
   | none=>False
  | st::q,some (off,st',q'),some (.ow sub u l)=>match Nat.beq off p.off,t with
   | true,.ow sh v lv=>match FG sub u l sh v lv (st::q) with
    | some l'=>oS sub u l (st::q) (pA (st'::q') (st::q) (k ⟨s.nx+1,s.t,fK s.m p.root s.nx ⟨r.blk,r.cells.set p.off (.ow sub u l'),none⟩⟩))
    | none=>False
   | _,_=>False
  | _,_,_=>False
def V5:Tt->Bool
 | .d _=>true
 | .nil=>true
 | _=>false
def Tk (p:Pl) (ts:List Tt):Bool:=!p.path.isEmpty&&Nat.blt 1 ts.length&&ts.all V5
def nR (s:St) (p:Pl) (ts:List Tt) (k:St->Prop):Prop:=
 match bK s.m p.root with
 | none=>False
 | some r=>match p.path,r.hole,r.cells[p.off]? with
  | st::q,none,some (.ow sub u l)=>match ql sub u l ts (st::q) with
   | some l'=>oS sub u l (st::q) (k ⟨s.nx+1,s.t,fK s.m p.root s.nx { r with cells:=r.cells.set p.off (.ow sub u l') }⟩)
   | none=>False
  | _,_,_=>False
def ic (s:St) (p:Pl):List Tt->(St->Prop)->Prop
 | [],k=>k s
 | .rf q::ts,k=>match bK s.m q.root with
  | some ⟨false,[.ow sub u l],none⟩=>match q.path,decide (q.root=p.root),ts.all fun t=>!t.ment q.root with
   | [],false,true=>ET (s.drop q.root) p (.ow sub u l) fun s'=>ic s' (p.add 1) ts k
   | _,_,_=>False
  | _=>False
 | .any::_,_=>False
 | .d .any::_,_=>False
 | t::ts,k=>ET s p t fun s'=>ic s' (p.add 1) ts k
def sX (P:Program) (s:St) (t:TypeId) (x v:At) (k:St->Prop):Prop:=
 match x,ni v with
 | .one (.c (.pl p)),some ts=>match (ty P t).ok&&Nat.beq ts.length (ty P t).size&&mC s.m p (ts.length - 1) with
  | true=>match Tk p ts with
   | true=>nR s p ts k
   | false=>ic s p ts k
  | false=>False
 | _,_=>False
def Pw (s:St) (q:Pl):Option St:=
 match bK s.m q.root with
 | none=>none
 | some r=>match q.path,r.hole with
  | [],none=>some ⟨s.nx+1,eR (thr q) s.nx s.t,bw (thr q) s.nx (fK s.m q.root s.nx { r with cells:=r.cells.set q.off .any })⟩
  | st::p,none=>some ⟨s.nx+1,eR (thr q) s.nx s.t,bw (thr q) s.nx (fK s.m q.root s.nx { r with hole:=some (q.off,st,p) })⟩
  | _,_=>none
def T7 (u:U):At->Option (List (El u))
 | .one (.c .nil)=>some []
 | .one (.c (.d (.li u' l)))=>tb u' u l
 | .one (.c (.d (.s b)))=>match u with
  | .b8=>some b
  | _=>none
 | _=>none
def tK (s:St) (u:U):At->Option (St×List Sh×List (El u))
 | .one (.c .nil)=>some (s,List.replicate (nc u) .fr,[])
 | .one (.c (.rf q))=>match sliceAt s.m q with
  | some ⟨sub,u',l⟩=>match tb u' u l,Nat.beq sub.length (nc u),Pw s q with
   | some l',true,some s'=>some (s',sub,l')
   | _,_,_=>none
  | none=>none
 | _=>none
def nb (P:Program) (E:Ut) (s00:St) (t u0:TypeId) (x y:Operand) (d:Tmp) (k:St->Prop):Prop:=
 let s:=jz s00 (evA s00 y)
 match (ty P t).k with
 | .sl e=>match E.get e,zcells P e with
  | some u,some z=>match (ty P e).ok&&(ty P u0).k.isSS&&Nat.beq z.length (ty P e).size&&Nat.beq (nc u) (ty P e).size with
   | true=>match T7 u (evA s y),tK s u (evA s x) with
    | some ys,some (s1,sub,l)=>match sub.all Sh.isFr with
     | true=>(l.length+ys.length<=4611686018427387904/\(l.length+ys.length)*(ty P e).bytes<=140737488355328) /\
      k (((s1.fresh (.gh d)).root (.gh d) ⟨false,[.ow sub u (l++ys)],none⟩).put (some d) (.one (.c (.rf ⟨.gh d,0,[]⟩))))
     | false=>False
    | _,_=>False
   | false=>False
  | _,_=>False
 | _=>False
def ox:List Sh->List Tt->Bool
 | [],[]=>true
 | .fr::r,_::ts=>ox r ts
 | .ow _::r,.nil::ts=>ox r ts
 | _,_=>false
def eh (P:Program) (E:Ut) (sub:List Sh) (s0:St) (t:TypeId) (len:Nat) (ps:Array (Nat×Operand)) (d:Tmp) (k:St->Prop):Prop:=
 match (ty P t).k with
 | .sl e=>match E.get e,zcells P e with
  | some u,some _=>match (ty P e).ok&&Nat.beq (nc u) (ty P e).size&&Nat.ble (len*nc u) 16777216&&Nat.ble len 16777216&&Nat.beq sub.length (nc u) with
   | true=>
    let s1:=b9 s0 (ps.toList.map fun x=>evA s0 x.2)
    let s:=s1.fresh (.gh d)
    match pc (fun i=>some (i*nc u,nc u)) (List.replicate (len*nc u) .any) (lg s ps),(lg s1 ps).all (fun x=>x.2.noRf) with
    | some ts,true=>match lf u (chunk (nc u) len ts),ox (List.replicate len sub).flatten ts with
     | some l,true=>k ((s.root (.gh d) ⟨false,[.ow sub u l],none⟩).put (some d) (.one (.c (.rf ⟨.gh d,0,[]⟩))))
     | _,_=>False
    | _,_=>False
   | false=>False
  | _,_=>False
 | _=>False
def kc (P:Program) (E:Ut) (s:St) (t u0:TypeId) (x y:Operand) (d:Tmp) (k:St->Prop):Prop:=
 match (ty P t).k with
 | .sl e=>match E.get e,zcells P e with
  | some u,some z=>match (ty P e).ok&&(ty P u0).k.isSS&&Nat.beq z.length (ty P e).size&&Nat.beq (nc u) (ty P e).size with
   | true=>match tK s u (evA s y) with
    | some (s1,sub1,ys)=>match tK s1 u (evA s1 x) with
     | some (s2,sub,l)=>match mw sub1 sub with
      | true=>(l.length+ys.length<=4611686018427387904/\(l.length+ys.length)*(ty P e).bytes<=140737488355328) /\
       k (((s2.fresh (.gh d)).root (.gh d) ⟨false,[.ow sub u (l++ys)],none⟩).put (some d) (.one (.c (.rf ⟨.gh d,0,[]⟩))))
      | false=>False
     | none=>False
    | none=>False
   | false=>False
  | _,_=>False
 | _=>False
def Us (s:St):At->Bool
 | .one (.c (.rf q))=>match sliceAt s.m q with
  | some ⟨sub,_,_⟩=>!(sub.all Sh.isFr)
  | none=>false
 | _=>false
def P7 (sub:List Sh):List Step->Bool
 | []=>false
 | [st]=>match sub[st.off]? with
  | some .fr=>true
  | _=>false
 | st::st'::r=>match sub[st.off]? with
  | some (.ow s)=>P7 s (st'::r)
  | _=>false
def Un (m:List (Nm×Nat×Rt)) (p:Pl):Bool:=
 match bK m p.root with
 | none=>false
 | some r=>match p.path,r.hole,r.cells[p.off]? with
  | st::q,none,some (.ow sub _ _)=>P7 sub (st::q)
  | _,_,_=>false
def Vm (m:List (Nm×Nat×Rt)) (n:Nm):Bool:=
 match bK m n with
 | some r=>r.blk
 | none=>false
def tA (s:St) (p:Pl):List Tt->St
 | []=>s
 | .rf q::ts=>match Un s.m p||Vm s.m q.root with
  | true=>tA (qk s q) (p.add 1) ts
  | false=>tA s (p.add 1) ts
 | _::ts=>tA s (p.add 1) ts
def Eg (s:St) (x v:At):St:=
 match x,ni v with
 | .one (.c (.pl p)),some ts=>tA s p ts
 | _,_=>s
abbrev PKt:=Value->St->Prop
abbrev CKt:=PKt->St->List Operand->(St->At->Prop)->Prop
abbrev CTt:=List (Nat×CKt)
def CTt.get:CTt->Nat->Option CKt
 | [],_=>none
 | (f,c)::r,i=>match Nat.beq f i with
  | true=>some c
  | false=>CTt.get r i
def Ox:At->Bool
 | .one (.c (.d (.s _)))=>true
 | _=>false
structure En where
 P:Program
 E:Ut
 cs:CTt
 sh:List (TypeId×List Sh)
 pk:PKt
def Td:List (TypeId×List Sh)->TypeId->Option (List Sh)
 | [],_=>none
 | (t,u)::r,i=>match Nat.beq t i with
  | true=>some u
  | false=>Td r i
def VU (e:En) (t:TypeId):Option (List Sh):=match (ty e.P t).k with
 | .sl el=>Td e.sh el
 | _=>none
def VN:At->Option Nat
 | .one (.c (.d (.v (.func (.func f) a b))))=>match a.size,b.size with
  | 0,0=>some f
  | _,_=>none
 | _=>none
def EV (s:St) (o:Oper):St:=
 match o.op with
 | .convert _ _ x=>jz s (evA s x)
 | .slice _ x _ _ _=>jz s (evA s x)
 | _=>s
def qT (e:En) (o:Oper) (s:St) (k:At->Prop):Prop:=
 match o.op with
 | .move x=>k (evA s x)
 | .assign x=>k (evA s x)
 | .pick c x y=>zk (evA s c) (evA s x) (evA s y) k
 | .binOp op t x y _=>Mp e.P op t (evA s x) (evA s y) k
 | .unOp op _ x=>unT op (evA s x) k
 | .load t x=>ou e.P s.m t (evA s x) k
 | .field t x i=>sK e.P t (evA s x) i k
 | .fieldAddr t x i=>fW e.P s.m t (evA s x) i k
 | .indexAddr t x i=>gc e.P s.m t (evA s x) (evA s i) k
 | .index t x i=>match (ty e.P t).k with
  | .str=>rZ (evA s x) (evA s i) k
  | _=>False
 | .extract x i=>j1 (evA s x) i k
 | .convert su du x=>yR e.P su du (evA s x) k
 | .slice t x lo hi none=>r9 e.P t (evA s x) (lo.map (evA s)) (hi.map (evA s)) k
 | .nilCheck x=>io (evA s x) k
 | .build t ps=>r7 e.P t (lg s ps) k
 | .call c=>match c.callee,c.args.toList,c.argTypes.toList with
  | .builtin .len,[x],[t]=>match uR (ty e.P t).k (Ox (evA s x)) with
   | true=>Ma o.guard s.m (evA s x) fun n=>k (sct (.i .i64 (n:Int)))
   | false=>False
  | _,_,_=>False
 | _=>False
def lT (e:En) (o:Oper) (s:St) (k:St->Prop):Prop:=
 match o.op with
 | .store t x v=>let s1:=Eg s (evA s x) (evA s v); sX e.P s1 t (evA s1 x) (evA s1 v) fun s'=>k (s'.put o.dst .any)
 | .alloc t=>match o.dst with
  | some d=>sv e.P s t d k
  | none=>False
 | .box _ x=>match o.dst with
  | some d=>LI s x d k
  | none=>False
 | .buildSlice t n ps=>match o.dst with
  | some d=>match VU e t with
   | none=>eZ e.P e.E s t n ps d k
   | some sub=>eh e.P e.E sub s t n ps d k
  | none=>False
 | .call c=>match c.callee,c.args.toList,c.argTypes.toList with
  | .builtin .append,[x,y],[t,u]=>match o.dst with
   | some d=>match Us s (evA s x) with
    | false=>nb e.P e.E s t u x y d k
    | true=>kc e.P e.E s t u x y d k
   | none=>False
  | .value (.func f),args,_=>match e.cs.get f with
   | some C=>C e.pk s args fun s' av=>k (s'.put o.dst av)
   | none=>False
  | .value (.tmp t),args,_=>match VN (gtA s.t t),Nat.blt t 100000 with
   | some f,true=>match e.cs.get f with
    | some C=>C e.pk s args fun s' av=>k (s'.put o.dst av)
    | none=>False
   | _,_=>False
  | _,_,_=>False
 | _=>False
def opT (e:En) (o:Oper) (s:St) (k:St->Prop):Prop:=
 match isQ o with
 | true=>let s1:=EV s o; qT e o s1 fun v=>k (s1.put o.dst v)
 | false=>lT e o s k
end Go.Am
end

section
namespace Go.Am
def lQ (e:En) (all:List Oper):List Oper->St->(St->Prop)->Prop
 | [],s,k=>k s
 | o::r,s,k=>match o.guard with
  | none=>opT e o s fun s'=>lQ e all r s' k
  | some (j,want)=>match (all[j]?).bind (·.dst) with
   | some d=>match gtA s.t d with
    | .one (.c (.d (.bo c)))=>match want with
     | true=>if c=true then opT e o (s.put (some d) (sct (.bo true))) fun s'=>lQ e all r s' k
      else lQ e all r ((s.put (some d) (sct (.bo false))).put o.dst (.tup [])) k
     | false=>if c=true then lQ e all r ((s.put (some d) (sct (.bo true))).put o.dst (.tup [])) k
      else opT e o (s.put (some d) (sct (.bo false))) fun s'=>lQ e all r s' k
    | .tup []=>lQ e all r (s.put o.dst (.tup [])) k
    | _=>False
   | none=>False
def St.clr (s:St):St:=⟨s.nx,[],s.m⟩
abbrev En.cl (e:En):En:=⟨e.P,e.E,e.cs,e.sh,fun v s=>e.pk v s.clr⟩
def NO:At->Bool
 | .one (.c (.el _ _))=>true
 | .one (.c (.ga _ _ _))=>true
 | _=>false
def lE (s:St) (o:Oper):Bool:=
 match o.op with
 | .load _ x=>NO (evA s x)
 | _=>true
def Vf (ops:Array Oper) (listed:Array Bool) (i:Nat):List Nat:=
 (List.range ops.size).foldl (fun A j=>if unlisted listed j&&!(Nat.beq j i)&&(match ops[j]? with
  | some o=>o.after.any fun e=>Region.binds .any e&&unlisted listed e.on&&(Nat.beq e.on i||A.contains e.on)
  | none=>false) then j::A else A) []
def xB (ops:Array Oper) (listed:Array Bool) (s:St):List Nat->Option (Nat×List Nat×Bool)
 | []=>none
 | i::r=>match ops[i]? with
  | none=>xB ops listed s r
  | some o=>match isQ o with
   | false=>xB ops listed s r
   | true=>match lE s o with
    | true=>match yd ops listed i [] true with
     | true=>some (i,[],true)
     | false=>xB ops listed s r
    | false=>match yd ops listed i (Vf ops listed i) false with
     | true=>some (i,Vf ops listed i,false)
     | false=>xB ops listed s r
def gT (ops:List Oper) (o:Oper) (s:St) (f:St->Prop) (no:St->Prop):Prop:=
 match o.guard with
 | none=>f s
 | some (j,want)=>match (ops[j]?).bind (·.dst) with
  | some d=>match gtA s.t d with
   | .one (.c (.d (.bo c)))=>match want with
    | true=>if c=true then f (s.put (some d) (sct (.bo true))) else no ((s.put (some d) (sct (.bo false))).put o.dst (.tup []))
    | false=>if c=true then no ((s.put (some d) (sct (.bo true))).put o.dst (.tup [])) else f (s.put (some d) (sct (.bo false)))
   | .tup []=>no (s.put o.dst (.tup []))
   | _=>False
  | none=>False
def Ql (f:Nat->Prop):List Nat->Prop
 | []=>True
 | [i]=>f i
 | i::r=>f i/\Ql f r
def gQ (e:En) (ops:Array Oper):Nat->Array Bool->St->(St->Prop)->Prop
 | 0,listed,s,k=>match Region.ready .any ops listed with
  | []=>k s
  | _=>False
 | n+1,listed,s,k=>match Region.ready .any ops listed with
  | []=>k s
  | i0::rd=>match xB ops listed s (i0::rd) with
   | some (i,_,fz)=>match ops[i]? with
    | some o=>match o.guard with
     | none=>let s1:=EV s o; qT e o s1 fun v=>gQ e ops n (listed.setIfInBounds i true) (s1.put o.dst v) k
     | some _=>gT ops.toList o s (fun s=>match !fz||lE s o with
      | true=>qT e o s fun v=>gQ e ops n (listed.setIfInBounds i true) (s.put o.dst v) k
      | false=>False) (fun s=>gQ e ops n (listed.setIfInBounds i true) s k)
    | none=>False
   | none=>Ql (fun i=>match ops[i]? with
    | some o=>gT ops.toList o s (fun s=>opT e.cl o s fun s'=>gQ e ops n (listed.setIfInBounds i true) s' k) (fun s=>gQ e ops n (listed.setIfInBounds i true) s k)
    | none=>False) (i0::rd)
inductive Sp where
 | sl (k:Nat) (u:U)
 | ow (k:Nat) (sh:List Sh) (u:U)
 | rt (n:Nm) (sh:List Sh) (u:U)
def Sp.u:Sp->U
 | .sl _ u=>u
 | .ow _ _ u=>.sl u
 | .rt _ _ u=>u
abbrev eC:List Sp->List U
 | []=>[]
 | p::r=>p.u::eC r
structure Sg where
 ks:List Nat
 kr:List Nm
 ps:List (Nat×Nm×Nat)
 sp:List Sp
def yx:(u:U)->El u->At
 | .st n,x=>.one (.agg ((flat (.st n) x).map Tt.d))
 | u,x=>sct (gL u x)
def M8:(u:U)->El u->A1
 | .st n,x=>.agg ((flat (.st n) x).map Tt.d)
 | u,x=>.c (.d (gL u x))
def gY (k:Nat):Nm:=.gh (900000+k)
def au:List Sh->List C->List Tt
 | .ow s::r,.li u l::cs=>.ow s u l::au r cs
 | _::r,c::cs=>.d c::au r cs
 | _,_=>[]
def cz:List Sh->List C->List Tt
 | .ow []::r,_::cs=>.nil::cz r cs
 | .ow (a::b)::r,.li u l::cs=>.ow (a::b) u l::cz r cs
 | _::r,c::cs=>.d c::cz r cs
 | _,_=>[]
def unmark:List Sh->List Sh
 | []=>[]
 | .ow []::r=>.fr::unmark r
 | s::r=>s::unmark r
def bX:List (Nat×Nat×At)->Nat->Option (Nat×At)
 | [],_=>none
 | (k,j,v)::t,i=>match Nat.beq k i with
  | true=>some (j,v)
  | false=>bX t i
def cQ:List (Nm×Nat×Rt)->Nm->Option (Nat×Rt)
 | [],_=>none
 | (k,j,v)::t,i=>if k=i then some (j,v) else cQ t i
def s4 (nx:Nat):(sp:List Sp)->Fl (eC sp)->List (Nat×Nat×At)
 | [],_=>[]
 | .sl k u::r,x=>(k,nx,yx u (Fl.hd u (eC r) x))::s4 nx r (Fl.tl u (eC r) x)
 | .ow k _ u::r,x=>(k,nx,.one (.c (.rf ⟨gY k,0,[]⟩)))::s4 nx r (Fl.tl (.sl u) (eC r) x)
 | .rt _ _ u::r,x=>s4 nx r (Fl.tl u (eC r) x)
def ki (nx:Nat):(sp:List Sp)->Fl (eC sp)->List (Nm×Nat×Rt)
 | [],_=>[]
 | .sl _ u::r,x=>ki nx r (Fl.tl u (eC r) x)
 | .ow k sh u::r,x=>(gY k,nx,⟨false,[.ow sh u (Fl.hd (.sl u) (eC r) x)],none⟩)::ki nx r (Fl.tl (.sl u) (eC r) x)
 | .rt n sh u::r,x=>(n,nx,⟨true,cz sh (flat u (Fl.hd u (eC r) x)),none⟩)::ki nx r (Fl.tl u (eC r) x)
def zO (t:List (Nat×Nat×At)):List Nat->List (Nat×Nat×At)
 | []=>[]
 | k::r=>match bX t k with
  | some (j,v)=>(k,j,v)::zO t r
  | none=>zO t r
def m0 (m:List (Nm×Nat×Rt)):List Nm->List (Nm×Nat×Rt)
 | []=>[]
 | k::r=>match cQ m k with
  | some (j,v)=>(k,j,v)::m0 m r
  | none=>m0 m r
def Sg.st (σ:Sg) (s:St) (x:Fl (eC σ.sp)):St:=⟨s.nx+1,zO s.t σ.ks++(σ.ps.map (fun p=>(p.1,s.nx,.one (.c (.pl ⟨p.2.1,p.2.2,[]⟩))))++s4 s.nx σ.sp x),m0 s.m σ.kr++ki s.nx σ.sp x⟩
def zv (s:St) (k:Nat) (sh:List Sh) (u:U):St:=
 match gtA s.t k with
 | .one (.c .nil)=>
  let s1:=s.fresh (gY k)
  ⟨s1.nx+1,(k,s1.nx,.one (.c (.rf ⟨gY k,0,[]⟩)))::s1.t,(gY k,s1.nx,⟨false,[.ow sh u []],none⟩)::s1.m⟩
 | .one (.c (.rf ⟨n,0,[]⟩))=>match decide (n=gY k),bK s.m n with
  | false,some ⟨false,[.ow sh' u' l],none⟩=>
   let s1:=(s.drop n).fresh (gY k)
   ⟨s1.nx+1,(k,s1.nx,.one (.c (.rf ⟨gY k,0,[]⟩)))::s1.t,(gY k,s1.nx,⟨false,[.ow sh' u' l],none⟩)::s1.m⟩
  | _,_=>s
 | _=>s
def bd (s:St) (n:Nm) (us:List U):List Sh->Nat->St
 | [],_=>s
 | .ow sh::r,off=>match bK s.m n with
  | some ⟨true,cells,none⟩=>match cells[off]?,us[off]? with
   | some .nil,some (.sl u)=>bd ⟨s.nx+1,s.t,fK s.m n s.nx ⟨true,cells.set off (.ow sh u []),none⟩⟩ n us r (off+1)
   | _,_=>bd s n us r (off+1)
  | _=>s
 | .fr::r,off=>match bK s.m n with
  | some ⟨true,cells,none⟩=>match cells[off]? with
   | some (.ow _ _ _)=>bd (qk s ⟨n,off,[]⟩) n us r (off+1)
   | _=>bd s n us r (off+1)
  | _=>s
def eL:U->List U
 | .st n=>(sd n).fs
 | u=>[u]
def prep:List Sp->St->St
 | [],s=>s
 | .sl k _::r,s=>prep r (jz s (gtA s.t k))
 | .ow k sh u::r,s=>prep r (zv s k sh u)
 | .rt n sh u::r,s=>prep r (bd s n (eL u) (unmark sh) 0)
mutual
def VC:Sh->Sh->Bool
 | .fr,.fr=>true
 | .ow a,.ow b=>me a b
 | _,_=>false
def me:List Sh->List Sh->Bool
 | [],[]=>true
 | a::r,b::q=>VC a b&&me r q
 | _,_=>false
end
def Qj (u:U):A1->Option (El u)
 | .c t=>match leaf u with
  | true=>je u [t]
  | false=>none
 | .agg ts=>match leaf u with
  | true=>none
  | false=>je u ts
def mq (u:U):At->Option (El u)
 | .one x=>Qj u x
 | _=>none
def dL:List Sh->List Tt->Option (List Tt)
 | [],[]=>some []
 | .ow s::r,.ow s' u l::cs=>match me s s',dL r cs with
  | true,some x=>some (.d (.li u l)::x)
  | _,_=>none
 | .fr::r,.d c::cs=>match dL r cs with
  | some x=>some (.d c::x)
  | none=>none
 | .fr::r,.nil::cs=>match dL r cs with
  | some x=>some (.nil::x)
  | none=>none
 | _,_=>none
def fq:List Sh->List Tt->Option (List Tt)
 | [],[]=>some []
 | .ow []::r,.nil::cs=>match fq r cs with
  | some x=>some (.nil::x)
  | none=>none
 | .ow (a::b)::r,.ow s' u l::cs=>match me (a::b) s',fq r cs with
  | true,some x=>some (.d (.li u l)::x)
  | _,_=>none
 | .fr::r,.d c::cs=>match fq r cs with
  | some x=>some (.d c::x)
  | none=>none
 | .fr::r,.nil::cs=>match fq r cs with
  | some x=>some (.nil::x)
  | none=>none
 | _,_=>none
def Rn (s:St):(p:Sp)->Option (El p.u)
 | .sl k u=>mq u (gtA s.t k)
 | .ow k sh u=>match gtA s.t k,bK s.m (gY k) with
  | .one (.c (.rf ⟨n,0,[]⟩)),some ⟨false,[.ow sh' u' l],none⟩=>match decide (n=gY k),me sh sh' with
   | true,true=>tb u' u l
   | _,_=>none
  | _,_=>none
 | .rt n sh u=>match bK s.m n with
  | some ⟨true,cells,none⟩=>match fq sh cells with
   | some ts=>je u ts
   | none=>none
  | _=>none
def unS (s:St):(sp:List Sp)->Option (Fl (eC sp))
 | []=>some ()
 | p::r=>match Rn s p,unS s r with
  | some x,some y=>some (Fl.cons p.u (eC r) x y)
  | _,_=>none
def Sp.rn:Sp->List Nm
 | .sl _ _=>[]
 | .ow k _ _=>[gY k]
 | .rt n _ _=>[n]
def Sg.rn (σ:Sg):List Nm:=σ.kr++σ.sp.flatMap Sp.rn
def Tt.inR (rs:List Nm):Tt->Bool
 | .pl p=>rs.contains p.root
 | .rf p=>rs.contains p.root
 | _=>true
def A1.inR (rs:List Nm):A1->Bool
 | .c t=>t.inR rs
 | .agg ts=>ts.all (·.inR rs)
def At.inR (rs:List Nm):At->Bool
 | .one x=>x.inR rs
 | .tup xs=>xs.all (·.inR rs)
 | .any=>true
def B0:List Nm->Bool
 | []=>true
 | n::r=>!r.contains n&&B0 r
def Q6 (s0 s:St) (rs:List Nm):List Nat->Bool
 | []=>true
 | k::r=>(match bX s0.t k,bX s.t k with
  | some (j,_),some (j',v)=>Nat.beq j j'&&Nat.blt j s0.nx&&v.inR rs
  | _,_=>false)&&Q6 s0 s rs r
def Mb (s0 s:St) (rs:List Nm):List Nm->Bool
 | []=>true
 | k::r=>(match cQ s0.m k,cQ s.m k with
  | some (j,_),some (j',v)=>Nat.beq j j'&&Nat.blt j s0.nx&&v.cells.all (·.inR rs)
  | _,_=>false)&&Mb s0 s rs r
def Rd (s:St) (rs:List Nm):List (Nat×Nm×Nat)->Bool
 | []=>true
 | (k,n,o)::r=>(match gtA s.t k with
  | .one (.c (.pl ⟨n',o',[]⟩))=>decide (n'=n)&&Nat.beq o' o&&rs.contains n
  | _=>false)&&Rd s rs r
def Sg.fit (σ:Sg) (s0 s:St):Bool:=B0 σ.rn&&Rd s σ.rn σ.ps&&Q6 s0 s σ.rn σ.ks&&Mb s0 s σ.rn σ.kr
def jn (σ:Sg) (s0:St) (J:Fl (eC σ.sp)->Prop) (s:St):Prop:=
 let s1:=prep σ.sp s
 match σ.fit s0 s1 with
 | true=>match unS s1 σ.sp with
  | some x=>J x
  | none=>False
 | false=>False
def aa {α:Type} (A:(α->Prop)->Prop) (B:α->Prop):Prop:=∀ J:α->Prop,(∀ x,B x->J x)->A J
def lR {α:Type} (body:(α->Prop)->α->Prop):Nat->α->Prop
 | 0,_=>False
 | n+1,x=>body (lR body n) x
def ba {α:Type} (body:(α->Prop)->α->Prop) (x:α):Prop:=∃ n,lR body n x
inductive An where
 | l
 | s (a b:An)
 | j (σ:Sg) (a b:An)
 | c (a b:An)
 | b (a:An)
 | lp (σ:Sg) (a:An)
 | a (t:Nat) (n:Nm) (x y:An)
 | un (n:Nat) (a:An)
def An.pick:An->St->An
 | .a t n x y,st0=>match gtA st0.t t with
  | .one (.c (.pl p))=>match decide (p.root=n) with
   | true=>x
   | false=>y
  | _=>y
 | an,_=>an
structure Kt where
 n:St->Prop
 x:Nat->St->Prop
 r:St->Prop
def tf (body:(St->Prop)->St->Prop):Nat->St->Prop
 | 0,_=>False
 | n+1,s=>body (tf body n) s
def wpT (e:En):An->Code->St->Kt->Prop
 | _,.skip,s,K=>K.n s
 | _,.region _ ops false,s,K=>lQ e ops.toList ops.toList s K.n
 | _,.region _ ops true,s,K=>gQ e ops ops.size (Array.replicate ops.size false) s K.n
 | .s a b,.seq x y,s,K=>wpT e a x s ⟨fun s'=>wpT e (b.pick s') y s' K,K.x,K.r⟩
 | .j σ a b,.seq x y,s,K=>aa (fun J=>wpT e a x s ⟨jn σ s J,K.x,K.r⟩) (fun v=>wpT e b y (σ.st s v) K)
 | .c a b,.cond (.tmp t) x y,s,K=>match gtA s.t t with
  | .one (.c (.d (.bo c)))=>if c=true then wpT e a x s K else wpT e b y s K
  | _=>False
 | .b a,.block id x,s,K=>wpT e a x s ⟨K.n,fun i s'=>match Nat.beq i id with
  | true=>K.n s'
  | false=>K.x i s',K.r⟩
 | .lp σ a,.loop x,s,K=>
  let s1:=prep σ.sp s
  match σ.fit s1 s1 with
  | true=>match unS s1 σ.sp with
   | some x0=>ba (fun R v=>wpT e a x (σ.st s1 v) ⟨jn σ s1 R,K.x,K.r⟩) x0
   | none=>False
  | false=>False
 | .un n a,.loop x,s,K=>tf (fun R s'=>wpT e a x s' ⟨R,K.x,K.r⟩) n s
 | _,.exit id,s,K=>K.x id s
 | _,.ret,s,K=>K.r s
 | _,_,_,_=>False
def dF:(us:List U)->Fl us->At
 | [],_=>.tup []
 | [u],x=>yx u x
 | u::v::r,x=>.tup (resL (u::v::r) x)
where resL:(us:List U)->Fl us->List A1
 | [],_=>[]
 | u::r,x=>M8 u (Fl.hd u r x)::resL r (Fl.tl u r x)
def bS:(us:List U)->List At->Option (Fl us)
 | [],[]=>some ()
 | u::r,v::vs=>match mq u v,bS r vs with
  | some x,some y=>some (Fl.cons u r x y)
  | _,_=>none
 | _,_=>none
def vW (s:St) (n:Nm):Nat->St
 | 0=>s
 | i+1=>qk (vW s n i) ⟨n,i,[]⟩
def B2 (s:St):ResultVar->St
 | .tmp t=>jz s (gtA s.t t)
 | .cell a _=>match gtA s.t a with
  | .one (.c (.pl p))=>match bK s.m p.root with
   | some r=>vW s p.root r.cells.length
   | none=>s
  | _=>s
def ke:St->List ResultVar->St
 | s,[]=>s
 | s,r::rs=>ke (B2 s r) rs
def nJ (P:Program) (s:St) (k:At->Prop):ResultVar->Prop
 | .tmp t=>k (gtA s.t t)
 | .cell a t=>match gtA s.t a with
  | .one (.c (.pl p))=>match bK s.m p.root with
   | some r=>match r.hole.isNone&&r.cells.all (fun t=>!t.owned) with
    | true=>ou P s.m t (gtA s.t a) k
    | false=>False
   | none=>False
  | _=>False
def dp (P:Program) (s:St):List ResultVar->(List At->Prop)->Prop
 | [],k=>k []
 | r::rs,k=>nJ P s (fun v=>dp P s rs fun vs=>k (v::vs)) r
def qA (P:Program) (rs:List ResultVar) (us:List U) (KK:Fl us->Prop) (s:St):Prop:=
 dp P (ke s rs) rs fun vs=>match bS us vs with
  | some x=>KK x
  | none=>False
def fe (ps rs:List U) (pre:Fl ps->Prop) (f:Fl ps->Fl rs):CKt:=fun _ s ops k=>
 let s1:=b9 s (ops.map (evA s))
 match bS ps (ops.map (evA s1)) with
 | some x=>pre x/\k s1 (dF rs (f x))
 | none=>False
def aE (ps rs:List U) (f:Fl ps->Fl rs):CKt:=fun _ s ops k=>
 let s1:=b9 s (ops.map (evA s))
 match bS ps (ops.map (evA s1)) with
 | some x=>k s1 (dF rs (f x))
 | none=>False
def dq (r:Nm) (rf:Bool) (p:Pl):Bool:=decide (p.root=r)&&(rf||!p.path.isEmpty)
def Bf (sh:List Sh) (u:U) (ps rs:List U) (pre:El u->Fl ps->Prop) (f:El u->Fl ps->Fl rs×El u):CKt:=fun _ s ops k=>
 match ops with
 | []=>False
 | o::os=>
  let s1:=b9 s (os.map (evA s))
  match evA s1 o with
  | .one (.c (.pl ⟨r,0,[]⟩))=>
   let s2:=bd s1 r (eL u) sh 0
   match evA s2 o with
   | .one (.c (.pl ⟨r',0,[]⟩))=>match decide (r'=r),r.tyd,bK s2.m r with
    | true,none,some ⟨true,cells,none⟩=>match dL sh cells with
     | some ts=>match je u ts,bS ps (os.map (evA s2)) with
      | some x,some y=>pre x y/\k ⟨s2.nx+1,eR (dq r) s2.nx s2.t,(r,s2.nx,⟨true,au sh (flat u (f x y).2),none⟩)::bw (bG r) s2.nx (dw s2.m r)⟩ (dF rs (f x y).1)
      | _,_=>False
     | none=>False
    | _,_,_=>False
   | _=>False
  | _=>False
abbrev noP:PKt:=fun _ _=>False
def swP (w:List UInt8) (K:Nat->Prop) (df:Nat):List (List UInt8×Nat)->Prop
 | []=>K df
 | (w0,f)::r=>if decide (w=w0)=true then K f else swP w K df r
def swT (tab:List (List UInt8×Nat)) (df:Nat):CKt:=fun _ s ops k=>
 let s1:=b9 s (ops.map (evA s))
 match bS [.s] (ops.map (evA s1)) with
 | some w=>swP w (fun f=>k s1 (sct (.v (.func (.func f) #[] #[])))) df tab
 | none=>False
def exP {α β:Type} (r:Except Value α×β) (K:α->β->Prop) (KP:Value->β->Prop):Prop:=match r.1 with
 | .ok a=>K a r.2
 | .error v=>KP v r.2
def exQ {α:Type} (r:Except Value α) (K:α->Prop) (KP:Value->Prop):Prop:=match r with
 | .ok a=>K a
 | .error v=>KP v
def kQ (ps rs:List U) (pre:Fl ps->Prop) (f:Fl ps->Except Value (Fl rs)):CKt:=fun pk s ops k=>
 let s1:=b9 s (ops.map (evA s))
 match bS ps (ops.map (evA s1)) with
 | some x=>pre x/\exQ (f x) (fun y=>k s1 (dF rs y)) (fun v=>pk v s1)
 | none=>False
def fx (sh:List Sh) (u:U) (ps rs:List U) (pre:El u->Fl ps->Prop) (f:El u->Fl ps->Except Value (Fl rs)×El u):CKt:=fun pk s ops k=>
 match ops with
 | []=>False
 | o::os=>
  let s1:=b9 s (os.map (evA s))
  match evA s1 o with
  | .one (.c (.pl ⟨r,0,[]⟩))=>
   let s2:=bd s1 r (eL u) sh 0
   match evA s2 o with
   | .one (.c (.pl ⟨r',0,[]⟩))=>match decide (r'=r),r.tyd,bK s2.m r with
    | true,none,some ⟨true,cells,none⟩=>match dL sh cells with
     | some ts=>match je u ts,bS ps (os.map (evA s2)) with
      | some x,some y=>pre x y/\exP (f x y) (fun z x'=>k ⟨s2.nx+1,eR (dq r) s2.nx s2.t,(r,s2.nx,⟨true,au sh (flat u x'),none⟩)::bw (dq r) s2.nx (dw s2.m r)⟩ (dF rs z))
        (fun v x'=>pk v ⟨s2.nx+1,eR (dq r) s2.nx s2.t,(r,s2.nx,⟨true,au sh (flat u x'),none⟩)::bw (dq r) s2.nx (dw s2.m r)⟩)
      | _,_=>False
     | none=>False
    | _,_,_=>False
   | _=>False
  | _=>False
def UO (v:Int->Value):CKt:=fun pk s ops _=>
 match bS [.i .i64] (ops.map (evA s)) with
 | some n=>pk (v n) s
 | none=>False
def shT:List (Nat×Nat×At)->List (Nat×Nat×At)
 | []=>[]
 | (k,j,v)::r=>(k+100000,j,v)::shT r
def rR:List (Nat×Nat×At)->List (Nat×Nat×At)
 | []=>[]
 | (k,j,v)::r=>match Nat.ble 100000 k with
  | true=>(k - 100000,j,v)::rR r
  | false=>rR r
def yu (nx:Nat):Nat->List At->List (Nat×Nat×At)
 | _,[]=>[]
 | i,v::r=>(i,nx,v)::yu nx (i+1) r
def MP (s:St):List ResultVar->Option (List A1)
 | []=>some []
 | .tmp t::r=>match gtA s.t t,MP s r,Nat.blt t 100000 with
  | .one x,some xs,true=>some (x::xs)
  | _,_,_=>none
 | _=>none
def VX:List A1->At
 | [x]=>.one x
 | xs=>.tup xs
def ur (res:List ResultVar) (k:St->At->Prop) (s:St):Prop:=
 match MP s res with
 | some xs=>k ⟨s.nx,rR s.t,s.m⟩ (VX xs)
 | none=>False
def aN (e:En) (fn:Func) (an:An):CKt:=fun pk s ops k=>
 match Nat.ble ops.length fn.ntmps with
 | true=>wpT ⟨e.P,e.E,e.cs,e.sh,fun v s=>pk v ⟨s.nx,rR s.t,s.m⟩⟩ an (fn.body.getD .skip) ⟨s.nx+1,yu s.nx 0 (ops.map (evA s))++shT s.t,s.m⟩ ⟨ur fn.results.toList k,fun _ _=>False,ur fn.results.toList k⟩
 | false=>False
def Q4 (t:Nat) (C D:CKt):CKt:=fun pk s ops k=>match ops with
 | .tmp i::_=>match Nat.beq i t with
  | true=>C pk s ops k
  | false=>D pk s ops k
 | _=>D pk s ops k
def rU (s:St) (k:Nat) (sh:List Sh) (u:U):St:=
 match gtA s.t k with
 | .one (.c .nil)=>zv s k sh u
 | _=>s
def RE (u:U) (ps:List U) (pre:List (El u)->Fl ps->Prop) (f:List (El u)->Fl ps->List (El u)):CKt:=fun _ s ops k=>
 match ops with
 | .tmp t::os=>
  let s0:=rU s t (List.replicate (nc u) .fr) u
  let s1:=b9 s0 (os.map (evA s0))
  match evA s1 (.tmp t) with
  | .one (.c (.rf ⟨r,0,[]⟩))=>match bK s1.m r with
   | some ⟨false,[.ow sh u' l],none⟩=>match me sh (List.replicate (nc u) .fr),tb u' u l,bS ps (os.map (evA s1)) with
    | true,some l',some x=>pre l' x/\k ⟨s1.nx+1,eR (bG r) s1.nx s1.t,(r,s1.nx,⟨false,[.ow sh u (f l' x)],none⟩)::bw (bG r) s1.nx (dw s1.m r)⟩ (.one (.c (.rf ⟨r,0,[]⟩)))
    | _,_,_=>False
   | _=>False
  | _=>False
 | _=>False
def yH:Nat->(us:List U)->Fl us->List (Nat×Nat×At)
 | _,[],_=>[]
 | i,u::r,x=>(i,0,yx u (Fl.hd u r x))::yH (i+1) r (Fl.tl u r x)
def IV (us:List U) (x:Fl us):St:=⟨1,yH 0 us x,[]⟩
def bc (e:En) (fn:Func) (an:An) (ps rs:List U) (x:Fl ps) (KK:Fl rs->Prop):Prop:=
 wpT ⟨e.P,e.E,e.cs,e.sh,fun _ _=>False⟩ an (fn.body.getD .skip) (IV ps x) ⟨qA e.P fn.results.toList rs KK,fun _ _=>False,qA e.P fn.results.toList rs KK⟩
def pi (e:En) (fn:Func) (an:An) (ps rs:List U) (x:Fl ps) (KK:Fl rs->Prop) (KP:Value->Prop):Prop:=
 wpT ⟨e.P,e.E,e.cs,e.sh,fun v _=>KP v⟩ an (fn.body.getD .skip) (IV ps x) ⟨qA e.P fn.results.toList rs KK,fun _ _=>False,qA e.P fn.results.toList rs KK⟩
def om (P:Program) (res:List ResultVar) (sh:List Sh) (u:U) (rs:List U) (KK:Fl rs×El u->Prop) (s:St):Prop:=
 let s1:=bd (ke s res) (.out 0) (eL u) sh 0
 dp P s1 res fun vs=>match bS rs vs,bK s1.m (.out 0) with
  | some x,some ⟨true,cells,none⟩=>match dL sh cells with
   | some ts=>match je u ts with
    | some y=>KK (x,y)
    | none=>False
   | none=>False
  | _,_=>False
def oz (e:En) (fn:Func) (an:An) (sh:List Sh) (u:U) (ps rs:List U) (x:El u) (y:Fl ps) (KK:Fl rs×El u->Prop):Prop:=
 wpT ⟨e.P,e.E,e.cs,e.sh,fun _ _=>False⟩ an (fn.body.getD .skip) ⟨1,(0,0,.one (.c (.pl ⟨.out 0,0,[]⟩)))::yH 1 ps y,[(.out 0,0,⟨true,au sh (flat u x),none⟩)]⟩ ⟨om e.P fn.results.toList sh u rs KK,fun _ _=>False,om e.P fn.results.toList sh u rs KK⟩
def Qt (sh:List Sh) (u:U) (KP:Value->El u->Prop) (v:Value) (s:St):Prop:=
 let s1:=bd s (.out 0) (eL u) sh 0
 match bK s1.m (.out 0) with
 | some ⟨true,cells,none⟩=>match dL sh cells with
  | some ts=>match je u ts with
   | some y=>KP v y
   | none=>False
  | none=>False
 | _=>False
def cH (e:En) (fn:Func) (an:An) (sh:List Sh) (u:U) (ps rs:List U) (x:El u) (y:Fl ps) (KK:Fl rs×El u->Prop) (KP:Value->El u->Prop):Prop:=
 wpT ⟨e.P,e.E,e.cs,e.sh,Qt sh u KP⟩ an (fn.body.getD .skip) ⟨1,(0,0,.one (.c (.pl ⟨.out 0,0,[]⟩)))::yH 1 ps y,[(.out 0,0,⟨true,au sh (flat u x),none⟩)]⟩ ⟨om e.P fn.results.toList sh u rs KK,fun _ _=>False,om e.P fn.results.toList sh u rs KK⟩
def Kw (res:List ResultVar) (u:U) (KK:List (El u)->Prop) (s:St):Prop:=
 match res with
 | [.tmp t]=>match gtA s.t t with
  | .one (.c (.rf ⟨n,0,[]⟩))=>match bK s.m n with
   | some ⟨false,[.ow sh u' l],none⟩=>match me sh (List.replicate (nc u) .fr),tb u' u l with
    | true,some l'=>KK l'
    | _,_=>False
   | _=>False
  | _=>False
 | _=>False
def No (e:En) (fn:Func) (an:An) (u:U) (ps:List U) (x:List (El u)) (y:Fl ps) (KK:List (El u)->Prop):Prop:=
 wpT ⟨e.P,e.E,e.cs,e.sh,fun _ _=>False⟩ an (fn.body.getD .skip) ⟨1,(0,0,.one (.c (.rf ⟨.out 0,0,[]⟩)))::yH 1 ps y,[(.out 0,0,⟨false,[.ow (List.replicate (nc u) .fr) u x],none⟩)]⟩ ⟨Kw fn.results.toList u KK,fun _ _=>False,Kw fn.results.toList u KK⟩
end Go.Am
end

section
namespace Go.Am
open Go
def LEN:Nat:=4611686018427387904
theorem ob {i n:Nat} (h:i<n):(0:Int)<=(i:Int)/\(i:Int).toNat<n:=by
 rw [Int.toNat_natCast]; exact ⟨We i,h⟩
theorem fj {i n:Nat} (h:i<n):decide ((i:Int) < (n:Int))=true:=by simpa using h
theorem gF {n:Nat}:decide ((n:Int) < (n:Int))=false:=by simp
section
variable {α:Type}
theorem ac (x:α) (B:α->Prop):aa (fun J=>J x) B=B x:=
 propext ⟨fun h=>h B (fun _ h=>h),fun h J hJ=>hJ x h⟩
theorem aV (c:Prop) [Decidable c] (A A':(α->Prop)->Prop) (B:α->Prop):aa (fun J=>if c then A J else A' J) B=if c then aa A B else aa A' B:=by
 unfold aa;by_cases hc:c <;> simp only [hc,if_true,if_false]
theorem aj (P:Prop) (A:(α->Prop)->Prop) (B:α->Prop):aa (fun J=>P/\A J) B=(P/\aa A B):=
 propext ⟨fun h=>⟨(h (fun _=>True) (fun _ _=>trivial)).1,fun J hJ=>(h J hJ).2⟩,fun h J hJ=>⟨h.1,h.2 J hJ⟩⟩
theorem aq (P:Prop) (A:(α->Prop)->Prop) (B:α->Prop):aa (fun J=>P->A J) B=(P->aa A B):=
 propext ⟨fun h hp J hJ=>h J hJ hp,fun h J hJ hp=>h hp J hJ⟩
theorem ay (P:Prop) (B:α->Prop):aa (fun _=>P) B=P:=
 propext ⟨fun h=>h (fun _=>True) (fun _ _=>trivial),fun h _ _=>h⟩
theorem jval (c:Prop) [Decidable c] (x y:α) (J:α->Prop):(if c then J x else J y)=J (if c then x else y):=by split <;> rfl
theorem bor (b c:Bool):(if b=true then true else c)=(b||c):=by cases b <;> rfl
theorem band (b c:Bool):(if b=true then c else false)=(b&&c):=by cases b <;> rfl
theorem bnand (b c:Bool):(if b=true then false else c)=(!b&&c):=by cases b <;> rfl
theorem bimp (b c:Bool):(if b=true then c else true)=(!b||c):=by cases b <;> rfl
theorem lk (c:Prop) [Decidable c] (P A B:Prop):(if c then (P/\A) else B)=((c->P)/\if c then A else B):=by
 by_cases hc:c <;> simp [hc]
theorem lD (c:Prop) [Decidable c] (P A B:Prop):(if c then A else (P/\B))=((¬ c->P)/\if c then A else B):=by
 by_cases hc:c <;> simp [hc]
theorem fv (c:Prop) [Decidable c] (P A B:Prop):(if c then (P/\A) else (P/\B))=(P/\if c then A else B):=by
 by_cases hc:c <;> simp [hc]
end
theorem bJ {α:Type} (body:(α->Prop)->α->Prop) (m:Nat) (P:Nat->α->Prop)
  (hs:∀ R i x,i<m->P i x->(∀ y,P (i+1) y->R y)->body R x) (he:∀ R x,P m x->body R x) (x:α) (h:P 0 x):ba body x:=by
 have key:∀ k i x,i+k=m->P i x->lR body (k+1) x:=by
  intro k;induction k with
  | zero=>
   intro i x hi h;have e:i=m:=by omega
   subst e;exact he _ x h
  | succ k ih=>
   intro i x hi h;exact hs _ i x (by omega) h (fun y hy=>ih (i+1) y (by omega) hy)
 exact ⟨m+1,key m 0 x (by omega) h⟩
theorem vn {α β ρ σ:Type} [Inhabited α] (l:List α) (hl:l.length<=LEN) (st:β->Int->σ) (go:List α->β->ρ) (KK:ρ->Prop) (body:(σ->Prop)->σ->Prop)
  (hs:∀ R b i,i<l.length->(∀ b',KK (go (l.drop (i+1)) b')->R (st b' (IntKind.i64.wrap ((i:Int)+1))))->KK (go (l.getD i default::l.drop (i+1)) b)->body R (st b i))
  (he:∀ R b,KK (go [] b)->body R (st b l.length)) (b:β) (h:KK (go l b)):ba body (st b 0):=by
 have key:∀ k i b,i+k=l.length->KK (go (l.drop i) b)->lR body (k+1) (st b (i:Int)):=by
  intro k;induction k with
  | zero=>
   intro i b hi h;have e:i=l.length:=by omega
   subst e;rw [Xd] at h;exact he _ b h
  | succ k ih=>
   intro i b hi h;have hlt:i<l.length:=by omega
   rw [Wm hlt] at h;have e:l.getD i default=l[i]:=by rw [List.getD,V8 hlt]; rfl
   rw [<- e] at h;refine hs _ b i hlt (fun b' h'=>?_) h;rw [aQ (by unfold LEN at hl; omega)];exact ih (i+1) b' (by omega) h'
 exact ⟨l.length+1,key l.length 0 b (by omega) h⟩
theorem Dc {α:Type} [Inhabited α] (l:List α) (hl:l.length<=LEN) (p:α->Bool) (rest:Bool) (KK:Bool->Prop) (body:(Int->Prop)->Int->Prop)
  (hs:∀ R i,i<l.length->(p (l.getD i default)=true->R (IntKind.i64.wrap ((i:Int)+1)))->(p (l.getD i default)=false->KK false)->body R (i:Int))
  (he:∀ R,KK rest->body R (l.length:Int)) (h:KK (l.all p&&rest)):ba body 0:=by
 refine vn l hl (fun (_:Unit) i=>i) (fun t _=>t.all p&&rest) KK body (fun R _ i hi ih h=>?_) (fun R _ h=>he R (by simpa using h)) () h;refine hs R i hi (fun hp=>ih () ?_) (fun hp=>?_)
 ·simp only [Wl,hp,Wv] at h; exact h
 ·simp only [Wl,hp,WO] at h; exact h
theorem PZ {β:Type} (N:Nat) (hN:N<=LEN) (g:Nat->β) (body:(β×Int->Prop)->β×Int->Prop)
  (hs:∀ R i,i<N->R (g (i+1),IntKind.i64.wrap ((i:Int)+1))->body R (g i,(i:Int)))
  (he:∀ R,body R (g N,(N:Int))) {b:β} (hb:g 0=b):ba body (b,0):=by
 subst hb;refine bJ body N (fun i x=>x=(g i,(i:Int))) (fun R i x hi hx ih=>?_) (fun R x hx=>?_) _ rfl
 ·subst hx;refine hs R i hi (ih _ ?_);rw [aQ (by unfold LEN at hN; omega)]
 ·subst hx; exact he R
theorem dZ {α:Type} [Inhabited α] (l:List α) {i:Nat} (h:i<l.length):l.take (i+1)=l.take i++[l.getD i default]:=by
 rw [List.take_add_one,List.getD,V8 h]; rfl
theorem iH {α:Type} [Inhabited α] (l:List α) {i:Nat} (h:i<l.length):l.getD i default∈l:=by
 rw [List.getD,V8 h]; exact WX h
end Go.Am
end

section
namespace Lt
open Go
def pJ (n:Int):Int:=IntKind.i64.wrap n
def gq (n:Int) (c:UInt8):Int:=IntKind.u64.wrap ((IntKind.u64.wrap ((IntKind.u64.wrap (n*10))+(IntKind.u64.wrap ((c.toNat:Nat):Int)))) - 48)
def Al (s:List UInt8):Int:=if s.getD 0 0=45 then ((s.take 30).drop 1).foldl gq 0 else (s.take 30).foldl gq 0
def D9 (s:List UInt8):Int:=pJ (if s.getD 0 0=45 then IntKind.u64.wrap (0-Al s) else Al s)
def aD (s:List UInt8):Int×Bool:=if pU (D9 s)=s then (D9 s,true) else (0,false)
def wO (u:Int) (c:UInt8):Int:=
 IntKind.u64.wrap ((IntKind.u64.wrap (u*16))+(Int.tmod (if 97<=(IntKind.u64.wrap ((c.toNat:Nat):Int)) then IntKind.u64.wrap ((IntKind.u64.wrap ((c.toNat:Nat):Int)) - 87) else IntKind.u64.wrap ((IntKind.u64.wrap ((c.toNat:Nat):Int)) - 48)) 16))
def yZ (s:List UInt8):Int:=IntKind.i64.wrap (((s.drop 2).take 16).foldl wO 0)
def eD (s:List UInt8):Int×Bool:=if s.length=18/\jR (yZ s)=s then (yZ s,true) else (0,false)
def qO (s:List UInt8) (a:Arg):Bool:=fX a&&decide (mJ a=s)
def cM (s:List UInt8):Arg×Bool:=
 if qO s ⟨1,s,0⟩ then (⟨1,s,0⟩,true)
 else if qO s ⟨2,[],(aD s).1⟩ then (⟨2,[],(aD s).1⟩,true)
 else if qO s ⟨3,[],(eD s).1⟩ then (⟨3,[],(eD s).1⟩,true)
 else if qO s ⟨4,[],0⟩ then (⟨4,[],0⟩,true)
 else if qO s ⟨5,[],(aD (s.drop 1)).1⟩ then (⟨5,[],(aD (s.drop 1)).1⟩,true)
 else (⟨0,[],0⟩,false)
def dy (l:List (List UInt8)):Bool:=l.all az
def iI (w:List UInt8):Bool:=decide (w=[105,110,116])||(decide (w=[102,108,111,97,116])||az w)
def bM (l:List (List UInt8)):Bool:=decide (l.length=3)&&(az (l.getD 1 [])&&iI (l.getD 2 []))
def bN (n most:Int):Int:=if most<=n then 2 else 0
def Cf (w:List UInt8):List (List UInt8)->Int->Int×Bool
 | [],_=>(0,false)
 | x::r,n=>if x=w then (n,true) else Cf w r (n+1)
def sOp (w:List UInt8):Int×Bool:=Cf w (Go.Am.gw.drop 1) 1
def bZ (objs:Bool) (w:List UInt8):Bool:=(cM w).2&&!(decide ((cM w).1.Kind=5)&&!objs)
def aT (l:List (List UInt8)) (objs:Bool):List Arg×Bool:=if l.all (bZ objs) then (l.map fun w=>(cM w).1,true) else ([],false)
def bk (objs:Bool):List (List UInt8)->Option (List Bind)
 | []=>some []
 | [_]=>none
 | a::b::r=>if az a&&bZ objs b then (bk objs r).map (⟨a,(cM b).1⟩::·) else none
def al (l:List (List UInt8)) (from_:Int) (objs:Bool):List Bind×Bool:=
 if (l.length:Int)<from_ then ([],false) else match bk objs (l.drop from_.toNat) with
 | some x=>(x,true)
 | none=>([],false)
abbrev Read.out (r:Read):Bool:=decide (r.Where<=2)||decide (r.Where=9)
abbrev Read.ins (r:Read):Bool:=decide (5<=r.Where)&&decide (r.Where<=8)
def last {α:Type} [Inhabited α] (l:List α) (f:α->α):List α:=l.set (l.length - 1) (f (l.getD (l.length - 1) default))
def Read.func (r:Read) (f:Func->Func):Read:={ r with P:={ r.P with Funcs:=last r.P.Funcs f } }
def Read.block (r:Read) (f:Block->Block):Read:=r.func fun g=>{ g with Blocks:=last g.Blocks f }
def Read.instr (r:Read) (f:Instr->Instr):Read:=r.block fun b=>{ b with Code:=last b.Code f }
def Read.curF (r:Read):Func:=r.P.Funcs.getD (r.P.Funcs.length - 1) default
def Read.curB (r:Read):Block:=r.curF.Blocks.getD (r.curF.Blocks.length - 1) default
def Read.curI (r:Read):Instr:=r.curB.Code.getD (r.curB.Code.length - 1) default
def mj (f:Func) (w n:Int):Prop:=
 (Name f.Name=true/\kind f.Result=true/\typed f.Params 6=true/\typed f.Vars 1024=true)/\(f.Blocks.length<=256/\0<=n/\n<=1024) /\
 (w<=4->f.Blocks=[]/\n=0) /\
 (5<=w->∃ bs b,f.Blocks=bs++[b]/\bs.all block=true/\n=((f.Blocks.map fun b=>b.Phis.length+b.Code.length).sum:Nat) /\
  (Name b.Name=true/\b.Phis.all phi=true/\b.Code.all instr=true)/\(w=9->jE b.End=true) /\
  (6<=w->w<=8->∃ cs c,b.Code=cs++[c]/\(7<=w->c.Op=31\/c.Op=34)))
def Inv (r:Read):Prop:=
 (0<=r.Where/\r.Where<=9)/\(r.P.Classes.length<=8/\r.P.Externs.length<=8/\r.P.Funcs.length<=8) /\
 (typed r.P.Globals 8=true/\r.P.Classes.all iD=true/\r.P.Externs.all mF=true) /\
 (r.Where=1->r.P.Classes≠[])/\(r.Where<=2->r.P.Funcs.all cm=true) /\
 (3<=r.Where->∃ fs f,r.P.Funcs=fs++[f]/\fs.all cm=true/\mj f r.Where r.Long)
def dj (r:Read) (l:List (List UInt8)):Prop:=Inv r/\l≠[]/\l.length<=room
def wV (r:Read) (l:List (List UInt8)) (_:Bool):Prop:=dj r l
def bU (l:List (List UInt8)) (_:Bool):Prop:=l.length<=room
def j5 (l:List (List UInt8)) (from_:Int) (_:Bool):Prop:=l.length<=room/\0<=from_/\from_<=4
abbrev w0 (l:List (List UInt8)):List UInt8:=l.getD 0 default
abbrev w1 (l:List (List UInt8)):List UInt8:=l.getD 1 default
abbrev w2 (l:List (List UInt8)):List UInt8:=l.getD 2 default
abbrev w3 (l:List (List UInt8)):List UInt8:=l.getD 3 default
def eP (r:Read) (l:List (List UInt8)):Int×Read:=
 if (r.out&&decide (l.length=2)&&az (w1 l))=false then (3,r)
 else if 8<=r.P.Classes.length then (2,r) else (0,{ r with P:={ r.P with Classes:=r.P.Classes++[⟨w1 l,[]⟩] },Where:=1 })
def fD (r:Read) (l:List (List UInt8)):Int×Read:=
 if (decide (r.Where=1)&&bM l)=false then (3,r)
 else if 8<=(r.P.Classes.getD (r.P.Classes.length - 1) default).Fields.length then (2,r) else (0,{ r with P:={ r.P with Classes:=last r.P.Classes fun c=>{ c with Fields:=c.Fields++[⟨w1 l,w2 l⟩] } } })
def dB (r:Read) (l:List (List UInt8)):Int×Read:=
 if (r.out&&bM l)=false then (3,r)
 else (if 8<=r.P.Globals.length then 2 else 0,{ r with P:={ r.P with Globals:=r.P.Globals++[⟨w1 l,w2 l⟩] },Where:=2 })
def dg (r:Read) (l:List (List UInt8)):Int×Read:=
 if (r.out&&decide (l.length=3)&&az (w1 l)&&((aD (w2 l)).2&&decide (0<=(aD (w2 l)).1)&&decide ((aD (w2 l)).1<=8)))=false then (3,r)
 else (if 8<=r.P.Externs.length then 2 else 0,{ r with P:={ r.P with Externs:=r.P.Externs++[⟨w1 l,(aD (w2 l)).1⟩] },Where:=2 })
def iN (r:Read) (l:List (List UInt8)):Int×Read:=
 if (r.out&&bM l)=false then (3,r)
 else (if 8<=r.P.Funcs.length then 2 else 0,{ r with P:={ r.P with Funcs:=r.P.Funcs++[⟨w1 l,w2 l,[],[],[]⟩] },Where:=3,Long:=0 })
abbrev Id:List UInt8:=[99,108,97,115,115]
abbrev Gv:List UInt8:=[102,105,101,108,100]
abbrev BE:List UInt8:=[103,108,111,98,97,108]
abbrev BX:List UInt8:=[101,120,116,101,114,110]
abbrev Oj:List UInt8:=[102,117,110,99]
abbrev Gc:List UInt8:=[112,97,114,97,109]
abbrev Uz:List UInt8:=[118,97,114]
abbrev GS:List UInt8:=[98,108,111,99,107]
abbrev Tz:List UInt8:=[112,104,105]
abbrev kAt:List UInt8:=[97,116]
abbrev Gy:List UInt8:=[111,98,106]
abbrev gm:List UInt8:=[106,117,109,112]
abbrev dD:List UInt8:=[98,114,97,110,99,104]
abbrev tQ:List UInt8:=[114,101,116]
abbrev tx:List UInt8:=[116,114,97,112]
abbrev UV:List UInt8:=[115,115,97]
def bD (r:Read) (l:List (List UInt8)):(Bool×Int)×Read:=
 if w0 l=Id then ((true,(eP r l).1),(eP r l).2)
 else if w0 l=Gv then ((true,(fD r l).1),(fD r l).2)
 else if w0 l=BE then ((true,(dB r l).1),(dB r l).2)
 else if w0 l=BX then ((true,(dg r l).1),(dg r l).2)
 else if w0 l=Oj then ((true,(iN r l).1),(iN r l).2)
 else ((false,0),r)
def eQ (r:Read) (l:List (List UInt8)):Int×Read:=
 if (decide (r.Where=3)&&bM l)=false then (3,r)
 else (if 6<=r.curF.Params.length then 2 else 0,r.func fun f=>{ f with Params:=f.Params++[⟨w1 l,w2 l⟩] })
def lu (r:Read) (l:List (List UInt8)):Int×Read:=
 if ((decide (r.Where=3)||decide (r.Where=4))&&bM l)=false then (3,r)
 else (if 1024<=r.curF.Vars.length then 2 else 0,{ r.func (fun f=>{ f with Vars:=f.Vars++[⟨w1 l,w2 l⟩] }) with Where:=4 })
def dS (r:Read) (l:List (List UInt8)):Int×Read:=
 if ((decide (r.Where=3)||decide (r.Where=4)||decide (r.Where=9))&&decide (l.length=2)&&az (w1 l))=false then (3,r)
 else (if 256<=r.curF.Blocks.length then 2 else 0,{ r.func (fun f=>{ f with Blocks:=f.Blocks++[⟨w1 l,[],[],⟨0,⟨0,[],0⟩,[],0⟩⟩] }) with Where:=5 })
def l5 (r:Read) (l:List (List UInt8)):Int×Read:=
 if (decide (r.Where=5)&&(al l 2 false).2&&!decide ((al l 2 false).1.length=0)&&az (w1 l))=false then (3,r)
 else if 256 < (al l 2 false).1.length\/1024<=r.Long then (2,r)
 else (0,{ r.block (fun b=>{ b with Phis:=b.Phis++[⟨w1 l,(al l 2 false).1.map fun x=>⟨x.Name,x.A⟩⟩] }) with Long:=r.Long+1 })
def bH (r:Read) (l:List (List UInt8)):(Bool×Int)×Read:=
 if w0 l=Gc then ((true,(eQ r l).1),(eQ r l).2)
 else if w0 l=Uz then ((true,(lu r l).1),(lu r l).2)
 else if w0 l=GS then ((true,(dS r l).1),(dS r l).2)
 else if w0 l=Tz then ((true,(l5 r l).1),(l5 r l).2)
 else ((false,0),r)
def sAt (r:Read) (l:List (List UInt8)):Int×Read:=
 if (decide (r.Where=7)&&(al l 4 true).2&&az (w1 l)&&az (w2 l)&&((aD (w3 l)).2&&decide (0<=(aD (w3 l)).1)&&decide ((aD (w3 l)).1<=1024)))=false then (3,r)
 else if 16 < (al l 4 true).1.length\/16<=r.curI.Frames.length then (2,r)
 else (0,r.instr fun x=>{ x with Frames:=x.Frames++[⟨w1 l,w2 l,(aD (w3 l)).1,(al l 4 true).1⟩] })
def l8 (r:Read) (l:List (List UInt8)):Int×Read:=
 if (decide (7<=r.Where)&&decide (2<=l.length)&&decide (l.length<=10)&&az (w1 l)&&(aT (l.drop 2) true).2)=false then (3,r)
 else (if 99<=r.curI.Objs.length then 2 else 0,{ r.instr (fun x=>{ x with Objs:=x.Objs++[⟨w1 l,(aT (l.drop 2) true).1⟩] }) with Where:=8 })
def dl (l:List (List UInt8)):Option Term:=
 if w0 l=gm then (if (decide (l.length=2)&&az (w1 l))=true then some ⟨1,⟨0,[],0⟩,[w1 l],0⟩ else none)
 else if w0 l=dD then (if (decide (l.length=4)&&(az (w2 l)&&az (w3 l))&&bZ false (w1 l))=true then some ⟨2,(cM (w1 l)).1,[w2 l,w3 l],0⟩ else none)
 else if w0 l=tQ then (if (decide (l.length=2)&&bZ false (w1 l))=true then some ⟨3,(cM (w1 l)).1,[],0⟩ else none)
 else if w0 l=tx then (if (decide (l.length=2)&&(aD (w1 l)).2)=true then some ⟨4,⟨0,[],0⟩,[],(aD (w1 l)).1⟩ else none)
 else none
def ld (r:Read) (l:List (List UInt8)):Int×Read:=match dl l with
 | some t=>(0,{ r.block (fun b=>{ b with End:=t }) with Where:=9 })
 | none=>(3,{ r with Where:=9 })
def bf (r:Read) (l:List (List UInt8)):(Bool×Int)×Read:=
 if w0 l=kAt\/w0 l=Gy\/w0 l=gm\/w0 l=dD\/w0 l=tQ\/w0 l=tx then
  if r.ins=false then ((true,3),r)
  else if w0 l=kAt then ((true,(sAt r l).1),(sAt r l).2)
  else if w0 l=Gy then ((true,(l8 r l).1),(l8 r l).2)
  else ((true,(ld r l).1),(ld r l).2)
 else ((false,0),r)
def Kg (op:Int) (l:List (List UInt8)):Option (List UInt8×List (List UInt8)):=
 if op=26\/op=27 then (if l.length < 3 then none else some (w2 l,w1 l::l.drop 3))
 else if (rOf op).1.Named then (if l.length < 2 then none else some (w1 l,l.drop 2))
 else some ([],l.drop 1)
def fM (dst:List UInt8) (l:List (List UInt8)):Option Instr:=
 if ((sOp (w0 l)).2&&((rOf (sOp (w0 l)).1).1.Dst==!decide (dst=[])))=false then none
 else match Kg (sOp (w0 l)).1 l with
 | none=>none
 | some (nm,rest)=>
  if ((aT rest false).2&&!((rOf (sOp (w0 l)).1).1.Named&&!az nm)&&decide ((rOf (sOp (w0 l)).1).1.Least<=((aT rest false).1.length:Int))&&decide (((aT rest false).1.length:Int)<=(rOf (sOp (w0 l)).1).1.Most))=true
  then some ⟨(sOp (w0 l)).1,dst,nm,(aT rest false).1,[],[]⟩ else none
def sEq (l:List (List UInt8)):Bool:=decide (2<l.length)&&decide (w1 l=[61])
def bt (r:Read) (l:List (List UInt8)):Int×Read:=
 if (sEq l&&!az (w0 l))=true then (3,r)
 else if r.ins=false then (3,r)
 else match fM (if sEq l then w0 l else []) (if sEq l then l.drop 2 else l) with
 | none=>(3,r)
 | some x=>if 1024<=r.Long then (2,r) else (0,{ r.block (fun b=>{ b with Code:=b.Code++[x] }) with Where:=if x.Op=31\/x.Op=34 then 7 else 6,Long:=r.Long+1 })
def aO (r:Read) (l:List (List UInt8)) (first:Bool):Int×Read:=
 if sEq l then bt r l
 else if w0 l=UV then (if (first&&decide (l.length=1))=false then (3,r) else (0,{ r with P:={ r.P with SSA:=true } }))
 else if (bD r l).1.1 then ((bD r l).1.2,(bD r l).2)
 else if (bH r l).1.1 then ((bH r l).1.2,(bH r l).2)
 else if (bf r l).1.1 then ((bf r l).1.2,(bf r l).2)
 else bt r l
structure Cut where
 out:List RLine
 l:List (List UInt8)
 w:List UInt8
 n:Int
 remark:Bool
 bad:Bool
def Cut.word (k:Cut):Cut:={ k with l:=if k.w=[] then k.l else k.l++[k.w],w:=[] }
def Cut.byte (k:Cut) (c:UInt8):Cut:=
 if c=59 then { k.word with remark:=true }
 else if (k.remark||c=32||c=9)=true then k.word
 else { k with bad:=k.bad||(decide (c.toNat < 33)||decide (126<c.toNat)),w:=k.w++[c] }
def Cut.line (k:Cut):Cut:={ out:=if k.word.l=[] then k.out else k.out++[⟨k.n,k.word.l⟩],l:=[],w:=[],n:=k.n+1,remark:=false,bad:=k.bad }
def cD:List UInt8->Cut->List RLine×Int×Int
 | [],k=>if k.bad then ([],k.n,3) else (k.line.out,0,0)
 | c::r,k=>if c=10 then (if k.bad then ([],k.n,3) else cD r k.line) else cD r (k.byte c)
def bV (s:List UInt8):List RLine×Int×Int:=if 4194304<s.length then ([],0,2) else cD s ⟨[],[],[],1,false,false⟩
def jt:List RLine->Bool->Read->Program×Int×Int
 | [],_,r=>if r.out then (r.P,0,0) else (⟨false,[],[],[],[]⟩,0,3)
 | x::t,first,r=>if (aO r x.Words first).1=0 then jt t false (aO r x.Words first).2 else (⟨false,[],[],[],[]⟩,x.N,(aO r x.Words first).1)
def oA (s:List UInt8):Program×Int×Int:=
 if (bV s).2.2=0 then jt (bV s).1 true ⟨⟨false,[],[],[],[]⟩,0,0⟩ else (⟨false,[],[],[],[]⟩,(bV s).2.1,(bV s).2.2)
end Lt
end
