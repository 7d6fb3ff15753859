/-
  NARROWER THAN 'FOR EVERY INPUT', by the rows' own cells (each row's printed sentence says how): ShowTexts: laid · SyntaxOps: laid · SyntaxForms: laid · SyntaxBlank: laid · SyntaxFront: laid.
  DERIVED. THE GIVEN ROWS OF THIS SEAT. 5 by the template 'for every input the law returns true; each argument reads behind the call as it read before'; 0 by the template 'total and deterministic' (their statements: YtlikflolhhlgjaaDoorTotals.lean).
  GIVEN WITH THE SEED: the statements are not yours to turn. If you find one false, say at which input.
  Laid BY PROGRAM, IN A SANDBOX (cutbox-rows.mjs): the forced cells as the released guide's own fill.sh prints them over the translation 4dc8229541bc3375… (all of the seat's roots in one cut). By AI agents, Wed Nov 11 2026. No macro, syntax, notation, axiom, sorry.
-/
import Derived.Test.YtlikflolhhlgjaaDoorChecked
import GoSem.PinnedTables
import GoSem.Claim
import GoSem.ClaimJoined
import GoSem.ClaimMapViews
import Derived.JoinedTies
import Derived.KernelRfl
namespace Go.Proofs.YtlikflolhhlgjaaDoor
/- THE CELL 'sum', in the pinned program and in every row, IS THE sha256 OF THE DUMP (.gsa) THAT YtlikflolhhlgjaaDoorProg.lean LOADS. Nothing in Lean hashes anything: it is a label: what it is worth is what the hold of that sum in a sandbox is worth. -/
noncomputable def Tryd.pinned : Pinned := { name := "ytlikflolhhlgjaadoor", sum := "4dc8229541bc3375b6c4578f44d96b72f16c2c541415dd8a844d101504b6ed55", checked := Tryd.checked }
namespace Rows
def none {H : Type} : Left H := { results := [], args := [] }

/- WHAT THE LISTED PACKAGE-LEVEL VARIABLES READ AS WHEN THE CALL BEGINS. Each datum BY PROGRAM (the guide's laid-datum.mjs) off the statement by which the dump's own 'gosem.cut.vars' lays the variable. In a bare row this is a premise. The card (YtlikflolhhlgjaaDoorCards.lean) ties it to the program's text. -/
def laid_lateen_lateenref05_words {H : Type} : DataW H := .agg [.lit (.string []), .lit (.string [97, 100, 100]), .lit (.string [115, 117, 98]), .lit (.string [109, 117, 108]), .lit (.string [100, 105, 118]), .lit (.string [114, 101, 109]), .lit (.string [97, 110, 100]), .lit (.string [111, 114]), .lit (.string [120, 111, 114]), .lit (.string [115, 104, 108]), .lit (.string [115, 104, 114]), .lit (.string [101, 113]), .lit (.string [110, 101]), .lit (.string [108, 116]), .lit (.string [108, 101]), .lit (.string [102, 97, 100, 100]), .lit (.string [102, 115, 117, 98]), .lit (.string [102, 109, 117, 108]), .lit (.string [102, 100, 105, 118]), .lit (.string [102, 101, 113]), .lit (.string [102, 108, 116]), .lit (.string [102, 108, 101]), .lit (.string [105, 116, 111, 102]), .lit (.string [102, 116, 111, 105]), .lit (.string [109, 111, 118]), .lit (.string [110, 101, 119]), .lit (.string [108, 111, 97, 100]), .lit (.string [115, 116, 111, 114, 101]), .lit (.string [115, 97, 109, 101]), .lit (.string [103, 108, 111, 97, 100]), .lit (.string [103, 115, 116, 111, 114, 101]), .lit (.string [99, 97, 108, 108]), .lit (.string [101, 120, 116]), .lit (.string [111, 117, 116]), .lit (.string [103, 117, 97, 114, 100])]
def laid_unicode_utf8_acceptRanges {H : Type} : DataW H := .agg [.agg [.lit (.int .u8 128), .lit (.int .u8 191)], .agg [.lit (.int .u8 160), .lit (.int .u8 191)], .agg [.lit (.int .u8 128), .lit (.int .u8 159)], .agg [.lit (.int .u8 144), .lit (.int .u8 191)], .agg [.lit (.int .u8 128), .lit (.int .u8 143)], .agg [.lit (.int .u8 0), .lit (.int .u8 0)], .agg [.lit (.int .u8 0), .lit (.int .u8 0)], .agg [.lit (.int .u8 0), .lit (.int .u8 0)], .agg [.lit (.int .u8 0), .lit (.int .u8 0)], .agg [.lit (.int .u8 0), .lit (.int .u8 0)], .agg [.lit (.int .u8 0), .lit (.int .u8 0)], .agg [.lit (.int .u8 0), .lit (.int .u8 0)], .agg [.lit (.int .u8 0), .lit (.int .u8 0)], .agg [.lit (.int .u8 0), .lit (.int .u8 0)], .agg [.lit (.int .u8 0), .lit (.int .u8 0)], .agg [.lit (.int .u8 0), .lit (.int .u8 0)]]
/-- One of Go's own tables, pinned by name: the form's constant. -/
def laid_unicode_utf8_first : DataW Unit := Go.Pinned.utf8First

/-- 'lateenlaw06.ShowTexts': WHATEVER THE INPUT: true; the input reads as it did. -/
def showTextsSpec : ChangeSpec := { name := "showTexts", fn := fun _ => fun
  | [d] => { results := [.lit (.bool true)], args := [d] }
  | _ => none }
def showTextsRow : OpenClaim := { program := "ytlikflolhhlgjaadoor", sum := "4dc8229541bc3375b6c4578f44d96b72f16c2c541415dd8a844d101504b6ed55", func := "lateen/lateenlaw06.ShowTexts", spec := "showTexts", inPlace := ["internal/abi.NoEscape"], named := ["lateen/lateenref05.words"], apart := false, laid := [("lateen/lateenref05.words", laid_lateen_lateenref05_words)] }
def ShowTextsSaid : Prop := showTextsRow.holds Tryd.pinned (OpenSpec.ofChange showTextsSpec)

/-- ITS FALSE NEIGHBOUR: 'it returns false'. Refute it at one input. -/
def showTextsWrong : ChangeSpec := { name := "showTexts", fn := fun _ => fun
  | [d] => { results := [.lit (.bool false)], args := [d] }
  | _ => none }
def ShowTextsWrongFalsely : Prop := showTextsRow.holds Tryd.pinned (OpenSpec.ofChange showTextsWrong)

/-- 'lateenlaw05.SyntaxOps': WHATEVER THE INPUT: true; the input reads as it did. -/
def syntaxOpsSpec : ChangeSpec := { name := "syntaxOps", fn := fun _ => fun
  | [d1, d2] => { results := [.lit (.bool true)], args := [d1, d2] }
  | _ => none }
def syntaxOpsRow : OpenClaim := { program := "ytlikflolhhlgjaadoor", sum := "4dc8229541bc3375b6c4578f44d96b72f16c2c541415dd8a844d101504b6ed55", func := "lateen/lateenlaw05.SyntaxOps", spec := "syntaxOps", inPlace := ["internal/bytealg.CountString", "internal/bytealg.IndexByteString", "internal/bytealg.IndexString"], unfollowed := true, recurses := true, named := ["lateen/lateenref05.words", "unicode/utf8.first", "unicode/utf8.acceptRanges", "internal/bytealg.MaxLen"], apart := false, laid := [("unicode/utf8.acceptRanges", laid_unicode_utf8_acceptRanges), ("lateen/lateenref05.words", laid_lateen_lateenref05_words), ("unicode/utf8.first", laid_unicode_utf8_first)] }
def SyntaxOpsSaid : Prop := syntaxOpsRow.holds Tryd.pinned (OpenSpec.ofChange syntaxOpsSpec)

/-- ITS FALSE NEIGHBOUR: 'it returns false'. Refute it at one input. -/
def syntaxOpsWrong : ChangeSpec := { name := "syntaxOps", fn := fun _ => fun
  | [d1, d2] => { results := [.lit (.bool false)], args := [d1, d2] }
  | _ => none }
def SyntaxOpsWrongFalsely : Prop := syntaxOpsRow.holds Tryd.pinned (OpenSpec.ofChange syntaxOpsWrong)

/-- 'lateenlaw05.SyntaxForms': WHATEVER THE INPUT: true; the input reads as it did. -/
def syntaxFormsSpec : ChangeSpec := { name := "syntaxForms", fn := fun _ => fun
  | [d] => { results := [.lit (.bool true)], args := [d] }
  | _ => none }
def syntaxFormsRow : OpenClaim := { program := "ytlikflolhhlgjaadoor", sum := "4dc8229541bc3375b6c4578f44d96b72f16c2c541415dd8a844d101504b6ed55", func := "lateen/lateenlaw05.SyntaxForms", spec := "syntaxForms", inPlace := ["internal/bytealg.CountString", "internal/bytealg.IndexByteString", "internal/bytealg.IndexString"], unfollowed := true, recurses := true, named := ["unicode/utf8.first", "unicode/utf8.acceptRanges", "internal/bytealg.MaxLen"], apart := false, laid := [("unicode/utf8.acceptRanges", laid_unicode_utf8_acceptRanges), ("unicode/utf8.first", laid_unicode_utf8_first)] }
def SyntaxFormsSaid : Prop := syntaxFormsRow.holds Tryd.pinned (OpenSpec.ofChange syntaxFormsSpec)

/-- ITS FALSE NEIGHBOUR: 'it returns false'. Refute it at one input. -/
def syntaxFormsWrong : ChangeSpec := { name := "syntaxForms", fn := fun _ => fun
  | [d] => { results := [.lit (.bool false)], args := [d] }
  | _ => none }
def SyntaxFormsWrongFalsely : Prop := syntaxFormsRow.holds Tryd.pinned (OpenSpec.ofChange syntaxFormsWrong)

/-- 'lateenlaw05.SyntaxBlank': WHATEVER THE INPUT: true; the input reads as it did. -/
def syntaxBlankSpec : ChangeSpec := { name := "syntaxBlank", fn := fun _ => fun
  | [d] => { results := [.lit (.bool true)], args := [d] }
  | _ => none }
def syntaxBlankRow : OpenClaim := { program := "ytlikflolhhlgjaadoor", sum := "4dc8229541bc3375b6c4578f44d96b72f16c2c541415dd8a844d101504b6ed55", func := "lateen/lateenlaw05.SyntaxBlank", spec := "syntaxBlank", inPlace := ["internal/bytealg.CountString", "internal/bytealg.IndexByteString", "internal/bytealg.IndexString"], unfollowed := true, recurses := true, named := ["unicode/utf8.first", "unicode/utf8.acceptRanges", "internal/bytealg.MaxLen"], apart := false, laid := [("unicode/utf8.acceptRanges", laid_unicode_utf8_acceptRanges), ("unicode/utf8.first", laid_unicode_utf8_first)] }
def SyntaxBlankSaid : Prop := syntaxBlankRow.holds Tryd.pinned (OpenSpec.ofChange syntaxBlankSpec)

/-- ITS FALSE NEIGHBOUR: 'it returns false'. Refute it at one input. -/
def syntaxBlankWrong : ChangeSpec := { name := "syntaxBlank", fn := fun _ => fun
  | [d] => { results := [.lit (.bool false)], args := [d] }
  | _ => none }
def SyntaxBlankWrongFalsely : Prop := syntaxBlankRow.holds Tryd.pinned (OpenSpec.ofChange syntaxBlankWrong)

/-- 'lateenlaw05.SyntaxFront': WHATEVER THE INPUT: true; the input reads as it did. -/
def syntaxFrontSpec : ChangeSpec := { name := "syntaxFront", fn := fun _ => fun
  | [d1, d2] => { results := [.lit (.bool true)], args := [d1, d2] }
  | _ => none }
def syntaxFrontRow : OpenClaim := { program := "ytlikflolhhlgjaadoor", sum := "4dc8229541bc3375b6c4578f44d96b72f16c2c541415dd8a844d101504b6ed55", func := "lateen/lateenlaw05.SyntaxFront", spec := "syntaxFront", inPlace := ["internal/bytealg.CountString", "internal/bytealg.IndexByteString", "internal/bytealg.IndexString", "internal/abi.NoEscape"], unfollowed := true, recurses := true, named := ["unicode/utf8.first", "unicode/utf8.acceptRanges", "internal/bytealg.MaxLen"], apart := false, laid := [("unicode/utf8.acceptRanges", laid_unicode_utf8_acceptRanges), ("unicode/utf8.first", laid_unicode_utf8_first)] }
def SyntaxFrontSaid : Prop := syntaxFrontRow.holds Tryd.pinned (OpenSpec.ofChange syntaxFrontSpec)

/-- ITS FALSE NEIGHBOUR: 'it returns false'. Refute it at one input. -/
def syntaxFrontWrong : ChangeSpec := { name := "syntaxFront", fn := fun _ => fun
  | [d1, d2] => { results := [.lit (.bool false)], args := [d1, d2] }
  | _ => none }
def SyntaxFrontWrongFalsely : Prop := syntaxFrontRow.holds Tryd.pinned (OpenSpec.ofChange syntaxFrontWrong)

/- THE SECOND FORM. 'bulk': how many values and letters a reading holds, each counted each time it is reached (what is shared counts as often as it is met; a slice's spare places count too). A statement '..UptoSaid' is the law's where the arguments, and the package variables that the reading takes, are together of bulk at most 1048576: NARROWER than '..Said'. Prove '..Said' where nothing that the law and all that it calls make is longer than what came in: it says more and counts as full. Else prove '..UptoSaid'. A law counts once. -/
mutual
def uptoBulk {H : Type} : DataW H → Nat
  | .lit (.string bytes) => bytes.length + 1
  | .lit _ => 1
  | .nil => 1
  | .ptr d => uptoBulk d + 1
  | .slice elems spare => uptoBulkAll elems + uptoBulkAll spare + 1
  | .agg parts => uptoBulkAll parts + 1
  | .iface _ d => uptoBulk d + 1
  | .map entries => uptoBulkEntries entries + 1
  | .held _ => 1
def uptoBulkAll {H : Type} : List (DataW H) → Nat
  | [] => 0
  | d :: r => uptoBulk d + uptoBulkAll r
def uptoBulkEntries {H : Type} : List (Lit × DataW H) → Nat
  | [] => 0
  | x :: r => uptoBulkEntry x + uptoBulkEntries r
def uptoBulkEntry {H : Type} : Lit × DataW H → Nat
  | (.string bytes, d) => bytes.length + uptoBulk d + 1
  | (_, d) => uptoBulk d + 1
 end
def uptoSmall : (H : Type) → List (DataW H) → Bool := fun _ ds => decide (uptoBulkAll ds ≤ 1048576)
def OpenSpec.upto (s : _root_.Go.ChangeSpec) : _root_.Go.OpenSpec := { _root_.Go.OpenSpec.ofChange s with cond := some uptoSmall }

/-- 'lateenlaw06.ShowTexts', WHERE WHAT IT READS IS OF BULK AT MOST 1048576: true; the input reads as it did. -/
def showTextsUptoRow : OpenClaim := { program := "ytlikflolhhlgjaadoor", sum := "4dc8229541bc3375b6c4578f44d96b72f16c2c541415dd8a844d101504b6ed55", func := "lateen/lateenlaw06.ShowTexts", spec := "showTexts", inPlace := ["internal/abi.NoEscape"], named := ["lateen/lateenref05.words"], apart := false, laid := [("lateen/lateenref05.words", laid_lateen_lateenref05_words)], narrowed := true }
def ShowTextsUptoSaid : Prop := showTextsUptoRow.holds Tryd.pinned (OpenSpec.upto showTextsSpec)

/-- 'lateenlaw05.SyntaxOps', WHERE WHAT IT READS IS OF BULK AT MOST 1048576: true; the input reads as it did. -/
def syntaxOpsUptoRow : OpenClaim := { program := "ytlikflolhhlgjaadoor", sum := "4dc8229541bc3375b6c4578f44d96b72f16c2c541415dd8a844d101504b6ed55", func := "lateen/lateenlaw05.SyntaxOps", spec := "syntaxOps", inPlace := ["internal/bytealg.CountString", "internal/bytealg.IndexByteString", "internal/bytealg.IndexString"], unfollowed := true, recurses := true, named := ["lateen/lateenref05.words", "unicode/utf8.first", "unicode/utf8.acceptRanges", "internal/bytealg.MaxLen"], apart := false, laid := [("unicode/utf8.acceptRanges", laid_unicode_utf8_acceptRanges), ("lateen/lateenref05.words", laid_lateen_lateenref05_words), ("unicode/utf8.first", laid_unicode_utf8_first)], narrowed := true }
def SyntaxOpsUptoSaid : Prop := syntaxOpsUptoRow.holds Tryd.pinned (OpenSpec.upto syntaxOpsSpec)

/-- 'lateenlaw05.SyntaxForms', WHERE WHAT IT READS IS OF BULK AT MOST 1048576: true; the input reads as it did. -/
def syntaxFormsUptoRow : OpenClaim := { program := "ytlikflolhhlgjaadoor", sum := "4dc8229541bc3375b6c4578f44d96b72f16c2c541415dd8a844d101504b6ed55", func := "lateen/lateenlaw05.SyntaxForms", spec := "syntaxForms", inPlace := ["internal/bytealg.CountString", "internal/bytealg.IndexByteString", "internal/bytealg.IndexString"], unfollowed := true, recurses := true, named := ["unicode/utf8.first", "unicode/utf8.acceptRanges", "internal/bytealg.MaxLen"], apart := false, laid := [("unicode/utf8.acceptRanges", laid_unicode_utf8_acceptRanges), ("unicode/utf8.first", laid_unicode_utf8_first)], narrowed := true }
def SyntaxFormsUptoSaid : Prop := syntaxFormsUptoRow.holds Tryd.pinned (OpenSpec.upto syntaxFormsSpec)

/-- 'lateenlaw05.SyntaxBlank', WHERE WHAT IT READS IS OF BULK AT MOST 1048576: true; the input reads as it did. -/
def syntaxBlankUptoRow : OpenClaim := { program := "ytlikflolhhlgjaadoor", sum := "4dc8229541bc3375b6c4578f44d96b72f16c2c541415dd8a844d101504b6ed55", func := "lateen/lateenlaw05.SyntaxBlank", spec := "syntaxBlank", inPlace := ["internal/bytealg.CountString", "internal/bytealg.IndexByteString", "internal/bytealg.IndexString"], unfollowed := true, recurses := true, named := ["unicode/utf8.first", "unicode/utf8.acceptRanges", "internal/bytealg.MaxLen"], apart := false, laid := [("unicode/utf8.acceptRanges", laid_unicode_utf8_acceptRanges), ("unicode/utf8.first", laid_unicode_utf8_first)], narrowed := true }
def SyntaxBlankUptoSaid : Prop := syntaxBlankUptoRow.holds Tryd.pinned (OpenSpec.upto syntaxBlankSpec)

/-- 'lateenlaw05.SyntaxFront', WHERE WHAT IT READS IS OF BULK AT MOST 1048576: true; the input reads as it did. -/
def syntaxFrontUptoRow : OpenClaim := { program := "ytlikflolhhlgjaadoor", sum := "4dc8229541bc3375b6c4578f44d96b72f16c2c541415dd8a844d101504b6ed55", func := "lateen/lateenlaw05.SyntaxFront", spec := "syntaxFront", inPlace := ["internal/bytealg.CountString", "internal/bytealg.IndexByteString", "internal/bytealg.IndexString", "internal/abi.NoEscape"], unfollowed := true, recurses := true, named := ["unicode/utf8.first", "unicode/utf8.acceptRanges", "internal/bytealg.MaxLen"], apart := false, laid := [("unicode/utf8.acceptRanges", laid_unicode_utf8_acceptRanges), ("unicode/utf8.first", laid_unicode_utf8_first)], narrowed := true }
def SyntaxFrontUptoSaid : Prop := syntaxFrontUptoRow.holds Tryd.pinned (OpenSpec.upto syntaxFrontSpec)

end Rows
end Go.Proofs.YtlikflolhhlgjaaDoor
