/-
  NARROWER THAN 'FOR EVERY INPUT', by the rows' own cells (each row's printed sentence says how): CheckSources: laid · CheckTexts: laid · CheckLess: laid · CheckKeeps: laid.
  DERIVED. THE GIVEN ROWS OF THIS SEAT. 4 by the template 'for every input the law returns true; each argument reads behind the call as it read before'; 0 by the template 'total and deterministic' (their statements: YthhkhcolidkemaaGreatDoorTotals.lean).
  GIVEN WITH THE SEED: the statements are not yours to turn. If you find one false, say at which input.
  Laid BY PROGRAM, IN A SANDBOX (cutbox-rows.mjs): the forced cells as the released guide's own fill.sh prints them over the translation d67c415198714038… (all of the seat's roots in one cut). By AI agents, Wed Nov 11 2026. No macro, syntax, notation, axiom, sorry.
-/
import Derived.Test.YthhkhcolidkemaaGreatDoorChecked
import GoSem.PinnedTables
import GoSem.Claim
import GoSem.ClaimJoined
import GoSem.ClaimMapViews
import Derived.JoinedTies
import Derived.KernelRfl
namespace Go.Proofs.YthhkhcolidkemaaGreatDoor
/- THE CELL 'sum', in the pinned program and in every row, IS THE sha256 OF THE DUMP (.gsa) THAT YthhkhcolidkemaaGreatDoorProg.lean LOADS. Nothing in Lean hashes anything: it is a label: what it is worth is what the hold of that sum in a sandbox is worth. -/
noncomputable def Tryz.pinned : Pinned := { name := "ythhkhcolidkemaagreatdoor", sum := "d67c41519871403843655e6bac08156dc515999e8dfa3aa2e506b2c1de8b9c60", checked := Tryz.checked }
namespace Rows
def none {H : Type} : Left H := { results := [], args := [] }

/- WHAT THE LISTED PACKAGE-LEVEL VARIABLES READ AS WHEN THE CALL BEGINS. Each datum BY PROGRAM (the guide's laid-datum.mjs) off the statement by which the dump's own 'gosem.cut.vars' lays the variable. In a bare row this is a premise. The card (YthhkhcolidkemaaGreatDoorCards.lean) ties it to the program's text. -/
def laid_unicode_utf8_acceptRanges {H : Type} : DataW H := .agg [.agg [.lit (.int .u8 128), .lit (.int .u8 191)], .agg [.lit (.int .u8 160), .lit (.int .u8 191)], .agg [.lit (.int .u8 128), .lit (.int .u8 159)], .agg [.lit (.int .u8 144), .lit (.int .u8 191)], .agg [.lit (.int .u8 128), .lit (.int .u8 143)], .agg [.lit (.int .u8 0), .lit (.int .u8 0)], .agg [.lit (.int .u8 0), .lit (.int .u8 0)], .agg [.lit (.int .u8 0), .lit (.int .u8 0)], .agg [.lit (.int .u8 0), .lit (.int .u8 0)], .agg [.lit (.int .u8 0), .lit (.int .u8 0)], .agg [.lit (.int .u8 0), .lit (.int .u8 0)], .agg [.lit (.int .u8 0), .lit (.int .u8 0)], .agg [.lit (.int .u8 0), .lit (.int .u8 0)], .agg [.lit (.int .u8 0), .lit (.int .u8 0)], .agg [.lit (.int .u8 0), .lit (.int .u8 0)], .agg [.lit (.int .u8 0), .lit (.int .u8 0)]]
def laid_lateen_lateenref05_words {H : Type} : DataW H := .agg [.lit (.string []), .lit (.string [97, 100, 100]), .lit (.string [115, 117, 98]), .lit (.string [109, 117, 108]), .lit (.string [100, 105, 118]), .lit (.string [114, 101, 109]), .lit (.string [97, 110, 100]), .lit (.string [111, 114]), .lit (.string [120, 111, 114]), .lit (.string [115, 104, 108]), .lit (.string [115, 104, 114]), .lit (.string [101, 113]), .lit (.string [110, 101]), .lit (.string [108, 116]), .lit (.string [108, 101]), .lit (.string [102, 97, 100, 100]), .lit (.string [102, 115, 117, 98]), .lit (.string [102, 109, 117, 108]), .lit (.string [102, 100, 105, 118]), .lit (.string [102, 101, 113]), .lit (.string [102, 108, 116]), .lit (.string [102, 108, 101]), .lit (.string [105, 116, 111, 102]), .lit (.string [102, 116, 111, 105]), .lit (.string [109, 111, 118]), .lit (.string [110, 101, 119]), .lit (.string [108, 111, 97, 100]), .lit (.string [115, 116, 111, 114, 101]), .lit (.string [115, 97, 109, 101]), .lit (.string [103, 108, 111, 97, 100]), .lit (.string [103, 115, 116, 111, 114, 101]), .lit (.string [99, 97, 108, 108]), .lit (.string [101, 120, 116]), .lit (.string [111, 117, 116]), .lit (.string [103, 117, 97, 114, 100])]
/-- One of Go's own tables, pinned by name: the form's constant. -/
def laid_unicode_utf8_first : DataW Unit := Go.Pinned.utf8First

/-- 'lateenlaw14.CheckSources': WHATEVER THE INPUT: true; the input reads as it did. -/
def checkSourcesSpec : ChangeSpec := { name := "checkSources", fn := fun _ => fun
  | [d] => { results := [.lit (.bool true)], args := [d] }
  | _ => none }
def checkSourcesRow : OpenClaim := { program := "ythhkhcolidkemaagreatdoor", sum := "d67c41519871403843655e6bac08156dc515999e8dfa3aa2e506b2c1de8b9c60", func := "lateen/lateenlaw14.CheckSources", spec := "checkSources", inPlace := ["internal/bytealg.CountString", "internal/bytealg.IndexByteString", "internal/bytealg.IndexString", "maps.clone"], unfollowed := true, recurses := true, named := ["unicode/utf8.first", "unicode/utf8.acceptRanges", "internal/bytealg.MaxLen", "lateen/lateenref05.words"], apart := false, laid := [("unicode/utf8.acceptRanges", laid_unicode_utf8_acceptRanges), ("lateen/lateenref05.words", laid_lateen_lateenref05_words), ("unicode/utf8.first", laid_unicode_utf8_first)] }
def CheckSourcesSaid : Prop := checkSourcesRow.holds Tryz.pinned (OpenSpec.ofChange checkSourcesSpec)

/-- ITS FALSE NEIGHBOUR: 'it returns false'. Refute it at one input. -/
def checkSourcesWrong : ChangeSpec := { name := "checkSources", fn := fun _ => fun
  | [d] => { results := [.lit (.bool false)], args := [d] }
  | _ => none }
def CheckSourcesWrongFalsely : Prop := checkSourcesRow.holds Tryz.pinned (OpenSpec.ofChange checkSourcesWrong)

/-- 'lateenlaw14.CheckTexts': WHATEVER THE INPUT: true; the input reads as it did. -/
def checkTextsSpec : ChangeSpec := { name := "checkTexts", fn := fun _ => fun
  | [d] => { results := [.lit (.bool true)], args := [d] }
  | _ => none }
def checkTextsRow : OpenClaim := { program := "ythhkhcolidkemaagreatdoor", sum := "d67c41519871403843655e6bac08156dc515999e8dfa3aa2e506b2c1de8b9c60", func := "lateen/lateenlaw14.CheckTexts", spec := "checkTexts", inPlace := ["internal/bytealg.CountString", "internal/bytealg.IndexByteString", "internal/bytealg.IndexString", "maps.clone"], unfollowed := true, recurses := true, named := ["unicode/utf8.first", "unicode/utf8.acceptRanges", "internal/bytealg.MaxLen", "lateen/lateenref05.words"], apart := false, laid := [("unicode/utf8.acceptRanges", laid_unicode_utf8_acceptRanges), ("lateen/lateenref05.words", laid_lateen_lateenref05_words), ("unicode/utf8.first", laid_unicode_utf8_first)] }
def CheckTextsSaid : Prop := checkTextsRow.holds Tryz.pinned (OpenSpec.ofChange checkTextsSpec)

/-- ITS FALSE NEIGHBOUR: 'it returns false'. Refute it at one input. -/
def checkTextsWrong : ChangeSpec := { name := "checkTexts", fn := fun _ => fun
  | [d] => { results := [.lit (.bool false)], args := [d] }
  | _ => none }
def CheckTextsWrongFalsely : Prop := checkTextsRow.holds Tryz.pinned (OpenSpec.ofChange checkTextsWrong)

/-- 'lateenlaw14.CheckLess': WHATEVER THE INPUT: true; the input reads as it did. -/
def checkLessSpec : ChangeSpec := { name := "checkLess", fn := fun _ => fun
  | [d] => { results := [.lit (.bool true)], args := [d] }
  | _ => none }
def checkLessRow : OpenClaim := { program := "ythhkhcolidkemaagreatdoor", sum := "d67c41519871403843655e6bac08156dc515999e8dfa3aa2e506b2c1de8b9c60", func := "lateen/lateenlaw14.CheckLess", spec := "checkLess", inPlace := ["internal/bytealg.CountString", "internal/bytealg.IndexByteString", "internal/bytealg.IndexString", "maps.clone"], unfollowed := true, recurses := true, named := ["unicode/utf8.first", "unicode/utf8.acceptRanges", "internal/bytealg.MaxLen"], apart := false, laid := [("unicode/utf8.acceptRanges", laid_unicode_utf8_acceptRanges), ("unicode/utf8.first", laid_unicode_utf8_first)] }
def CheckLessSaid : Prop := checkLessRow.holds Tryz.pinned (OpenSpec.ofChange checkLessSpec)

/-- ITS FALSE NEIGHBOUR: 'it returns false'. Refute it at one input. -/
def checkLessWrong : ChangeSpec := { name := "checkLess", fn := fun _ => fun
  | [d] => { results := [.lit (.bool false)], args := [d] }
  | _ => none }
def CheckLessWrongFalsely : Prop := checkLessRow.holds Tryz.pinned (OpenSpec.ofChange checkLessWrong)

/-- 'lateenlaw14.CheckKeeps': WHATEVER THE INPUT: true; the input reads as it did. -/
def checkKeepsSpec : ChangeSpec := { name := "checkKeeps", fn := fun _ => fun
  | [d] => { results := [.lit (.bool true)], args := [d] }
  | _ => none }
def checkKeepsRow : OpenClaim := { program := "ythhkhcolidkemaagreatdoor", sum := "d67c41519871403843655e6bac08156dc515999e8dfa3aa2e506b2c1de8b9c60", func := "lateen/lateenlaw14.CheckKeeps", spec := "checkKeeps", inPlace := ["internal/bytealg.CountString", "internal/bytealg.IndexByteString", "internal/bytealg.IndexString", "maps.clone"], unfollowed := true, recurses := true, named := ["unicode/utf8.first", "unicode/utf8.acceptRanges", "internal/bytealg.MaxLen", "lateen/lateenref05.words"], apart := false, laid := [("unicode/utf8.acceptRanges", laid_unicode_utf8_acceptRanges), ("lateen/lateenref05.words", laid_lateen_lateenref05_words), ("unicode/utf8.first", laid_unicode_utf8_first)] }
def CheckKeepsSaid : Prop := checkKeepsRow.holds Tryz.pinned (OpenSpec.ofChange checkKeepsSpec)

/-- ITS FALSE NEIGHBOUR: 'it returns false'. Refute it at one input. -/
def checkKeepsWrong : ChangeSpec := { name := "checkKeeps", fn := fun _ => fun
  | [d] => { results := [.lit (.bool false)], args := [d] }
  | _ => none }
def CheckKeepsWrongFalsely : Prop := checkKeepsRow.holds Tryz.pinned (OpenSpec.ofChange checkKeepsWrong)

/- THE SECOND FORM. 'bulk': how many values and letters a reading holds, each counted each time it is reached (what is shared counts as often as it is met; a slice's spare places count too). A statement '..UptoSaid' is the law's where the arguments, and the package variables that the reading takes, are together of bulk at most 1048576: NARROWER than '..Said'. Prove '..Said' where nothing that the law and all that it calls make is longer than what came in: it says more and counts as full. Else prove '..UptoSaid'. A law counts once. -/
mutual
def uptoBulk {H : Type} : DataW H → Nat
  | .lit (.string bytes) => bytes.length + 1
  | .lit _ => 1
  | .nil => 1
  | .ptr d => uptoBulk d + 1
  | .slice elems spare => uptoBulkAll elems + uptoBulkAll spare + 1
  | .agg parts => uptoBulkAll parts + 1
  | .iface _ d => uptoBulk d + 1
  | .map entries => uptoBulkEntries entries + 1
  | .held _ => 1
def uptoBulkAll {H : Type} : List (DataW H) → Nat
  | [] => 0
  | d :: r => uptoBulk d + uptoBulkAll r
def uptoBulkEntries {H : Type} : List (Lit × DataW H) → Nat
  | [] => 0
  | x :: r => uptoBulkEntry x + uptoBulkEntries r
def uptoBulkEntry {H : Type} : Lit × DataW H → Nat
  | (.string bytes, d) => bytes.length + uptoBulk d + 1
  | (_, d) => uptoBulk d + 1
 end
def uptoSmall : (H : Type) → List (DataW H) → Bool := fun _ ds => decide (uptoBulkAll ds ≤ 1048576)
def OpenSpec.upto (s : _root_.Go.ChangeSpec) : _root_.Go.OpenSpec := { _root_.Go.OpenSpec.ofChange s with cond := some uptoSmall }

/-- 'lateenlaw14.CheckSources', WHERE WHAT IT READS IS OF BULK AT MOST 1048576: true; the input reads as it did. -/
def checkSourcesUptoRow : OpenClaim := { program := "ythhkhcolidkemaagreatdoor", sum := "d67c41519871403843655e6bac08156dc515999e8dfa3aa2e506b2c1de8b9c60", func := "lateen/lateenlaw14.CheckSources", spec := "checkSources", inPlace := ["internal/bytealg.CountString", "internal/bytealg.IndexByteString", "internal/bytealg.IndexString", "maps.clone"], unfollowed := true, recurses := true, named := ["unicode/utf8.first", "unicode/utf8.acceptRanges", "internal/bytealg.MaxLen", "lateen/lateenref05.words"], apart := false, laid := [("unicode/utf8.acceptRanges", laid_unicode_utf8_acceptRanges), ("lateen/lateenref05.words", laid_lateen_lateenref05_words), ("unicode/utf8.first", laid_unicode_utf8_first)], narrowed := true }
def CheckSourcesUptoSaid : Prop := checkSourcesUptoRow.holds Tryz.pinned (OpenSpec.upto checkSourcesSpec)

/-- 'lateenlaw14.CheckTexts', WHERE WHAT IT READS IS OF BULK AT MOST 1048576: true; the input reads as it did. -/
def checkTextsUptoRow : OpenClaim := { program := "ythhkhcolidkemaagreatdoor", sum := "d67c41519871403843655e6bac08156dc515999e8dfa3aa2e506b2c1de8b9c60", func := "lateen/lateenlaw14.CheckTexts", spec := "checkTexts", inPlace := ["internal/bytealg.CountString", "internal/bytealg.IndexByteString", "internal/bytealg.IndexString", "maps.clone"], unfollowed := true, recurses := true, named := ["unicode/utf8.first", "unicode/utf8.acceptRanges", "internal/bytealg.MaxLen", "lateen/lateenref05.words"], apart := false, laid := [("unicode/utf8.acceptRanges", laid_unicode_utf8_acceptRanges), ("lateen/lateenref05.words", laid_lateen_lateenref05_words), ("unicode/utf8.first", laid_unicode_utf8_first)], narrowed := true }
def CheckTextsUptoSaid : Prop := checkTextsUptoRow.holds Tryz.pinned (OpenSpec.upto checkTextsSpec)

/-- 'lateenlaw14.CheckLess', WHERE WHAT IT READS IS OF BULK AT MOST 1048576: true; the input reads as it did. -/
def checkLessUptoRow : OpenClaim := { program := "ythhkhcolidkemaagreatdoor", sum := "d67c41519871403843655e6bac08156dc515999e8dfa3aa2e506b2c1de8b9c60", func := "lateen/lateenlaw14.CheckLess", spec := "checkLess", inPlace := ["internal/bytealg.CountString", "internal/bytealg.IndexByteString", "internal/bytealg.IndexString", "maps.clone"], unfollowed := true, recurses := true, named := ["unicode/utf8.first", "unicode/utf8.acceptRanges", "internal/bytealg.MaxLen"], apart := false, laid := [("unicode/utf8.acceptRanges", laid_unicode_utf8_acceptRanges), ("unicode/utf8.first", laid_unicode_utf8_first)], narrowed := true }
def CheckLessUptoSaid : Prop := checkLessUptoRow.holds Tryz.pinned (OpenSpec.upto checkLessSpec)

/-- 'lateenlaw14.CheckKeeps', WHERE WHAT IT READS IS OF BULK AT MOST 1048576: true; the input reads as it did. -/
def checkKeepsUptoRow : OpenClaim := { program := "ythhkhcolidkemaagreatdoor", sum := "d67c41519871403843655e6bac08156dc515999e8dfa3aa2e506b2c1de8b9c60", func := "lateen/lateenlaw14.CheckKeeps", spec := "checkKeeps", inPlace := ["internal/bytealg.CountString", "internal/bytealg.IndexByteString", "internal/bytealg.IndexString", "maps.clone"], unfollowed := true, recurses := true, named := ["unicode/utf8.first", "unicode/utf8.acceptRanges", "internal/bytealg.MaxLen", "lateen/lateenref05.words"], apart := false, laid := [("unicode/utf8.acceptRanges", laid_unicode_utf8_acceptRanges), ("lateen/lateenref05.words", laid_lateen_lateenref05_words), ("unicode/utf8.first", laid_unicode_utf8_first)], narrowed := true }
def CheckKeepsUptoSaid : Prop := checkKeepsUptoRow.holds Tryz.pinned (OpenSpec.upto checkKeepsSpec)

end Rows
end Go.Proofs.YthhkhcolidkemaaGreatDoor
