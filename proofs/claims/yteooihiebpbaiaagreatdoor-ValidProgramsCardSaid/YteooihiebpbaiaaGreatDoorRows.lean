/-
  NARROWER THAN 'FOR EVERY INPUT', by the rows' own cells (each row's printed sentence says how): ValidPrograms: laid · ValidKeeps: laid.
  DERIVED. THE GIVEN ROWS OF THIS SEAT. 2 by the template 'for every input the law returns true; each argument reads behind the call as it read before'; 0 by the template 'total and deterministic' (their statements: YteooihiebpbaiaaGreatDoorTotals.lean).
  GIVEN WITH THE SEED: the statements are not yours to turn. If you find one false, say at which input.
  Laid BY PROGRAM, IN A SANDBOX (cutbox-rows.mjs): the forced cells as the released guide's own fill.sh prints them over the translation 4ee7a24450de0dd2… (all of the seat's roots in one cut). By AI agents, Wed Nov 11 2026. No macro, syntax, notation, axiom, sorry.
-/
import Derived.Test.YteooihiebpbaiaaGreatDoorChecked
import GoSem.PinnedTables
import GoSem.Claim
import GoSem.ClaimJoined
import GoSem.ClaimMapViews
import Derived.JoinedTies
import Derived.KernelRfl
namespace Go.Proofs.YteooihiebpbaiaaGreatDoor
/- THE CELL 'sum', in the pinned program and in every row, IS THE sha256 OF THE DUMP (.gsa) THAT YteooihiebpbaiaaGreatDoorProg.lean LOADS. Nothing in Lean hashes anything: it is a label: what it is worth is what the hold of that sum in a sandbox is worth. -/
noncomputable def Tryz.pinned : Pinned := { name := "yteooihiebpbaiaagreatdoor", sum := "4ee7a24450de0dd27ee655e31a667a27e86efd537def860084eeeef19150ed47", checked := Tryz.checked }
namespace Rows
def none {H : Type} : Left H := { results := [], args := [] }

/- WHAT THE LISTED PACKAGE-LEVEL VARIABLES READ AS WHEN THE CALL BEGINS. Each datum BY PROGRAM (the guide's laid-datum.mjs) off the statement by which the dump's own 'gosem.cut.vars' lays the variable. In a bare row this is a premise. The card (YteooihiebpbaiaaGreatDoorCards.lean) ties it to the program's text. -/
def laid_unicode_utf8_acceptRanges {H : Type} : DataW H := .agg [.agg [.lit (.int .u8 128), .lit (.int .u8 191)], .agg [.lit (.int .u8 160), .lit (.int .u8 191)], .agg [.lit (.int .u8 128), .lit (.int .u8 159)], .agg [.lit (.int .u8 144), .lit (.int .u8 191)], .agg [.lit (.int .u8 128), .lit (.int .u8 143)], .agg [.lit (.int .u8 0), .lit (.int .u8 0)], .agg [.lit (.int .u8 0), .lit (.int .u8 0)], .agg [.lit (.int .u8 0), .lit (.int .u8 0)], .agg [.lit (.int .u8 0), .lit (.int .u8 0)], .agg [.lit (.int .u8 0), .lit (.int .u8 0)], .agg [.lit (.int .u8 0), .lit (.int .u8 0)], .agg [.lit (.int .u8 0), .lit (.int .u8 0)], .agg [.lit (.int .u8 0), .lit (.int .u8 0)], .agg [.lit (.int .u8 0), .lit (.int .u8 0)], .agg [.lit (.int .u8 0), .lit (.int .u8 0)], .agg [.lit (.int .u8 0), .lit (.int .u8 0)]]
def laid_lateen_lateenref05_words {H : Type} : DataW H := .agg [.lit (.string []), .lit (.string [97, 100, 100]), .lit (.string [115, 117, 98]), .lit (.string [109, 117, 108]), .lit (.string [100, 105, 118]), .lit (.string [114, 101, 109]), .lit (.string [97, 110, 100]), .lit (.string [111, 114]), .lit (.string [120, 111, 114]), .lit (.string [115, 104, 108]), .lit (.string [115, 104, 114]), .lit (.string [101, 113]), .lit (.string [110, 101]), .lit (.string [108, 116]), .lit (.string [108, 101]), .lit (.string [102, 97, 100, 100]), .lit (.string [102, 115, 117, 98]), .lit (.string [102, 109, 117, 108]), .lit (.string [102, 100, 105, 118]), .lit (.string [102, 101, 113]), .lit (.string [102, 108, 116]), .lit (.string [102, 108, 101]), .lit (.string [105, 116, 111, 102]), .lit (.string [102, 116, 111, 105]), .lit (.string [109, 111, 118]), .lit (.string [110, 101, 119]), .lit (.string [108, 111, 97, 100]), .lit (.string [115, 116, 111, 114, 101]), .lit (.string [115, 97, 109, 101]), .lit (.string [103, 108, 111, 97, 100]), .lit (.string [103, 115, 116, 111, 114, 101]), .lit (.string [99, 97, 108, 108]), .lit (.string [101, 120, 116]), .lit (.string [111, 117, 116]), .lit (.string [103, 117, 97, 114, 100])]
/-- One of Go's own tables, pinned by name: the form's constant. -/
def laid_unicode_utf8_first : DataW Unit := Go.Pinned.utf8First

/-- 'lateenlaw18.ValidPrograms': WHATEVER THE INPUT: true; the input reads as it did. -/
def validProgramsSpec : ChangeSpec := { name := "validPrograms", fn := fun _ => fun
  | [d] => { results := [.lit (.bool true)], args := [d] }
  | _ => none }
def validProgramsRow : OpenClaim := { program := "yteooihiebpbaiaagreatdoor", sum := "4ee7a24450de0dd27ee655e31a667a27e86efd537def860084eeeef19150ed47", func := "lateen/lateenlaw18.ValidPrograms", spec := "validPrograms", inPlace := ["internal/bytealg.CountString", "internal/bytealg.IndexByteString", "internal/bytealg.IndexString", "maps.clone"], unfollowed := true, recurses := true, named := ["unicode/utf8.first", "unicode/utf8.acceptRanges", "internal/bytealg.MaxLen", "lateen/lateenref05.words"], apart := false, laid := [("unicode/utf8.acceptRanges", laid_unicode_utf8_acceptRanges), ("lateen/lateenref05.words", laid_lateen_lateenref05_words), ("unicode/utf8.first", laid_unicode_utf8_first)] }
def ValidProgramsSaid : Prop := validProgramsRow.holds Tryz.pinned (OpenSpec.ofChange validProgramsSpec)

/-- ITS FALSE NEIGHBOUR: 'it returns false'. Refute it at one input. -/
def validProgramsWrong : ChangeSpec := { name := "validPrograms", fn := fun _ => fun
  | [d] => { results := [.lit (.bool false)], args := [d] }
  | _ => none }
def ValidProgramsWrongFalsely : Prop := validProgramsRow.holds Tryz.pinned (OpenSpec.ofChange validProgramsWrong)

/-- 'lateenlaw18.ValidKeeps': WHATEVER THE INPUT: true; the input reads as it did. -/
def validKeepsSpec : ChangeSpec := { name := "validKeeps", fn := fun _ => fun
  | [d] => { results := [.lit (.bool true)], args := [d] }
  | _ => none }
def validKeepsRow : OpenClaim := { program := "yteooihiebpbaiaagreatdoor", sum := "4ee7a24450de0dd27ee655e31a667a27e86efd537def860084eeeef19150ed47", func := "lateen/lateenlaw18.ValidKeeps", spec := "validKeeps", inPlace := ["internal/bytealg.CountString", "internal/bytealg.IndexByteString", "internal/bytealg.IndexString", "maps.clone"], unfollowed := true, recurses := true, named := ["unicode/utf8.first", "unicode/utf8.acceptRanges", "internal/bytealg.MaxLen", "lateen/lateenref05.words"], apart := false, laid := [("unicode/utf8.acceptRanges", laid_unicode_utf8_acceptRanges), ("lateen/lateenref05.words", laid_lateen_lateenref05_words), ("unicode/utf8.first", laid_unicode_utf8_first)] }
def ValidKeepsSaid : Prop := validKeepsRow.holds Tryz.pinned (OpenSpec.ofChange validKeepsSpec)

/-- ITS FALSE NEIGHBOUR: 'it returns false'. Refute it at one input. -/
def validKeepsWrong : ChangeSpec := { name := "validKeeps", fn := fun _ => fun
  | [d] => { results := [.lit (.bool false)], args := [d] }
  | _ => none }
def ValidKeepsWrongFalsely : Prop := validKeepsRow.holds Tryz.pinned (OpenSpec.ofChange validKeepsWrong)

/- THE SECOND FORM. 'bulk': how many values and letters a reading holds, each counted each time it is reached (what is shared counts as often as it is met; a slice's spare places count too). A statement '..UptoSaid' is the law's where the arguments, and the package variables that the reading takes, are together of bulk at most 1048576: NARROWER than '..Said'. Prove '..Said' where nothing that the law and all that it calls make is longer than what came in: it says more and counts as full. Else prove '..UptoSaid'. A law counts once. -/
mutual
def uptoBulk {H : Type} : DataW H → Nat
  | .lit (.string bytes) => bytes.length + 1
  | .lit _ => 1
  | .nil => 1
  | .ptr d => uptoBulk d + 1
  | .slice elems spare => uptoBulkAll elems + uptoBulkAll spare + 1
  | .agg parts => uptoBulkAll parts + 1
  | .iface _ d => uptoBulk d + 1
  | .map entries => uptoBulkEntries entries + 1
  | .held _ => 1
def uptoBulkAll {H : Type} : List (DataW H) → Nat
  | [] => 0
  | d :: r => uptoBulk d + uptoBulkAll r
def uptoBulkEntries {H : Type} : List (Lit × DataW H) → Nat
  | [] => 0
  | x :: r => uptoBulkEntry x + uptoBulkEntries r
def uptoBulkEntry {H : Type} : Lit × DataW H → Nat
  | (.string bytes, d) => bytes.length + uptoBulk d + 1
  | (_, d) => uptoBulk d + 1
 end
def uptoSmall : (H : Type) → List (DataW H) → Bool := fun _ ds => decide (uptoBulkAll ds ≤ 1048576)
def OpenSpec.upto (s : _root_.Go.ChangeSpec) : _root_.Go.OpenSpec := { _root_.Go.OpenSpec.ofChange s with cond := some uptoSmall }

/-- 'lateenlaw18.ValidPrograms', WHERE WHAT IT READS IS OF BULK AT MOST 1048576: true; the input reads as it did. -/
def validProgramsUptoRow : OpenClaim := { program := "yteooihiebpbaiaagreatdoor", sum := "4ee7a24450de0dd27ee655e31a667a27e86efd537def860084eeeef19150ed47", func := "lateen/lateenlaw18.ValidPrograms", spec := "validPrograms", inPlace := ["internal/bytealg.CountString", "internal/bytealg.IndexByteString", "internal/bytealg.IndexString", "maps.clone"], unfollowed := true, recurses := true, named := ["unicode/utf8.first", "unicode/utf8.acceptRanges", "internal/bytealg.MaxLen", "lateen/lateenref05.words"], apart := false, laid := [("unicode/utf8.acceptRanges", laid_unicode_utf8_acceptRanges), ("lateen/lateenref05.words", laid_lateen_lateenref05_words), ("unicode/utf8.first", laid_unicode_utf8_first)], narrowed := true }
def ValidProgramsUptoSaid : Prop := validProgramsUptoRow.holds Tryz.pinned (OpenSpec.upto validProgramsSpec)

/-- 'lateenlaw18.ValidKeeps', WHERE WHAT IT READS IS OF BULK AT MOST 1048576: true; the input reads as it did. -/
def validKeepsUptoRow : OpenClaim := { program := "yteooihiebpbaiaagreatdoor", sum := "4ee7a24450de0dd27ee655e31a667a27e86efd537def860084eeeef19150ed47", func := "lateen/lateenlaw18.ValidKeeps", spec := "validKeeps", inPlace := ["internal/bytealg.CountString", "internal/bytealg.IndexByteString", "internal/bytealg.IndexString", "maps.clone"], unfollowed := true, recurses := true, named := ["unicode/utf8.first", "unicode/utf8.acceptRanges", "internal/bytealg.MaxLen", "lateen/lateenref05.words"], apart := false, laid := [("unicode/utf8.acceptRanges", laid_unicode_utf8_acceptRanges), ("lateen/lateenref05.words", laid_lateen_lateenref05_words), ("unicode/utf8.first", laid_unicode_utf8_first)], narrowed := true }
def ValidKeepsUptoSaid : Prop := validKeepsUptoRow.holds Tryz.pinned (OpenSpec.upto validKeepsSpec)

end Rows
end Go.Proofs.YteooihiebpbaiaaGreatDoor
