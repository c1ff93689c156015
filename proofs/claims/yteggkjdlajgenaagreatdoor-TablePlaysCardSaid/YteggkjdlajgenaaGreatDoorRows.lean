/-
  NARROWER THAN 'FOR EVERY INPUT', by the rows' own cells (each row's printed sentence says how): TableSteps: laid · TableScans: laid · TableSame: laid · UndoSteps: laid · UndoPlays: laid · UndoNone: laid · TablePlays: laid · UndoAll: laid.
  DERIVED. THE GIVEN ROWS OF THIS SEAT. 8 by the template 'for every input the law returns true; each argument reads behind the call as it read before'; 0 by the template 'total and deterministic' (their statements: YteggkjdlajgenaaGreatDoorTotals.lean).
  GIVEN WITH THE SEED: the statements are not yours to turn. If you find one false, say at which input.
  Laid BY PROGRAM, IN A SANDBOX (cutbox-rows.mjs): the forced cells as the released guide's own fill.sh prints them over the translation 1237483e5a57bb15… (all of the seat's roots in one cut). By AI agents, Wed Nov 11 2026. No macro, syntax, notation, axiom, sorry.
-/
import Derived.Test.YteggkjdlajgenaaGreatDoorChecked
import GoSem.PinnedTables
import GoSem.Claim
import GoSem.ClaimJoined
import GoSem.ClaimMapViews
import Derived.JoinedTies
import Derived.KernelRfl
namespace Go.Proofs.YteggkjdlajgenaaGreatDoor
/- THE CELL 'sum', in the pinned program and in every row, IS THE sha256 OF THE DUMP (.gsa) THAT YteggkjdlajgenaaGreatDoorProg.lean LOADS. Nothing in Lean hashes anything: it is a label: what it is worth is what the hold of that sum in a sandbox is worth. -/
noncomputable def Tryz.pinned : Pinned := { name := "yteggkjdlajgenaagreatdoor", sum := "1237483e5a57bb1578929b9cdb88153243822e6b416f6a16e28b71ea6a9ffd30", checked := Tryz.checked }
namespace Rows
def none {H : Type} : Left H := { results := [], args := [] }

/- WHAT THE LISTED PACKAGE-LEVEL VARIABLES READ AS WHEN THE CALL BEGINS. Each datum BY PROGRAM (the guide's laid-datum.mjs) off the statement by which the dump's own 'gosem.cut.vars' lays the variable. In a bare row this is a premise. The card (YteggkjdlajgenaaGreatDoorCards.lean) ties it to the program's text. -/
def laid_unicode_utf8_acceptRanges {H : Type} : DataW H := .agg [.agg [.lit (.int .u8 128), .lit (.int .u8 191)], .agg [.lit (.int .u8 160), .lit (.int .u8 191)], .agg [.lit (.int .u8 128), .lit (.int .u8 159)], .agg [.lit (.int .u8 144), .lit (.int .u8 191)], .agg [.lit (.int .u8 128), .lit (.int .u8 143)], .agg [.lit (.int .u8 0), .lit (.int .u8 0)], .agg [.lit (.int .u8 0), .lit (.int .u8 0)], .agg [.lit (.int .u8 0), .lit (.int .u8 0)], .agg [.lit (.int .u8 0), .lit (.int .u8 0)], .agg [.lit (.int .u8 0), .lit (.int .u8 0)], .agg [.lit (.int .u8 0), .lit (.int .u8 0)], .agg [.lit (.int .u8 0), .lit (.int .u8 0)], .agg [.lit (.int .u8 0), .lit (.int .u8 0)], .agg [.lit (.int .u8 0), .lit (.int .u8 0)], .agg [.lit (.int .u8 0), .lit (.int .u8 0)], .agg [.lit (.int .u8 0), .lit (.int .u8 0)]]
/-- One of Go's own tables, pinned by name: the form's constant. -/
def laid_unicode_utf8_first : DataW Unit := Go.Pinned.utf8First

/-- 'affluxlaw09.TableSteps': WHATEVER THE INPUT: true; the input reads as it did. -/
def tableStepsSpec : ChangeSpec := { name := "tableSteps", fn := fun _ => fun
  | [d1, d2, d3, d4, d5] => { results := [.lit (.bool true)], args := [d1, d2, d3, d4, d5] }
  | _ => none }
def tableStepsRow : OpenClaim := { program := "yteggkjdlajgenaagreatdoor", sum := "1237483e5a57bb1578929b9cdb88153243822e6b416f6a16e28b71ea6a9ffd30", func := "afflux/affluxlaw09.TableSteps", spec := "tableSteps", inPlace := ["internal/bytealg.CountString", "internal/bytealg.IndexByteString", "internal/bytealg.IndexString", "internal/abi.NoEscape", "internal/bytealg.MakeNoZero", "slices.overlaps[afflux/tree.entry[[]afflux/api.Value]]", "slices.overlaps[*afflux/tree.page[[]afflux/api.Value]]", "slices.overlaps[afflux/tree.entry[string]]", "slices.overlaps[*afflux/tree.page[string]]", "math/bits.Add64", "math/bits.Sub64"], unfollowed := true, recurses := true, named := ["internal/bytealg.MaxLen", "unicode/utf8.first", "unicode/utf8.acceptRanges"], apart := false, laid := [("unicode/utf8.acceptRanges", laid_unicode_utf8_acceptRanges), ("unicode/utf8.first", laid_unicode_utf8_first)] }
def TableStepsSaid : Prop := tableStepsRow.holds Tryz.pinned (OpenSpec.ofChange tableStepsSpec)

/-- ITS FALSE NEIGHBOUR: 'it returns false'. Refute it at one input. -/
def tableStepsWrong : ChangeSpec := { name := "tableSteps", fn := fun _ => fun
  | [d1, d2, d3, d4, d5] => { results := [.lit (.bool false)], args := [d1, d2, d3, d4, d5] }
  | _ => none }
def TableStepsWrongFalsely : Prop := tableStepsRow.holds Tryz.pinned (OpenSpec.ofChange tableStepsWrong)

/-- 'affluxlaw09.TableScans': WHATEVER THE INPUT: true; the input reads as it did. -/
def tableScansSpec : ChangeSpec := { name := "tableScans", fn := fun _ => fun
  | [d1, d2, d3, d4, d5, d6] => { results := [.lit (.bool true)], args := [d1, d2, d3, d4, d5, d6] }
  | _ => none }
def tableScansRow : OpenClaim := { program := "yteggkjdlajgenaagreatdoor", sum := "1237483e5a57bb1578929b9cdb88153243822e6b416f6a16e28b71ea6a9ffd30", func := "afflux/affluxlaw09.TableScans", spec := "tableScans", inPlace := ["internal/bytealg.CountString", "internal/bytealg.IndexByteString", "internal/bytealg.IndexString", "internal/abi.NoEscape", "internal/bytealg.MakeNoZero", "slices.overlaps[afflux/tree.entry[[]afflux/api.Value]]", "slices.overlaps[*afflux/tree.page[[]afflux/api.Value]]", "slices.overlaps[afflux/tree.entry[string]]", "slices.overlaps[*afflux/tree.page[string]]", "math/bits.Add64", "math/bits.Sub64"], unfollowed := true, recurses := true, named := ["internal/bytealg.MaxLen", "unicode/utf8.first", "unicode/utf8.acceptRanges"], apart := false, laid := [("unicode/utf8.acceptRanges", laid_unicode_utf8_acceptRanges), ("unicode/utf8.first", laid_unicode_utf8_first)] }
def TableScansSaid : Prop := tableScansRow.holds Tryz.pinned (OpenSpec.ofChange tableScansSpec)

/-- ITS FALSE NEIGHBOUR: 'it returns false'. Refute it at one input. -/
def tableScansWrong : ChangeSpec := { name := "tableScans", fn := fun _ => fun
  | [d1, d2, d3, d4, d5, d6] => { results := [.lit (.bool false)], args := [d1, d2, d3, d4, d5, d6] }
  | _ => none }
def TableScansWrongFalsely : Prop := tableScansRow.holds Tryz.pinned (OpenSpec.ofChange tableScansWrong)

/-- 'affluxlaw09.TableSame': WHATEVER THE INPUT: true; the input reads as it did. -/
def tableSameSpec : ChangeSpec := { name := "tableSame", fn := fun _ => fun
  | [d1, d2] => { results := [.lit (.bool true)], args := [d1, d2] }
  | _ => none }
def tableSameRow : OpenClaim := { program := "yteggkjdlajgenaagreatdoor", sum := "1237483e5a57bb1578929b9cdb88153243822e6b416f6a16e28b71ea6a9ffd30", func := "afflux/affluxlaw09.TableSame", spec := "tableSame", inPlace := ["internal/bytealg.CountString", "internal/bytealg.IndexByteString", "internal/bytealg.IndexString", "internal/abi.NoEscape", "internal/bytealg.MakeNoZero", "slices.overlaps[afflux/tree.entry[[]afflux/api.Value]]", "slices.overlaps[*afflux/tree.page[[]afflux/api.Value]]", "slices.overlaps[afflux/tree.entry[string]]", "slices.overlaps[*afflux/tree.page[string]]", "math/bits.Add64", "math/bits.Sub64"], unfollowed := true, recurses := true, named := ["internal/bytealg.MaxLen", "unicode/utf8.first", "unicode/utf8.acceptRanges"], apart := false, laid := [("unicode/utf8.acceptRanges", laid_unicode_utf8_acceptRanges), ("unicode/utf8.first", laid_unicode_utf8_first)] }
def TableSameSaid : Prop := tableSameRow.holds Tryz.pinned (OpenSpec.ofChange tableSameSpec)

/-- ITS FALSE NEIGHBOUR: 'it returns false'. Refute it at one input. -/
def tableSameWrong : ChangeSpec := { name := "tableSame", fn := fun _ => fun
  | [d1, d2] => { results := [.lit (.bool false)], args := [d1, d2] }
  | _ => none }
def TableSameWrongFalsely : Prop := tableSameRow.holds Tryz.pinned (OpenSpec.ofChange tableSameWrong)

/-- 'affluxlaw10.UndoSteps': WHATEVER THE INPUT: true; the input reads as it did. -/
def undoStepsSpec : ChangeSpec := { name := "undoSteps", fn := fun _ => fun
  | [d1, d2] => { results := [.lit (.bool true)], args := [d1, d2] }
  | _ => none }
def undoStepsRow : OpenClaim := { program := "yteggkjdlajgenaagreatdoor", sum := "1237483e5a57bb1578929b9cdb88153243822e6b416f6a16e28b71ea6a9ffd30", func := "afflux/affluxlaw10.UndoSteps", spec := "undoSteps", inPlace := ["internal/bytealg.CountString", "internal/bytealg.IndexByteString", "internal/bytealg.IndexString", "internal/abi.NoEscape", "internal/bytealg.MakeNoZero", "slices.overlaps[afflux/tree.entry[[]afflux/api.Value]]", "slices.overlaps[*afflux/tree.page[[]afflux/api.Value]]", "slices.overlaps[afflux/tree.entry[string]]", "slices.overlaps[*afflux/tree.page[string]]", "math/bits.Add64", "math/bits.Sub64"], unfollowed := true, recurses := true, named := ["internal/bytealg.MaxLen", "unicode/utf8.first", "unicode/utf8.acceptRanges"], apart := false, laid := [("unicode/utf8.acceptRanges", laid_unicode_utf8_acceptRanges), ("unicode/utf8.first", laid_unicode_utf8_first)] }
def UndoStepsSaid : Prop := undoStepsRow.holds Tryz.pinned (OpenSpec.ofChange undoStepsSpec)

/-- ITS FALSE NEIGHBOUR: 'it returns false'. Refute it at one input. -/
def undoStepsWrong : ChangeSpec := { name := "undoSteps", fn := fun _ => fun
  | [d1, d2] => { results := [.lit (.bool false)], args := [d1, d2] }
  | _ => none }
def UndoStepsWrongFalsely : Prop := undoStepsRow.holds Tryz.pinned (OpenSpec.ofChange undoStepsWrong)

/-- 'affluxlaw10.UndoPlays': WHATEVER THE INPUT: true; the input reads as it did. -/
def undoPlaysSpec : ChangeSpec := { name := "undoPlays", fn := fun _ => fun
  | [d] => { results := [.lit (.bool true)], args := [d] }
  | _ => none }
def undoPlaysRow : OpenClaim := { program := "yteggkjdlajgenaagreatdoor", sum := "1237483e5a57bb1578929b9cdb88153243822e6b416f6a16e28b71ea6a9ffd30", func := "afflux/affluxlaw10.UndoPlays", spec := "undoPlays", inPlace := ["internal/bytealg.CountString", "internal/bytealg.IndexByteString", "internal/bytealg.IndexString", "internal/abi.NoEscape", "internal/bytealg.MakeNoZero", "slices.overlaps[afflux/tree.entry[[]afflux/api.Value]]", "slices.overlaps[*afflux/tree.page[[]afflux/api.Value]]", "slices.overlaps[afflux/tree.entry[string]]", "slices.overlaps[*afflux/tree.page[string]]", "math/bits.Add64", "math/bits.Sub64"], unfollowed := true, recurses := true, named := ["internal/bytealg.MaxLen", "unicode/utf8.first", "unicode/utf8.acceptRanges"], apart := false, laid := [("unicode/utf8.acceptRanges", laid_unicode_utf8_acceptRanges), ("unicode/utf8.first", laid_unicode_utf8_first)] }
def UndoPlaysSaid : Prop := undoPlaysRow.holds Tryz.pinned (OpenSpec.ofChange undoPlaysSpec)

/-- ITS FALSE NEIGHBOUR: 'it returns false'. Refute it at one input. -/
def undoPlaysWrong : ChangeSpec := { name := "undoPlays", fn := fun _ => fun
  | [d] => { results := [.lit (.bool false)], args := [d] }
  | _ => none }
def UndoPlaysWrongFalsely : Prop := undoPlaysRow.holds Tryz.pinned (OpenSpec.ofChange undoPlaysWrong)

/-- 'affluxlaw10.UndoNone': WHATEVER THE INPUT: true; the input reads as it did. -/
def undoNoneSpec : ChangeSpec := { name := "undoNone", fn := fun _ => fun
  | [d1, d2, d3] => { results := [.lit (.bool true)], args := [d1, d2, d3] }
  | _ => none }
def undoNoneRow : OpenClaim := { program := "yteggkjdlajgenaagreatdoor", sum := "1237483e5a57bb1578929b9cdb88153243822e6b416f6a16e28b71ea6a9ffd30", func := "afflux/affluxlaw10.UndoNone", spec := "undoNone", inPlace := ["internal/bytealg.CountString", "internal/bytealg.IndexByteString", "internal/bytealg.IndexString", "internal/abi.NoEscape", "internal/bytealg.MakeNoZero", "slices.overlaps[afflux/tree.entry[[]afflux/api.Value]]", "slices.overlaps[*afflux/tree.page[[]afflux/api.Value]]", "slices.overlaps[afflux/tree.entry[string]]", "slices.overlaps[*afflux/tree.page[string]]", "math/bits.Add64", "math/bits.Sub64"], unfollowed := true, recurses := true, named := ["internal/bytealg.MaxLen", "unicode/utf8.first", "unicode/utf8.acceptRanges"], apart := false, laid := [("unicode/utf8.acceptRanges", laid_unicode_utf8_acceptRanges), ("unicode/utf8.first", laid_unicode_utf8_first)] }
def UndoNoneSaid : Prop := undoNoneRow.holds Tryz.pinned (OpenSpec.ofChange undoNoneSpec)

/-- ITS FALSE NEIGHBOUR: 'it returns false'. Refute it at one input. -/
def undoNoneWrong : ChangeSpec := { name := "undoNone", fn := fun _ => fun
  | [d1, d2, d3] => { results := [.lit (.bool false)], args := [d1, d2, d3] }
  | _ => none }
def UndoNoneWrongFalsely : Prop := undoNoneRow.holds Tryz.pinned (OpenSpec.ofChange undoNoneWrong)

/-- 'affluxlaw09.TablePlays': WHATEVER THE INPUT: true; the input reads as it did. -/
def tablePlaysSpec : ChangeSpec := { name := "tablePlays", fn := fun _ => fun
  | [d1, d2, d3] => { results := [.lit (.bool true)], args := [d1, d2, d3] }
  | _ => none }
def tablePlaysRow : OpenClaim := { program := "yteggkjdlajgenaagreatdoor", sum := "1237483e5a57bb1578929b9cdb88153243822e6b416f6a16e28b71ea6a9ffd30", func := "afflux/affluxlaw09.TablePlays", spec := "tablePlays", inPlace := ["internal/bytealg.CountString", "internal/bytealg.IndexByteString", "internal/bytealg.IndexString", "internal/abi.NoEscape", "internal/bytealg.MakeNoZero", "slices.overlaps[afflux/tree.entry[[]afflux/api.Value]]", "slices.overlaps[*afflux/tree.page[[]afflux/api.Value]]", "slices.overlaps[afflux/tree.entry[string]]", "slices.overlaps[*afflux/tree.page[string]]", "math/bits.Add64", "math/bits.Sub64"], unfollowed := true, recurses := true, named := ["internal/bytealg.MaxLen", "unicode/utf8.first", "unicode/utf8.acceptRanges"], apart := false, laid := [("unicode/utf8.acceptRanges", laid_unicode_utf8_acceptRanges), ("unicode/utf8.first", laid_unicode_utf8_first)] }
def TablePlaysSaid : Prop := tablePlaysRow.holds Tryz.pinned (OpenSpec.ofChange tablePlaysSpec)

/-- ITS FALSE NEIGHBOUR: 'it returns false'. Refute it at one input. -/
def tablePlaysWrong : ChangeSpec := { name := "tablePlays", fn := fun _ => fun
  | [d1, d2, d3] => { results := [.lit (.bool false)], args := [d1, d2, d3] }
  | _ => none }
def TablePlaysWrongFalsely : Prop := tablePlaysRow.holds Tryz.pinned (OpenSpec.ofChange tablePlaysWrong)

/-- 'affluxlaw10.UndoAll': WHATEVER THE INPUT: true; the input reads as it did. -/
def undoAllSpec : ChangeSpec := { name := "undoAll", fn := fun _ => fun
  | [d1, d2] => { results := [.lit (.bool true)], args := [d1, d2] }
  | _ => none }
def undoAllRow : OpenClaim := { program := "yteggkjdlajgenaagreatdoor", sum := "1237483e5a57bb1578929b9cdb88153243822e6b416f6a16e28b71ea6a9ffd30", func := "afflux/affluxlaw10.UndoAll", spec := "undoAll", inPlace := ["internal/bytealg.CountString", "internal/bytealg.IndexByteString", "internal/bytealg.IndexString", "internal/abi.NoEscape", "internal/bytealg.MakeNoZero", "slices.overlaps[afflux/tree.entry[[]afflux/api.Value]]", "slices.overlaps[*afflux/tree.page[[]afflux/api.Value]]", "slices.overlaps[afflux/tree.entry[string]]", "slices.overlaps[*afflux/tree.page[string]]", "math/bits.Add64", "math/bits.Sub64"], unfollowed := true, recurses := true, named := ["internal/bytealg.MaxLen", "unicode/utf8.first", "unicode/utf8.acceptRanges"], apart := false, laid := [("unicode/utf8.acceptRanges", laid_unicode_utf8_acceptRanges), ("unicode/utf8.first", laid_unicode_utf8_first)] }
def UndoAllSaid : Prop := undoAllRow.holds Tryz.pinned (OpenSpec.ofChange undoAllSpec)

/-- ITS FALSE NEIGHBOUR: 'it returns false'. Refute it at one input. -/
def undoAllWrong : ChangeSpec := { name := "undoAll", fn := fun _ => fun
  | [d1, d2] => { results := [.lit (.bool false)], args := [d1, d2] }
  | _ => none }
def UndoAllWrongFalsely : Prop := undoAllRow.holds Tryz.pinned (OpenSpec.ofChange undoAllWrong)

/- THE SECOND FORM. 'bulk': how many values and letters a reading holds, each counted each time it is reached (what is shared counts as often as it is met; a slice's spare places count too). A statement '..UptoSaid' is the law's where the arguments, and the package variables that the reading takes, are together of bulk at most 1048576: NARROWER than '..Said'. Prove '..Said' where nothing that the law and all that it calls make is longer than what came in: it says more and counts as full. Else prove '..UptoSaid'. A law counts once. -/
mutual
def uptoBulk {H : Type} : DataW H → Nat
  | .lit (.string bytes) => bytes.length + 1
  | .lit _ => 1
  | .nil => 1
  | .ptr d => uptoBulk d + 1
  | .slice elems spare => uptoBulkAll elems + uptoBulkAll spare + 1
  | .agg parts => uptoBulkAll parts + 1
  | .iface _ d => uptoBulk d + 1
  | .map entries => uptoBulkEntries entries + 1
  | .held _ => 1
def uptoBulkAll {H : Type} : List (DataW H) → Nat
  | [] => 0
  | d :: r => uptoBulk d + uptoBulkAll r
def uptoBulkEntries {H : Type} : List (Lit × DataW H) → Nat
  | [] => 0
  | x :: r => uptoBulkEntry x + uptoBulkEntries r
def uptoBulkEntry {H : Type} : Lit × DataW H → Nat
  | (.string bytes, d) => bytes.length + uptoBulk d + 1
  | (_, d) => uptoBulk d + 1
 end
def uptoSmall : (H : Type) → List (DataW H) → Bool := fun _ ds => decide (uptoBulkAll ds ≤ 1048576)
def OpenSpec.upto (s : _root_.Go.ChangeSpec) : _root_.Go.OpenSpec := { _root_.Go.OpenSpec.ofChange s with cond := some uptoSmall }

/-- 'affluxlaw09.TableSteps', WHERE WHAT IT READS IS OF BULK AT MOST 1048576: true; the input reads as it did. -/
def tableStepsUptoRow : OpenClaim := { program := "yteggkjdlajgenaagreatdoor", sum := "1237483e5a57bb1578929b9cdb88153243822e6b416f6a16e28b71ea6a9ffd30", func := "afflux/affluxlaw09.TableSteps", spec := "tableSteps", inPlace := ["internal/bytealg.CountString", "internal/bytealg.IndexByteString", "internal/bytealg.IndexString", "internal/abi.NoEscape", "internal/bytealg.MakeNoZero", "slices.overlaps[afflux/tree.entry[[]afflux/api.Value]]", "slices.overlaps[*afflux/tree.page[[]afflux/api.Value]]", "slices.overlaps[afflux/tree.entry[string]]", "slices.overlaps[*afflux/tree.page[string]]", "math/bits.Add64", "math/bits.Sub64"], unfollowed := true, recurses := true, named := ["internal/bytealg.MaxLen", "unicode/utf8.first", "unicode/utf8.acceptRanges"], apart := false, laid := [("unicode/utf8.acceptRanges", laid_unicode_utf8_acceptRanges), ("unicode/utf8.first", laid_unicode_utf8_first)], narrowed := true }
def TableStepsUptoSaid : Prop := tableStepsUptoRow.holds Tryz.pinned (OpenSpec.upto tableStepsSpec)

/-- 'affluxlaw09.TableScans', WHERE WHAT IT READS IS OF BULK AT MOST 1048576: true; the input reads as it did. -/
def tableScansUptoRow : OpenClaim := { program := "yteggkjdlajgenaagreatdoor", sum := "1237483e5a57bb1578929b9cdb88153243822e6b416f6a16e28b71ea6a9ffd30", func := "afflux/affluxlaw09.TableScans", spec := "tableScans", inPlace := ["internal/bytealg.CountString", "internal/bytealg.IndexByteString", "internal/bytealg.IndexString", "internal/abi.NoEscape", "internal/bytealg.MakeNoZero", "slices.overlaps[afflux/tree.entry[[]afflux/api.Value]]", "slices.overlaps[*afflux/tree.page[[]afflux/api.Value]]", "slices.overlaps[afflux/tree.entry[string]]", "slices.overlaps[*afflux/tree.page[string]]", "math/bits.Add64", "math/bits.Sub64"], unfollowed := true, recurses := true, named := ["internal/bytealg.MaxLen", "unicode/utf8.first", "unicode/utf8.acceptRanges"], apart := false, laid := [("unicode/utf8.acceptRanges", laid_unicode_utf8_acceptRanges), ("unicode/utf8.first", laid_unicode_utf8_first)], narrowed := true }
def TableScansUptoSaid : Prop := tableScansUptoRow.holds Tryz.pinned (OpenSpec.upto tableScansSpec)

/-- 'affluxlaw09.TableSame', WHERE WHAT IT READS IS OF BULK AT MOST 1048576: true; the input reads as it did. -/
def tableSameUptoRow : OpenClaim := { program := "yteggkjdlajgenaagreatdoor", sum := "1237483e5a57bb1578929b9cdb88153243822e6b416f6a16e28b71ea6a9ffd30", func := "afflux/affluxlaw09.TableSame", spec := "tableSame", inPlace := ["internal/bytealg.CountString", "internal/bytealg.IndexByteString", "internal/bytealg.IndexString", "internal/abi.NoEscape", "internal/bytealg.MakeNoZero", "slices.overlaps[afflux/tree.entry[[]afflux/api.Value]]", "slices.overlaps[*afflux/tree.page[[]afflux/api.Value]]", "slices.overlaps[afflux/tree.entry[string]]", "slices.overlaps[*afflux/tree.page[string]]", "math/bits.Add64", "math/bits.Sub64"], unfollowed := true, recurses := true, named := ["internal/bytealg.MaxLen", "unicode/utf8.first", "unicode/utf8.acceptRanges"], apart := false, laid := [("unicode/utf8.acceptRanges", laid_unicode_utf8_acceptRanges), ("unicode/utf8.first", laid_unicode_utf8_first)], narrowed := true }
def TableSameUptoSaid : Prop := tableSameUptoRow.holds Tryz.pinned (OpenSpec.upto tableSameSpec)

/-- 'affluxlaw10.UndoSteps', WHERE WHAT IT READS IS OF BULK AT MOST 1048576: true; the input reads as it did. -/
def undoStepsUptoRow : OpenClaim := { program := "yteggkjdlajgenaagreatdoor", sum := "1237483e5a57bb1578929b9cdb88153243822e6b416f6a16e28b71ea6a9ffd30", func := "afflux/affluxlaw10.UndoSteps", spec := "undoSteps", inPlace := ["internal/bytealg.CountString", "internal/bytealg.IndexByteString", "internal/bytealg.IndexString", "internal/abi.NoEscape", "internal/bytealg.MakeNoZero", "slices.overlaps[afflux/tree.entry[[]afflux/api.Value]]", "slices.overlaps[*afflux/tree.page[[]afflux/api.Value]]", "slices.overlaps[afflux/tree.entry[string]]", "slices.overlaps[*afflux/tree.page[string]]", "math/bits.Add64", "math/bits.Sub64"], unfollowed := true, recurses := true, named := ["internal/bytealg.MaxLen", "unicode/utf8.first", "unicode/utf8.acceptRanges"], apart := false, laid := [("unicode/utf8.acceptRanges", laid_unicode_utf8_acceptRanges), ("unicode/utf8.first", laid_unicode_utf8_first)], narrowed := true }
def UndoStepsUptoSaid : Prop := undoStepsUptoRow.holds Tryz.pinned (OpenSpec.upto undoStepsSpec)

/-- 'affluxlaw10.UndoPlays', WHERE WHAT IT READS IS OF BULK AT MOST 1048576: true; the input reads as it did. -/
def undoPlaysUptoRow : OpenClaim := { program := "yteggkjdlajgenaagreatdoor", sum := "1237483e5a57bb1578929b9cdb88153243822e6b416f6a16e28b71ea6a9ffd30", func := "afflux/affluxlaw10.UndoPlays", spec := "undoPlays", inPlace := ["internal/bytealg.CountString", "internal/bytealg.IndexByteString", "internal/bytealg.IndexString", "internal/abi.NoEscape", "internal/bytealg.MakeNoZero", "slices.overlaps[afflux/tree.entry[[]afflux/api.Value]]", "slices.overlaps[*afflux/tree.page[[]afflux/api.Value]]", "slices.overlaps[afflux/tree.entry[string]]", "slices.overlaps[*afflux/tree.page[string]]", "math/bits.Add64", "math/bits.Sub64"], unfollowed := true, recurses := true, named := ["internal/bytealg.MaxLen", "unicode/utf8.first", "unicode/utf8.acceptRanges"], apart := false, laid := [("unicode/utf8.acceptRanges", laid_unicode_utf8_acceptRanges), ("unicode/utf8.first", laid_unicode_utf8_first)], narrowed := true }
def UndoPlaysUptoSaid : Prop := undoPlaysUptoRow.holds Tryz.pinned (OpenSpec.upto undoPlaysSpec)

/-- 'affluxlaw10.UndoNone', WHERE WHAT IT READS IS OF BULK AT MOST 1048576: true; the input reads as it did. -/
def undoNoneUptoRow : OpenClaim := { program := "yteggkjdlajgenaagreatdoor", sum := "1237483e5a57bb1578929b9cdb88153243822e6b416f6a16e28b71ea6a9ffd30", func := "afflux/affluxlaw10.UndoNone", spec := "undoNone", inPlace := ["internal/bytealg.CountString", "internal/bytealg.IndexByteString", "internal/bytealg.IndexString", "internal/abi.NoEscape", "internal/bytealg.MakeNoZero", "slices.overlaps[afflux/tree.entry[[]afflux/api.Value]]", "slices.overlaps[*afflux/tree.page[[]afflux/api.Value]]", "slices.overlaps[afflux/tree.entry[string]]", "slices.overlaps[*afflux/tree.page[string]]", "math/bits.Add64", "math/bits.Sub64"], unfollowed := true, recurses := true, named := ["internal/bytealg.MaxLen", "unicode/utf8.first", "unicode/utf8.acceptRanges"], apart := false, laid := [("unicode/utf8.acceptRanges", laid_unicode_utf8_acceptRanges), ("unicode/utf8.first", laid_unicode_utf8_first)], narrowed := true }
def UndoNoneUptoSaid : Prop := undoNoneUptoRow.holds Tryz.pinned (OpenSpec.upto undoNoneSpec)

/-- 'affluxlaw09.TablePlays', WHERE WHAT IT READS IS OF BULK AT MOST 1048576: true; the input reads as it did. -/
def tablePlaysUptoRow : OpenClaim := { program := "yteggkjdlajgenaagreatdoor", sum := "1237483e5a57bb1578929b9cdb88153243822e6b416f6a16e28b71ea6a9ffd30", func := "afflux/affluxlaw09.TablePlays", spec := "tablePlays", inPlace := ["internal/bytealg.CountString", "internal/bytealg.IndexByteString", "internal/bytealg.IndexString", "internal/abi.NoEscape", "internal/bytealg.MakeNoZero", "slices.overlaps[afflux/tree.entry[[]afflux/api.Value]]", "slices.overlaps[*afflux/tree.page[[]afflux/api.Value]]", "slices.overlaps[afflux/tree.entry[string]]", "slices.overlaps[*afflux/tree.page[string]]", "math/bits.Add64", "math/bits.Sub64"], unfollowed := true, recurses := true, named := ["internal/bytealg.MaxLen", "unicode/utf8.first", "unicode/utf8.acceptRanges"], apart := false, laid := [("unicode/utf8.acceptRanges", laid_unicode_utf8_acceptRanges), ("unicode/utf8.first", laid_unicode_utf8_first)], narrowed := true }
def TablePlaysUptoSaid : Prop := tablePlaysUptoRow.holds Tryz.pinned (OpenSpec.upto tablePlaysSpec)

/-- 'affluxlaw10.UndoAll', WHERE WHAT IT READS IS OF BULK AT MOST 1048576: true; the input reads as it did. -/
def undoAllUptoRow : OpenClaim := { program := "yteggkjdlajgenaagreatdoor", sum := "1237483e5a57bb1578929b9cdb88153243822e6b416f6a16e28b71ea6a9ffd30", func := "afflux/affluxlaw10.UndoAll", spec := "undoAll", inPlace := ["internal/bytealg.CountString", "internal/bytealg.IndexByteString", "internal/bytealg.IndexString", "internal/abi.NoEscape", "internal/bytealg.MakeNoZero", "slices.overlaps[afflux/tree.entry[[]afflux/api.Value]]", "slices.overlaps[*afflux/tree.page[[]afflux/api.Value]]", "slices.overlaps[afflux/tree.entry[string]]", "slices.overlaps[*afflux/tree.page[string]]", "math/bits.Add64", "math/bits.Sub64"], unfollowed := true, recurses := true, named := ["internal/bytealg.MaxLen", "unicode/utf8.first", "unicode/utf8.acceptRanges"], apart := false, laid := [("unicode/utf8.acceptRanges", laid_unicode_utf8_acceptRanges), ("unicode/utf8.first", laid_unicode_utf8_first)], narrowed := true }
def UndoAllUptoSaid : Prop := undoAllUptoRow.holds Tryz.pinned (OpenSpec.upto undoAllSpec)

end Rows
end Go.Proofs.YteggkjdlajgenaaGreatDoor
