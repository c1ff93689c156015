/-
  No cell of these rows narrows 'for every input' (looked for: loops, veiled, ifaces, maps, wideKeys, modest, calm, conditions, laid).
  DERIVED. THE GIVEN ROWS OF THIS SEAT. 4 by the template 'for every input the law returns true; each argument reads behind the call as it read before'; 0 by the template 'total and deterministic' (their statements: YtfnndifckgjmjaaTotals.lean).
  GIVEN WITH THE SEED: the statements are not yours to turn. If you find one false, say at which input.
  Laid BY PROGRAM, IN A SANDBOX (cutbox-rows.mjs): the forced cells as the released guide's own fill.sh prints them over the translation 1d45604fb1e8fb2c… (all of the seat's roots in one cut). By AI agents, Wed Nov 11 2026. No macro, syntax, notation, axiom, sorry.
-/
import Derived.Test.YtfnndifckgjmjaaChecked
import GoSem.Claim
import GoSem.ClaimJoined
import GoSem.ClaimMapViews
import Derived.JoinedTies
import Derived.KernelRfl
namespace Go.Proofs.Ytfnndifckgjmjaa
/- THE CELL 'sum', in the pinned program and in every row, IS THE sha256 OF THE DUMP (.gsa) THAT YtfnndifckgjmjaaProg.lean LOADS. Nothing in Lean hashes anything: it is a label: what it is worth is what the hold of that sum in a sandbox is worth. -/
noncomputable def Try.pinned : Pinned := { name := "ytfnndifckgjmjaa", sum := "1d45604fb1e8fb2cd6b93c1fa5a837fe65101088dcec5ece6ba7c760b194a896", checked := Try.checked }
namespace Rows
def none {H : Type} : Left H := { results := [], args := [] }

/-- 'affluxlaw08.TreeKeys': WHATEVER THE INPUT: true; the input reads as it did. -/
def treeKeysSpec : ChangeSpec := { name := "treeKeys", fn := fun _ => fun
  | [d1, d2, d3, d4] => { results := [.lit (.bool true)], args := [d1, d2, d3, d4] }
  | _ => none }
def treeKeysRow : OpenClaim := { program := "ytfnndifckgjmjaa", sum := "1d45604fb1e8fb2cd6b93c1fa5a837fe65101088dcec5ece6ba7c760b194a896", func := "afflux/affluxlaw08.TreeKeys", spec := "treeKeys", inPlace := ["slices.overlaps[afflux/tree.entry[int]]", "slices.overlaps[*afflux/tree.page[int]]"], unfollowed := true, recurses := true, apart := false }
def TreeKeysSaid : Prop := treeKeysRow.holds Try.pinned (OpenSpec.ofChange treeKeysSpec)

/-- ITS FALSE NEIGHBOUR: 'it returns false'. Refute it at one input. -/
def treeKeysWrong : ChangeSpec := { name := "treeKeys", fn := fun _ => fun
  | [d1, d2, d3, d4] => { results := [.lit (.bool false)], args := [d1, d2, d3, d4] }
  | _ => none }
def TreeKeysWrongFalsely : Prop := treeKeysRow.holds Try.pinned (OpenSpec.ofChange treeKeysWrong)

/-- 'affluxlaw08.TreeTurned': WHATEVER THE INPUT: true; the input reads as it did. -/
def treeTurnedSpec : ChangeSpec := { name := "treeTurned", fn := fun _ => fun
  | [d1, d2] => { results := [.lit (.bool true)], args := [d1, d2] }
  | _ => none }
def treeTurnedRow : OpenClaim := { program := "ytfnndifckgjmjaa", sum := "1d45604fb1e8fb2cd6b93c1fa5a837fe65101088dcec5ece6ba7c760b194a896", func := "afflux/affluxlaw08.TreeTurned", spec := "treeTurned", inPlace := ["slices.overlaps[afflux/tree.entry[int]]", "slices.overlaps[*afflux/tree.page[int]]", "slices.overlaps[afflux/tree.entry[string]]", "slices.overlaps[*afflux/tree.page[string]]"], unfollowed := true, recurses := true, apart := false }
def TreeTurnedSaid : Prop := treeTurnedRow.holds Try.pinned (OpenSpec.ofChange treeTurnedSpec)

/-- ITS FALSE NEIGHBOUR: 'it returns false'. Refute it at one input. -/
def treeTurnedWrong : ChangeSpec := { name := "treeTurned", fn := fun _ => fun
  | [d1, d2] => { results := [.lit (.bool false)], args := [d1, d2] }
  | _ => none }
def TreeTurnedWrongFalsely : Prop := treeTurnedRow.holds Try.pinned (OpenSpec.ofChange treeTurnedWrong)

/-- 'affluxlaw08.TreePlays': WHATEVER THE INPUT: true; the input reads as it did. -/
def treePlaysSpec : ChangeSpec := { name := "treePlays", fn := fun _ => fun
  | [d1, d2] => { results := [.lit (.bool true)], args := [d1, d2] }
  | _ => none }
def treePlaysRow : OpenClaim := { program := "ytfnndifckgjmjaa", sum := "1d45604fb1e8fb2cd6b93c1fa5a837fe65101088dcec5ece6ba7c760b194a896", func := "afflux/affluxlaw08.TreePlays", spec := "treePlays", inPlace := ["slices.overlaps[afflux/tree.entry[int]]", "slices.overlaps[*afflux/tree.page[int]]"], unfollowed := true, recurses := true, apart := false }
def TreePlaysSaid : Prop := treePlaysRow.holds Try.pinned (OpenSpec.ofChange treePlaysSpec)

/-- ITS FALSE NEIGHBOUR: 'it returns false'. Refute it at one input. -/
def treePlaysWrong : ChangeSpec := { name := "treePlays", fn := fun _ => fun
  | [d1, d2] => { results := [.lit (.bool false)], args := [d1, d2] }
  | _ => none }
def TreePlaysWrongFalsely : Prop := treePlaysRow.holds Try.pinned (OpenSpec.ofChange treePlaysWrong)

/-- 'affluxlaw08.TreeNone': WHATEVER THE INPUT: true; the input reads as it did. -/
def treeNoneSpec : ChangeSpec := { name := "treeNone", fn := fun _ => fun
  | [d1, d2] => { results := [.lit (.bool true)], args := [d1, d2] }
  | _ => none }
def treeNoneRow : OpenClaim := { program := "ytfnndifckgjmjaa", sum := "1d45604fb1e8fb2cd6b93c1fa5a837fe65101088dcec5ece6ba7c760b194a896", func := "afflux/affluxlaw08.TreeNone", spec := "treeNone", inPlace := ["slices.overlaps[afflux/tree.entry[int]]", "slices.overlaps[*afflux/tree.page[int]]"], unfollowed := true, recurses := true, apart := false }
def TreeNoneSaid : Prop := treeNoneRow.holds Try.pinned (OpenSpec.ofChange treeNoneSpec)

/-- ITS FALSE NEIGHBOUR: 'it returns false'. Refute it at one input. -/
def treeNoneWrong : ChangeSpec := { name := "treeNone", fn := fun _ => fun
  | [d1, d2] => { results := [.lit (.bool false)], args := [d1, d2] }
  | _ => none }
def TreeNoneWrongFalsely : Prop := treeNoneRow.holds Try.pinned (OpenSpec.ofChange treeNoneWrong)

/- THE SECOND FORM. 'bulk': how many values and letters a reading holds, each counted each time it is reached (what is shared counts as often as it is met; a slice's spare places count too). A statement '..UptoSaid' is the law's where the arguments, and the package variables that the reading takes, are together of bulk at most 1048576: NARROWER than '..Said'. Prove '..Said' where nothing that the law and all that it calls make is longer than what came in: it says more and counts as full. Else prove '..UptoSaid'. A law counts once. -/
mutual
def uptoBulk {H : Type} : DataW H → Nat
  | .lit (.string bytes) => bytes.length + 1
  | .lit _ => 1
  | .nil => 1
  | .ptr d => uptoBulk d + 1
  | .slice elems spare => uptoBulkAll elems + uptoBulkAll spare + 1
  | .agg parts => uptoBulkAll parts + 1
  | .iface _ d => uptoBulk d + 1
  | .map entries => uptoBulkEntries entries + 1
  | .held _ => 1
def uptoBulkAll {H : Type} : List (DataW H) → Nat
  | [] => 0
  | d :: r => uptoBulk d + uptoBulkAll r
def uptoBulkEntries {H : Type} : List (Lit × DataW H) → Nat
  | [] => 0
  | x :: r => uptoBulkEntry x + uptoBulkEntries r
def uptoBulkEntry {H : Type} : Lit × DataW H → Nat
  | (.string bytes, d) => bytes.length + uptoBulk d + 1
  | (_, d) => uptoBulk d + 1
 end
def uptoSmall : (H : Type) → List (DataW H) → Bool := fun _ ds => decide (uptoBulkAll ds ≤ 1048576)
def OpenSpec.upto (s : _root_.Go.ChangeSpec) : _root_.Go.OpenSpec := { _root_.Go.OpenSpec.ofChange s with cond := some uptoSmall }

/-- 'affluxlaw08.TreeKeys', WHERE WHAT IT READS IS OF BULK AT MOST 1048576: true; the input reads as it did. -/
def treeKeysUptoRow : OpenClaim := { program := "ytfnndifckgjmjaa", sum := "1d45604fb1e8fb2cd6b93c1fa5a837fe65101088dcec5ece6ba7c760b194a896", func := "afflux/affluxlaw08.TreeKeys", spec := "treeKeys", inPlace := ["slices.overlaps[afflux/tree.entry[int]]", "slices.overlaps[*afflux/tree.page[int]]"], unfollowed := true, recurses := true, apart := false, narrowed := true }
def TreeKeysUptoSaid : Prop := treeKeysUptoRow.holds Try.pinned (OpenSpec.upto treeKeysSpec)

/-- 'affluxlaw08.TreeTurned', WHERE WHAT IT READS IS OF BULK AT MOST 1048576: true; the input reads as it did. -/
def treeTurnedUptoRow : OpenClaim := { program := "ytfnndifckgjmjaa", sum := "1d45604fb1e8fb2cd6b93c1fa5a837fe65101088dcec5ece6ba7c760b194a896", func := "afflux/affluxlaw08.TreeTurned", spec := "treeTurned", inPlace := ["slices.overlaps[afflux/tree.entry[int]]", "slices.overlaps[*afflux/tree.page[int]]", "slices.overlaps[afflux/tree.entry[string]]", "slices.overlaps[*afflux/tree.page[string]]"], unfollowed := true, recurses := true, apart := false, narrowed := true }
def TreeTurnedUptoSaid : Prop := treeTurnedUptoRow.holds Try.pinned (OpenSpec.upto treeTurnedSpec)

/-- 'affluxlaw08.TreePlays', WHERE WHAT IT READS IS OF BULK AT MOST 1048576: true; the input reads as it did. -/
def treePlaysUptoRow : OpenClaim := { program := "ytfnndifckgjmjaa", sum := "1d45604fb1e8fb2cd6b93c1fa5a837fe65101088dcec5ece6ba7c760b194a896", func := "afflux/affluxlaw08.TreePlays", spec := "treePlays", inPlace := ["slices.overlaps[afflux/tree.entry[int]]", "slices.overlaps[*afflux/tree.page[int]]"], unfollowed := true, recurses := true, apart := false, narrowed := true }
def TreePlaysUptoSaid : Prop := treePlaysUptoRow.holds Try.pinned (OpenSpec.upto treePlaysSpec)

/-- 'affluxlaw08.TreeNone', WHERE WHAT IT READS IS OF BULK AT MOST 1048576: true; the input reads as it did. -/
def treeNoneUptoRow : OpenClaim := { program := "ytfnndifckgjmjaa", sum := "1d45604fb1e8fb2cd6b93c1fa5a837fe65101088dcec5ece6ba7c760b194a896", func := "afflux/affluxlaw08.TreeNone", spec := "treeNone", inPlace := ["slices.overlaps[afflux/tree.entry[int]]", "slices.overlaps[*afflux/tree.page[int]]"], unfollowed := true, recurses := true, apart := false, narrowed := true }
def TreeNoneUptoSaid : Prop := treeNoneUptoRow.holds Try.pinned (OpenSpec.upto treeNoneSpec)

end Rows
end Go.Proofs.Ytfnndifckgjmjaa
