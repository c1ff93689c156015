/-
  No cell of these rows narrows 'for every input' (looked for: loops, veiled, ifaces, maps, wideKeys, modest, calm, conditions, laid).
  DERIVED. THE GIVEN ROWS OF THIS SEAT. 9 by the template 'for every input the law returns true; each argument reads behind the call as it read before'; 0 by the template 'total and deterministic' (their statements: YtdhdphmehjkbnaaTotals.lean).
  GIVEN WITH THE SEED: the statements are not yours to turn. If you find one false, say at which input.
  Laid BY PROGRAM, IN A SANDBOX (cutbox-rows.mjs): the forced cells as the released guide's own fill.sh prints them over the translation a7ac4cef55fc9618… (all of the seat's roots in one cut). By AI agents, Wed Nov 11 2026. No macro, syntax, notation, axiom, sorry.
-/
import Derived.Test.YtdhdphmehjkbnaaChecked
import GoSem.Claim
import GoSem.ClaimJoined
import GoSem.ClaimMapViews
import Derived.JoinedTies
import Derived.KernelRfl
namespace Go.Proofs.Ytdhdphmehjkbnaa
/- THE CELL 'sum', in the pinned program and in every row, IS THE sha256 OF THE DUMP (.gsa) THAT YtdhdphmehjkbnaaProg.lean LOADS. Nothing in Lean hashes anything: it is a label: what it is worth is what the hold of that sum in a sandbox is worth. -/
noncomputable def Try.pinned : Pinned := { name := "ytdhdphmehjkbnaa", sum := "a7ac4cef55fc9618e893a707fd5e45ee7c50e832aa4a371dffd2d69acc2aa865", checked := Try.checked }
namespace Rows
def none {H : Type} : Left H := { results := [], args := [] }

/-- 'affluxlaw18.StreamBorders': WHATEVER THE INPUT: true; the input reads as it did. -/
def streamBordersSpec : ChangeSpec := { name := "streamBorders", fn := fun _ => fun
  | [d1, d2, d3] => { results := [.lit (.bool true)], args := [d1, d2, d3] }
  | _ => none }
def streamBordersRow : OpenClaim := { program := "ytdhdphmehjkbnaa", sum := "a7ac4cef55fc9618e893a707fd5e45ee7c50e832aa4a371dffd2d69acc2aa865", func := "afflux/affluxlaw18.StreamBorders", spec := "streamBorders", unfollowed := true, recurses := true, apart := false }
def StreamBordersSaid : Prop := streamBordersRow.holds Try.pinned (OpenSpec.ofChange streamBordersSpec)

/-- ITS FALSE NEIGHBOUR: 'it returns false'. Refute it at one input. -/
def streamBordersWrong : ChangeSpec := { name := "streamBorders", fn := fun _ => fun
  | [d1, d2, d3] => { results := [.lit (.bool false)], args := [d1, d2, d3] }
  | _ => none }
def StreamBordersWrongFalsely : Prop := streamBordersRow.holds Try.pinned (OpenSpec.ofChange streamBordersWrong)

/-- 'affluxlaw18.StreamFits': WHATEVER THE INPUT: true; the input reads as it did. -/
def streamFitsSpec : ChangeSpec := { name := "streamFits", fn := fun _ => fun
  | [d1, d2] => { results := [.lit (.bool true)], args := [d1, d2] }
  | _ => none }
def streamFitsRow : OpenClaim := { program := "ytdhdphmehjkbnaa", sum := "a7ac4cef55fc9618e893a707fd5e45ee7c50e832aa4a371dffd2d69acc2aa865", func := "afflux/affluxlaw18.StreamFits", spec := "streamFits", unfollowed := true, recurses := true, apart := false }
def StreamFitsSaid : Prop := streamFitsRow.holds Try.pinned (OpenSpec.ofChange streamFitsSpec)

/-- ITS FALSE NEIGHBOUR: 'it returns false'. Refute it at one input. -/
def streamFitsWrong : ChangeSpec := { name := "streamFits", fn := fun _ => fun
  | [d1, d2] => { results := [.lit (.bool false)], args := [d1, d2] }
  | _ => none }
def StreamFitsWrongFalsely : Prop := streamFitsRow.holds Try.pinned (OpenSpec.ofChange streamFitsWrong)

/-- 'affluxlaw04.CodecLays': WHATEVER THE INPUT: true; the input reads as it did. -/
def codecLaysSpec : ChangeSpec := { name := "codecLays", fn := fun _ => fun
  | [d1, d2, d3, d4, d5] => { results := [.lit (.bool true)], args := [d1, d2, d3, d4, d5] }
  | _ => none }
def codecLaysRow : OpenClaim := { program := "ytdhdphmehjkbnaa", sum := "a7ac4cef55fc9618e893a707fd5e45ee7c50e832aa4a371dffd2d69acc2aa865", func := "afflux/affluxlaw04.CodecLays", spec := "codecLays", unfollowed := true, recurses := true, apart := false }
def CodecLaysSaid : Prop := codecLaysRow.holds Try.pinned (OpenSpec.ofChange codecLaysSpec)

/-- ITS FALSE NEIGHBOUR: 'it returns false'. Refute it at one input. -/
def codecLaysWrong : ChangeSpec := { name := "codecLays", fn := fun _ => fun
  | [d1, d2, d3, d4, d5] => { results := [.lit (.bool false)], args := [d1, d2, d3, d4, d5] }
  | _ => none }
def CodecLaysWrongFalsely : Prop := codecLaysRow.holds Try.pinned (OpenSpec.ofChange codecLaysWrong)

/-- 'affluxlaw04.CodecTakes': WHATEVER THE INPUT: true; the input reads as it did. -/
def codecTakesSpec : ChangeSpec := { name := "codecTakes", fn := fun _ => fun
  | [d1, d2] => { results := [.lit (.bool true)], args := [d1, d2] }
  | _ => none }
def codecTakesRow : OpenClaim := { program := "ytdhdphmehjkbnaa", sum := "a7ac4cef55fc9618e893a707fd5e45ee7c50e832aa4a371dffd2d69acc2aa865", func := "afflux/affluxlaw04.CodecTakes", spec := "codecTakes", unfollowed := true, recurses := true, apart := false }
def CodecTakesSaid : Prop := codecTakesRow.holds Try.pinned (OpenSpec.ofChange codecTakesSpec)

/-- ITS FALSE NEIGHBOUR: 'it returns false'. Refute it at one input. -/
def codecTakesWrong : ChangeSpec := { name := "codecTakes", fn := fun _ => fun
  | [d1, d2] => { results := [.lit (.bool false)], args := [d1, d2] }
  | _ => none }
def CodecTakesWrongFalsely : Prop := codecTakesRow.holds Try.pinned (OpenSpec.ofChange codecTakesWrong)

/-- 'affluxlaw04.CodecNone': WHATEVER THE INPUT: true; the input reads as it did. -/
def codecNoneSpec : ChangeSpec := { name := "codecNone", fn := fun _ => fun
  | [d] => { results := [.lit (.bool true)], args := [d] }
  | _ => none }
def codecNoneRow : OpenClaim := { program := "ytdhdphmehjkbnaa", sum := "a7ac4cef55fc9618e893a707fd5e45ee7c50e832aa4a371dffd2d69acc2aa865", func := "afflux/affluxlaw04.CodecNone", spec := "codecNone", unfollowed := true, recurses := true, apart := false }
def CodecNoneSaid : Prop := codecNoneRow.holds Try.pinned (OpenSpec.ofChange codecNoneSpec)

/-- ITS FALSE NEIGHBOUR: 'it returns false'. Refute it at one input. -/
def codecNoneWrong : ChangeSpec := { name := "codecNone", fn := fun _ => fun
  | [d] => { results := [.lit (.bool false)], args := [d] }
  | _ => none }
def CodecNoneWrongFalsely : Prop := codecNoneRow.holds Try.pinned (OpenSpec.ofChange codecNoneWrong)

/-- 'affluxlaw04.CodecBack': WHATEVER THE INPUT: true; the input reads as it did. -/
def codecBackSpec : ChangeSpec := { name := "codecBack", fn := fun _ => fun
  | [d1, d2, d3, d4, d5] => { results := [.lit (.bool true)], args := [d1, d2, d3, d4, d5] }
  | _ => none }
def codecBackRow : OpenClaim := { program := "ytdhdphmehjkbnaa", sum := "a7ac4cef55fc9618e893a707fd5e45ee7c50e832aa4a371dffd2d69acc2aa865", func := "afflux/affluxlaw04.CodecBack", spec := "codecBack", unfollowed := true, recurses := true, apart := false }
def CodecBackSaid : Prop := codecBackRow.holds Try.pinned (OpenSpec.ofChange codecBackSpec)

/-- ITS FALSE NEIGHBOUR: 'it returns false'. Refute it at one input. -/
def codecBackWrong : ChangeSpec := { name := "codecBack", fn := fun _ => fun
  | [d1, d2, d3, d4, d5] => { results := [.lit (.bool false)], args := [d1, d2, d3, d4, d5] }
  | _ => none }
def CodecBackWrongFalsely : Prop := codecBackRow.holds Try.pinned (OpenSpec.ofChange codecBackWrong)

/-- 'affluxlaw18.StreamLines': WHATEVER THE INPUT: true; the input reads as it did. -/
def streamLinesSpec : ChangeSpec := { name := "streamLines", fn := fun _ => fun
  | [d1, d2, d3, d4] => { results := [.lit (.bool true)], args := [d1, d2, d3, d4] }
  | _ => none }
def streamLinesRow : OpenClaim := { program := "ytdhdphmehjkbnaa", sum := "a7ac4cef55fc9618e893a707fd5e45ee7c50e832aa4a371dffd2d69acc2aa865", func := "afflux/affluxlaw18.StreamLines", spec := "streamLines", unfollowed := true, recurses := true, apart := false }
def StreamLinesSaid : Prop := streamLinesRow.holds Try.pinned (OpenSpec.ofChange streamLinesSpec)

/-- ITS FALSE NEIGHBOUR: 'it returns false'. Refute it at one input. -/
def streamLinesWrong : ChangeSpec := { name := "streamLines", fn := fun _ => fun
  | [d1, d2, d3, d4] => { results := [.lit (.bool false)], args := [d1, d2, d3, d4] }
  | _ => none }
def StreamLinesWrongFalsely : Prop := streamLinesRow.holds Try.pinned (OpenSpec.ofChange streamLinesWrong)

/-- 'affluxlaw18.StreamNone': WHATEVER THE INPUT: true; the input reads as it did. -/
def streamNoneSpec : ChangeSpec := { name := "streamNone", fn := fun _ => fun
  | [d1, d2] => { results := [.lit (.bool true)], args := [d1, d2] }
  | _ => none }
def streamNoneRow : OpenClaim := { program := "ytdhdphmehjkbnaa", sum := "a7ac4cef55fc9618e893a707fd5e45ee7c50e832aa4a371dffd2d69acc2aa865", func := "afflux/affluxlaw18.StreamNone", spec := "streamNone", unfollowed := true, recurses := true, apart := false }
def StreamNoneSaid : Prop := streamNoneRow.holds Try.pinned (OpenSpec.ofChange streamNoneSpec)

/-- ITS FALSE NEIGHBOUR: 'it returns false'. Refute it at one input. -/
def streamNoneWrong : ChangeSpec := { name := "streamNone", fn := fun _ => fun
  | [d1, d2] => { results := [.lit (.bool false)], args := [d1, d2] }
  | _ => none }
def StreamNoneWrongFalsely : Prop := streamNoneRow.holds Try.pinned (OpenSpec.ofChange streamNoneWrong)

/-- 'affluxlaw18.StreamBack': WHATEVER THE INPUT: true; the input reads as it did. -/
def streamBackSpec : ChangeSpec := { name := "streamBack", fn := fun _ => fun
  | [d1, d2, d3] => { results := [.lit (.bool true)], args := [d1, d2, d3] }
  | _ => none }
def streamBackRow : OpenClaim := { program := "ytdhdphmehjkbnaa", sum := "a7ac4cef55fc9618e893a707fd5e45ee7c50e832aa4a371dffd2d69acc2aa865", func := "afflux/affluxlaw18.StreamBack", spec := "streamBack", unfollowed := true, recurses := true, apart := false }
def StreamBackSaid : Prop := streamBackRow.holds Try.pinned (OpenSpec.ofChange streamBackSpec)

/-- ITS FALSE NEIGHBOUR: 'it returns false'. Refute it at one input. -/
def streamBackWrong : ChangeSpec := { name := "streamBack", fn := fun _ => fun
  | [d1, d2, d3] => { results := [.lit (.bool false)], args := [d1, d2, d3] }
  | _ => none }
def StreamBackWrongFalsely : Prop := streamBackRow.holds Try.pinned (OpenSpec.ofChange streamBackWrong)

/- THE SECOND FORM. 'bulk': how many values and letters a reading holds, each counted each time it is reached (what is shared counts as often as it is met; a slice's spare places count too). A statement '..UptoSaid' is the law's where the arguments, and the package variables that the reading takes, are together of bulk at most 1048576: NARROWER than '..Said'. Prove '..Said' where nothing that the law and all that it calls make is longer than what came in: it says more and counts as full. Else prove '..UptoSaid'. A law counts once. -/
mutual
def uptoBulk {H : Type} : DataW H → Nat
  | .lit (.string bytes) => bytes.length + 1
  | .lit _ => 1
  | .nil => 1
  | .ptr d => uptoBulk d + 1
  | .slice elems spare => uptoBulkAll elems + uptoBulkAll spare + 1
  | .agg parts => uptoBulkAll parts + 1
  | .iface _ d => uptoBulk d + 1
  | .map entries => uptoBulkEntries entries + 1
  | .held _ => 1
def uptoBulkAll {H : Type} : List (DataW H) → Nat
  | [] => 0
  | d :: r => uptoBulk d + uptoBulkAll r
def uptoBulkEntries {H : Type} : List (Lit × DataW H) → Nat
  | [] => 0
  | x :: r => uptoBulkEntry x + uptoBulkEntries r
def uptoBulkEntry {H : Type} : Lit × DataW H → Nat
  | (.string bytes, d) => bytes.length + uptoBulk d + 1
  | (_, d) => uptoBulk d + 1
 end
def uptoSmall : (H : Type) → List (DataW H) → Bool := fun _ ds => decide (uptoBulkAll ds ≤ 1048576)
def OpenSpec.upto (s : _root_.Go.ChangeSpec) : _root_.Go.OpenSpec := { _root_.Go.OpenSpec.ofChange s with cond := some uptoSmall }

/-- 'affluxlaw18.StreamBorders', WHERE WHAT IT READS IS OF BULK AT MOST 1048576: true; the input reads as it did. -/
def streamBordersUptoRow : OpenClaim := { program := "ytdhdphmehjkbnaa", sum := "a7ac4cef55fc9618e893a707fd5e45ee7c50e832aa4a371dffd2d69acc2aa865", func := "afflux/affluxlaw18.StreamBorders", spec := "streamBorders", unfollowed := true, recurses := true, apart := false, narrowed := true }
def StreamBordersUptoSaid : Prop := streamBordersUptoRow.holds Try.pinned (OpenSpec.upto streamBordersSpec)

/-- 'affluxlaw18.StreamFits', WHERE WHAT IT READS IS OF BULK AT MOST 1048576: true; the input reads as it did. -/
def streamFitsUptoRow : OpenClaim := { program := "ytdhdphmehjkbnaa", sum := "a7ac4cef55fc9618e893a707fd5e45ee7c50e832aa4a371dffd2d69acc2aa865", func := "afflux/affluxlaw18.StreamFits", spec := "streamFits", unfollowed := true, recurses := true, apart := false, narrowed := true }
def StreamFitsUptoSaid : Prop := streamFitsUptoRow.holds Try.pinned (OpenSpec.upto streamFitsSpec)

/-- 'affluxlaw04.CodecLays', WHERE WHAT IT READS IS OF BULK AT MOST 1048576: true; the input reads as it did. -/
def codecLaysUptoRow : OpenClaim := { program := "ytdhdphmehjkbnaa", sum := "a7ac4cef55fc9618e893a707fd5e45ee7c50e832aa4a371dffd2d69acc2aa865", func := "afflux/affluxlaw04.CodecLays", spec := "codecLays", unfollowed := true, recurses := true, apart := false, narrowed := true }
def CodecLaysUptoSaid : Prop := codecLaysUptoRow.holds Try.pinned (OpenSpec.upto codecLaysSpec)

/-- 'affluxlaw04.CodecTakes', WHERE WHAT IT READS IS OF BULK AT MOST 1048576: true; the input reads as it did. -/
def codecTakesUptoRow : OpenClaim := { program := "ytdhdphmehjkbnaa", sum := "a7ac4cef55fc9618e893a707fd5e45ee7c50e832aa4a371dffd2d69acc2aa865", func := "afflux/affluxlaw04.CodecTakes", spec := "codecTakes", unfollowed := true, recurses := true, apart := false, narrowed := true }
def CodecTakesUptoSaid : Prop := codecTakesUptoRow.holds Try.pinned (OpenSpec.upto codecTakesSpec)

/-- 'affluxlaw04.CodecNone', WHERE WHAT IT READS IS OF BULK AT MOST 1048576: true; the input reads as it did. -/
def codecNoneUptoRow : OpenClaim := { program := "ytdhdphmehjkbnaa", sum := "a7ac4cef55fc9618e893a707fd5e45ee7c50e832aa4a371dffd2d69acc2aa865", func := "afflux/affluxlaw04.CodecNone", spec := "codecNone", unfollowed := true, recurses := true, apart := false, narrowed := true }
def CodecNoneUptoSaid : Prop := codecNoneUptoRow.holds Try.pinned (OpenSpec.upto codecNoneSpec)

/-- 'affluxlaw04.CodecBack', WHERE WHAT IT READS IS OF BULK AT MOST 1048576: true; the input reads as it did. -/
def codecBackUptoRow : OpenClaim := { program := "ytdhdphmehjkbnaa", sum := "a7ac4cef55fc9618e893a707fd5e45ee7c50e832aa4a371dffd2d69acc2aa865", func := "afflux/affluxlaw04.CodecBack", spec := "codecBack", unfollowed := true, recurses := true, apart := false, narrowed := true }
def CodecBackUptoSaid : Prop := codecBackUptoRow.holds Try.pinned (OpenSpec.upto codecBackSpec)

/-- 'affluxlaw18.StreamLines', WHERE WHAT IT READS IS OF BULK AT MOST 1048576: true; the input reads as it did. -/
def streamLinesUptoRow : OpenClaim := { program := "ytdhdphmehjkbnaa", sum := "a7ac4cef55fc9618e893a707fd5e45ee7c50e832aa4a371dffd2d69acc2aa865", func := "afflux/affluxlaw18.StreamLines", spec := "streamLines", unfollowed := true, recurses := true, apart := false, narrowed := true }
def StreamLinesUptoSaid : Prop := streamLinesUptoRow.holds Try.pinned (OpenSpec.upto streamLinesSpec)

/-- 'affluxlaw18.StreamNone', WHERE WHAT IT READS IS OF BULK AT MOST 1048576: true; the input reads as it did. -/
def streamNoneUptoRow : OpenClaim := { program := "ytdhdphmehjkbnaa", sum := "a7ac4cef55fc9618e893a707fd5e45ee7c50e832aa4a371dffd2d69acc2aa865", func := "afflux/affluxlaw18.StreamNone", spec := "streamNone", unfollowed := true, recurses := true, apart := false, narrowed := true }
def StreamNoneUptoSaid : Prop := streamNoneUptoRow.holds Try.pinned (OpenSpec.upto streamNoneSpec)

/-- 'affluxlaw18.StreamBack', WHERE WHAT IT READS IS OF BULK AT MOST 1048576: true; the input reads as it did. -/
def streamBackUptoRow : OpenClaim := { program := "ytdhdphmehjkbnaa", sum := "a7ac4cef55fc9618e893a707fd5e45ee7c50e832aa4a371dffd2d69acc2aa865", func := "afflux/affluxlaw18.StreamBack", spec := "streamBack", unfollowed := true, recurses := true, apart := false, narrowed := true }
def StreamBackUptoSaid : Prop := streamBackUptoRow.holds Try.pinned (OpenSpec.upto streamBackSpec)

end Rows
end Go.Proofs.Ytdhdphmehjkbnaa
