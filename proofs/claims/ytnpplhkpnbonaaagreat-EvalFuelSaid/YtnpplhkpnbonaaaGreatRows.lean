/-
  No cell of these rows narrows 'for every input' (looked for: loops, veiled, ifaces, maps, wideKeys, modest, calm, conditions, laid).
  DERIVED. THE GIVEN ROWS OF THIS SEAT. 2 by the template 'for every input the law returns true; each argument reads behind the call as it read before'; 0 by the template 'total and deterministic' (their statements: YtnpplhkpnbonaaaGreatTotals.lean).
  GIVEN WITH THE SEED: the statements are not yours to turn. If you find one false, say at which input.
  Laid BY PROGRAM, IN A SANDBOX (cutbox-rows.mjs): the forced cells as the released guide's own fill.sh prints them over the translation 6f81e56470221b49… (all of the seat's roots in one cut). By AI agents, Wed Nov 11 2026. No macro, syntax, notation, axiom, sorry.
-/
import Derived.Test.YtnpplhkpnbonaaaGreatChecked
import GoSem.Claim
import GoSem.ClaimJoined
import GoSem.ClaimMapViews
import Derived.JoinedTies
import Derived.KernelRfl
namespace Go.Proofs.YtnpplhkpnbonaaaGreat
/- THE CELL 'sum', in the pinned program and in every row, IS THE sha256 OF THE DUMP (.gsa) THAT YtnpplhkpnbonaaaGreatProg.lean LOADS. Nothing in Lean hashes anything: it is a label: what it is worth is what the hold of that sum in a sandbox is worth. -/
noncomputable def Tryz.pinned : Pinned := { name := "ytnpplhkpnbonaaagreat", sum := "6f81e56470221b49b8a713175f79c429b2167a9169e9fdbb8b3024951adfdc80", checked := Tryz.checked }
namespace Rows
def none {H : Type} : Left H := { results := [], args := [] }

/-- 'affluxlaw16.EvalFuel': WHATEVER THE INPUT: true; the input reads as it did. -/
def evalFuelSpec : ChangeSpec := { name := "evalFuel", fn := fun _ => fun
  | [d1, d2, d3, d4] => { results := [.lit (.bool true)], args := [d1, d2, d3, d4] }
  | _ => none }
def evalFuelRow : OpenClaim := { program := "ytnpplhkpnbonaaagreat", sum := "6f81e56470221b49b8a713175f79c429b2167a9169e9fdbb8b3024951adfdc80", func := "afflux/affluxlaw16.EvalFuel", spec := "evalFuel", inPlace := ["math/bits.Add64", "math/bits.Sub64"], unfollowed := true, recurses := true, apart := false }
def EvalFuelSaid : Prop := evalFuelRow.holds Tryz.pinned (OpenSpec.ofChange evalFuelSpec)

/-- ITS FALSE NEIGHBOUR: 'it returns false'. Refute it at one input. -/
def evalFuelWrong : ChangeSpec := { name := "evalFuel", fn := fun _ => fun
  | [d1, d2, d3, d4] => { results := [.lit (.bool false)], args := [d1, d2, d3, d4] }
  | _ => none }
def EvalFuelWrongFalsely : Prop := evalFuelRow.holds Tryz.pinned (OpenSpec.ofChange evalFuelWrong)

/-- 'affluxlaw16.EvalAll': WHATEVER THE INPUT: true; the input reads as it did. -/
def evalAllSpec : ChangeSpec := { name := "evalAll", fn := fun _ => fun
  | [d1, d2, d3] => { results := [.lit (.bool true)], args := [d1, d2, d3] }
  | _ => none }
def evalAllRow : OpenClaim := { program := "ytnpplhkpnbonaaagreat", sum := "6f81e56470221b49b8a713175f79c429b2167a9169e9fdbb8b3024951adfdc80", func := "afflux/affluxlaw16.EvalAll", spec := "evalAll", inPlace := ["math/bits.Add64", "math/bits.Sub64"], unfollowed := true, recurses := true, apart := false }
def EvalAllSaid : Prop := evalAllRow.holds Tryz.pinned (OpenSpec.ofChange evalAllSpec)

/-- ITS FALSE NEIGHBOUR: 'it returns false'. Refute it at one input. -/
def evalAllWrong : ChangeSpec := { name := "evalAll", fn := fun _ => fun
  | [d1, d2, d3] => { results := [.lit (.bool false)], args := [d1, d2, d3] }
  | _ => none }
def EvalAllWrongFalsely : Prop := evalAllRow.holds Tryz.pinned (OpenSpec.ofChange evalAllWrong)

/- THE SECOND FORM. 'bulk': how many values and letters a reading holds, each counted each time it is reached (what is shared counts as often as it is met; a slice's spare places count too). A statement '..UptoSaid' is the law's where the arguments, and the package variables that the reading takes, are together of bulk at most 1048576: NARROWER than '..Said'. Prove '..Said' where nothing that the law and all that it calls make is longer than what came in: it says more and counts as full. Else prove '..UptoSaid'. A law counts once. -/
mutual
def uptoBulk {H : Type} : DataW H → Nat
  | .lit (.string bytes) => bytes.length + 1
  | .lit _ => 1
  | .nil => 1
  | .ptr d => uptoBulk d + 1
  | .slice elems spare => uptoBulkAll elems + uptoBulkAll spare + 1
  | .agg parts => uptoBulkAll parts + 1
  | .iface _ d => uptoBulk d + 1
  | .map entries => uptoBulkEntries entries + 1
  | .held _ => 1
def uptoBulkAll {H : Type} : List (DataW H) → Nat
  | [] => 0
  | d :: r => uptoBulk d + uptoBulkAll r
def uptoBulkEntries {H : Type} : List (Lit × DataW H) → Nat
  | [] => 0
  | x :: r => uptoBulkEntry x + uptoBulkEntries r
def uptoBulkEntry {H : Type} : Lit × DataW H → Nat
  | (.string bytes, d) => bytes.length + uptoBulk d + 1
  | (_, d) => uptoBulk d + 1
 end
def uptoSmall : (H : Type) → List (DataW H) → Bool := fun _ ds => decide (uptoBulkAll ds ≤ 1048576)
def OpenSpec.upto (s : _root_.Go.ChangeSpec) : _root_.Go.OpenSpec := { _root_.Go.OpenSpec.ofChange s with cond := some uptoSmall }

/-- 'affluxlaw16.EvalFuel', WHERE WHAT IT READS IS OF BULK AT MOST 1048576: true; the input reads as it did. -/
def evalFuelUptoRow : OpenClaim := { program := "ytnpplhkpnbonaaagreat", sum := "6f81e56470221b49b8a713175f79c429b2167a9169e9fdbb8b3024951adfdc80", func := "afflux/affluxlaw16.EvalFuel", spec := "evalFuel", inPlace := ["math/bits.Add64", "math/bits.Sub64"], unfollowed := true, recurses := true, apart := false, narrowed := true }
def EvalFuelUptoSaid : Prop := evalFuelUptoRow.holds Tryz.pinned (OpenSpec.upto evalFuelSpec)

/-- 'affluxlaw16.EvalAll', WHERE WHAT IT READS IS OF BULK AT MOST 1048576: true; the input reads as it did. -/
def evalAllUptoRow : OpenClaim := { program := "ytnpplhkpnbonaaagreat", sum := "6f81e56470221b49b8a713175f79c429b2167a9169e9fdbb8b3024951adfdc80", func := "afflux/affluxlaw16.EvalAll", spec := "evalAll", inPlace := ["math/bits.Add64", "math/bits.Sub64"], unfollowed := true, recurses := true, apart := false, narrowed := true }
def EvalAllUptoSaid : Prop := evalAllUptoRow.holds Tryz.pinned (OpenSpec.upto evalAllSpec)

end Rows
end Go.Proofs.YtnpplhkpnbonaaaGreat
