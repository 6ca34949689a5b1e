/-
  No cell of these rows narrows 'for every input' (looked for: loops, veiled, ifaces, maps, wideKeys, modest, calm, conditions, laid).
  DERIVED. THE GIVEN ROWS OF THIS SEAT. 8 by the template 'for every input the law returns true; each argument reads behind the call as it read before'; 0 by the template 'total and deterministic' (their statements: YtelmeebpnbhoiaaTotals.lean).
  GIVEN WITH THE SEED: the statements are not yours to turn. If you find one false, say at which input.
  Laid BY PROGRAM, IN A SANDBOX (cutbox-rows.mjs): the forced cells as the released guide's own fill.sh prints them over the translation 237e4b9d422638bc… (all of the seat's roots in one cut). By AI agents, Wed Nov 11 2026. No macro, syntax, notation, axiom, sorry.
-/
import Derived.Test.YtelmeebpnbhoiaaChecked
import GoSem.Claim
import GoSem.ClaimJoined
import GoSem.ClaimMapViews
import Derived.JoinedTies
import Derived.KernelRfl
namespace Go.Proofs.Ytelmeebpnbhoiaa
/- THE CELL 'sum', in the pinned program and in every row, IS THE sha256 OF THE DUMP (.gsa) THAT YtelmeebpnbhoiaaProg.lean LOADS. Nothing in Lean hashes anything: it is a label: what it is worth is what the hold of that sum in a sandbox is worth. -/
noncomputable def Try.pinned : Pinned := { name := "ytelmeebpnbhoiaa", sum := "237e4b9d422638bcb43c9d067bcb3e25c0950397a0b98637edca3d55f1892ac6", checked := Try.checked }
namespace Rows
def none {H : Type} : Left H := { results := [], args := [] }

/-- 'commutatorlaw08.RootRoots': WHATEVER THE INPUT: true; the input reads as it did. -/
def rootRootsSpec : ChangeSpec := { name := "rootRoots", fn := fun _ => fun
  | [d] => { results := [.lit (.bool true)], args := [d] }
  | _ => none }
def rootRootsRow : OpenClaim := { program := "ytelmeebpnbhoiaa", sum := "237e4b9d422638bcb43c9d067bcb3e25c0950397a0b98637edca3d55f1892ac6", func := "commutator/commutatorlaw08.RootRoots", spec := "rootRoots", apart := false }
def RootRootsSaid : Prop := rootRootsRow.holds Try.pinned (OpenSpec.ofChange rootRootsSpec)

/-- ITS FALSE NEIGHBOUR: 'it returns false'. Refute it at one input. -/
def rootRootsWrong : ChangeSpec := { name := "rootRoots", fn := fun _ => fun
  | [d] => { results := [.lit (.bool false)], args := [d] }
  | _ => none }
def RootRootsWrongFalsely : Prop := rootRootsRow.holds Try.pinned (OpenSpec.ofChange rootRootsWrong)

/-- 'commutatorlaw08.RootRests': WHATEVER THE INPUT: true; the input reads as it did. -/
def rootRestsSpec : ChangeSpec := { name := "rootRests", fn := fun _ => fun
  | [d1, d2] => { results := [.lit (.bool true)], args := [d1, d2] }
  | _ => none }
def rootRestsRow : OpenClaim := { program := "ytelmeebpnbhoiaa", sum := "237e4b9d422638bcb43c9d067bcb3e25c0950397a0b98637edca3d55f1892ac6", func := "commutator/commutatorlaw08.RootRests", spec := "rootRests", apart := false }
def RootRestsSaid : Prop := rootRestsRow.holds Try.pinned (OpenSpec.ofChange rootRestsSpec)

/-- ITS FALSE NEIGHBOUR: 'it returns false'. Refute it at one input. -/
def rootRestsWrong : ChangeSpec := { name := "rootRests", fn := fun _ => fun
  | [d1, d2] => { results := [.lit (.bool false)], args := [d1, d2] }
  | _ => none }
def RootRestsWrongFalsely : Prop := rootRestsRow.holds Try.pinned (OpenSpec.ofChange rootRestsWrong)

/-- 'commutatorlaw08.RootScales': WHATEVER THE INPUT: true; the input reads as it did. -/
def rootScalesSpec : ChangeSpec := { name := "rootScales", fn := fun _ => fun
  | [d1, d2, d3] => { results := [.lit (.bool true)], args := [d1, d2, d3] }
  | _ => none }
def rootScalesRow : OpenClaim := { program := "ytelmeebpnbhoiaa", sum := "237e4b9d422638bcb43c9d067bcb3e25c0950397a0b98637edca3d55f1892ac6", func := "commutator/commutatorlaw08.RootScales", spec := "rootScales", apart := false }
def RootScalesSaid : Prop := rootScalesRow.holds Try.pinned (OpenSpec.ofChange rootScalesSpec)

/-- ITS FALSE NEIGHBOUR: 'it returns false'. Refute it at one input. -/
def rootScalesWrong : ChangeSpec := { name := "rootScales", fn := fun _ => fun
  | [d1, d2, d3] => { results := [.lit (.bool false)], args := [d1, d2, d3] }
  | _ => none }
def RootScalesWrongFalsely : Prop := rootScalesRow.holds Try.pinned (OpenSpec.ofChange rootScalesWrong)

/-- 'commutatorlaw08.RootSquares': WHATEVER THE INPUT: true; the input reads as it did. -/
def rootSquaresSpec : ChangeSpec := { name := "rootSquares", fn := fun _ => fun
  | [d1, d2] => { results := [.lit (.bool true)], args := [d1, d2] }
  | _ => none }
def rootSquaresRow : OpenClaim := { program := "ytelmeebpnbhoiaa", sum := "237e4b9d422638bcb43c9d067bcb3e25c0950397a0b98637edca3d55f1892ac6", func := "commutator/commutatorlaw08.RootSquares", spec := "rootSquares", apart := false }
def RootSquaresSaid : Prop := rootSquaresRow.holds Try.pinned (OpenSpec.ofChange rootSquaresSpec)

/-- ITS FALSE NEIGHBOUR: 'it returns false'. Refute it at one input. -/
def rootSquaresWrong : ChangeSpec := { name := "rootSquares", fn := fun _ => fun
  | [d1, d2] => { results := [.lit (.bool false)], args := [d1, d2] }
  | _ => none }
def RootSquaresWrongFalsely : Prop := rootSquaresRow.holds Try.pinned (OpenSpec.ofChange rootSquaresWrong)

/-- 'commutatorlaw08.RootCircle': WHATEVER THE INPUT: true; the input reads as it did. -/
def rootCircleSpec : ChangeSpec := { name := "rootCircle", fn := fun _ => fun
  | [d1, d2, d3] => { results := [.lit (.bool true)], args := [d1, d2, d3] }
  | _ => none }
def rootCircleRow : OpenClaim := { program := "ytelmeebpnbhoiaa", sum := "237e4b9d422638bcb43c9d067bcb3e25c0950397a0b98637edca3d55f1892ac6", func := "commutator/commutatorlaw08.RootCircle", spec := "rootCircle", apart := false }
def RootCircleSaid : Prop := rootCircleRow.holds Try.pinned (OpenSpec.ofChange rootCircleSpec)

/-- ITS FALSE NEIGHBOUR: 'it returns false'. Refute it at one input. -/
def rootCircleWrong : ChangeSpec := { name := "rootCircle", fn := fun _ => fun
  | [d1, d2, d3] => { results := [.lit (.bool false)], args := [d1, d2, d3] }
  | _ => none }
def RootCircleWrongFalsely : Prop := rootCircleRow.holds Try.pinned (OpenSpec.ofChange rootCircleWrong)

/-- 'commutatorlaw08.RootAxes': WHATEVER THE INPUT: true; the input reads as it did. -/
def rootAxesSpec : ChangeSpec := { name := "rootAxes", fn := fun _ => fun
  | [d1, d2] => { results := [.lit (.bool true)], args := [d1, d2] }
  | _ => none }
def rootAxesRow : OpenClaim := { program := "ytelmeebpnbhoiaa", sum := "237e4b9d422638bcb43c9d067bcb3e25c0950397a0b98637edca3d55f1892ac6", func := "commutator/commutatorlaw08.RootAxes", spec := "rootAxes", apart := false }
def RootAxesSaid : Prop := rootAxesRow.holds Try.pinned (OpenSpec.ofChange rootAxesSpec)

/-- ITS FALSE NEIGHBOUR: 'it returns false'. Refute it at one input. -/
def rootAxesWrong : ChangeSpec := { name := "rootAxes", fn := fun _ => fun
  | [d1, d2] => { results := [.lit (.bool false)], args := [d1, d2] }
  | _ => none }
def RootAxesWrongFalsely : Prop := rootAxesRow.holds Try.pinned (OpenSpec.ofChange rootAxesWrong)

/-- 'commutatorlaw08.RootLengths': WHATEVER THE INPUT: true; the input reads as it did. -/
def rootLengthsSpec : ChangeSpec := { name := "rootLengths", fn := fun _ => fun
  | [d1, d2] => { results := [.lit (.bool true)], args := [d1, d2] }
  | _ => none }
def rootLengthsRow : OpenClaim := { program := "ytelmeebpnbhoiaa", sum := "237e4b9d422638bcb43c9d067bcb3e25c0950397a0b98637edca3d55f1892ac6", func := "commutator/commutatorlaw08.RootLengths", spec := "rootLengths", apart := false }
def RootLengthsSaid : Prop := rootLengthsRow.holds Try.pinned (OpenSpec.ofChange rootLengthsSpec)

/-- ITS FALSE NEIGHBOUR: 'it returns false'. Refute it at one input. -/
def rootLengthsWrong : ChangeSpec := { name := "rootLengths", fn := fun _ => fun
  | [d1, d2] => { results := [.lit (.bool false)], args := [d1, d2] }
  | _ => none }
def RootLengthsWrongFalsely : Prop := rootLengthsRow.holds Try.pinned (OpenSpec.ofChange rootLengthsWrong)

/-- 'commutatorlaw08.RootTriangle': WHATEVER THE INPUT: true; the input reads as it did. -/
def rootTriangleSpec : ChangeSpec := { name := "rootTriangle", fn := fun _ => fun
  | [d1, d2] => { results := [.lit (.bool true)], args := [d1, d2] }
  | _ => none }
def rootTriangleRow : OpenClaim := { program := "ytelmeebpnbhoiaa", sum := "237e4b9d422638bcb43c9d067bcb3e25c0950397a0b98637edca3d55f1892ac6", func := "commutator/commutatorlaw08.RootTriangle", spec := "rootTriangle", apart := false }
def RootTriangleSaid : Prop := rootTriangleRow.holds Try.pinned (OpenSpec.ofChange rootTriangleSpec)

/-- ITS FALSE NEIGHBOUR: 'it returns false'. Refute it at one input. -/
def rootTriangleWrong : ChangeSpec := { name := "rootTriangle", fn := fun _ => fun
  | [d1, d2] => { results := [.lit (.bool false)], args := [d1, d2] }
  | _ => none }
def RootTriangleWrongFalsely : Prop := rootTriangleRow.holds Try.pinned (OpenSpec.ofChange rootTriangleWrong)

/- THE SECOND FORM. 'bulk': how many values and letters a reading holds, each counted each time it is reached (what is shared counts as often as it is met; a slice's spare places count too). A statement '..UptoSaid' is the law's where the arguments, and the package variables that the reading takes, are together of bulk at most 1048576: NARROWER than '..Said'. Prove '..Said' where nothing that the law and all that it calls make is longer than what came in: it says more and counts as full. Else prove '..UptoSaid'. A law counts once. -/
mutual
def uptoBulk {H : Type} : DataW H → Nat
  | .lit (.string bytes) => bytes.length + 1
  | .lit _ => 1
  | .nil => 1
  | .ptr d => uptoBulk d + 1
  | .slice elems spare => uptoBulkAll elems + uptoBulkAll spare + 1
  | .agg parts => uptoBulkAll parts + 1
  | .iface _ d => uptoBulk d + 1
  | .map entries => uptoBulkEntries entries + 1
  | .held _ => 1
def uptoBulkAll {H : Type} : List (DataW H) → Nat
  | [] => 0
  | d :: r => uptoBulk d + uptoBulkAll r
def uptoBulkEntries {H : Type} : List (Lit × DataW H) → Nat
  | [] => 0
  | x :: r => uptoBulkEntry x + uptoBulkEntries r
def uptoBulkEntry {H : Type} : Lit × DataW H → Nat
  | (.string bytes, d) => bytes.length + uptoBulk d + 1
  | (_, d) => uptoBulk d + 1
 end
def uptoSmall : (H : Type) → List (DataW H) → Bool := fun _ ds => decide (uptoBulkAll ds ≤ 1048576)
def OpenSpec.upto (s : _root_.Go.ChangeSpec) : _root_.Go.OpenSpec := { _root_.Go.OpenSpec.ofChange s with cond := some uptoSmall }

/-- 'commutatorlaw08.RootRoots', WHERE WHAT IT READS IS OF BULK AT MOST 1048576: true; the input reads as it did. -/
def rootRootsUptoRow : OpenClaim := { program := "ytelmeebpnbhoiaa", sum := "237e4b9d422638bcb43c9d067bcb3e25c0950397a0b98637edca3d55f1892ac6", func := "commutator/commutatorlaw08.RootRoots", spec := "rootRoots", apart := false, narrowed := true }
def RootRootsUptoSaid : Prop := rootRootsUptoRow.holds Try.pinned (OpenSpec.upto rootRootsSpec)

/-- 'commutatorlaw08.RootRests', WHERE WHAT IT READS IS OF BULK AT MOST 1048576: true; the input reads as it did. -/
def rootRestsUptoRow : OpenClaim := { program := "ytelmeebpnbhoiaa", sum := "237e4b9d422638bcb43c9d067bcb3e25c0950397a0b98637edca3d55f1892ac6", func := "commutator/commutatorlaw08.RootRests", spec := "rootRests", apart := false, narrowed := true }
def RootRestsUptoSaid : Prop := rootRestsUptoRow.holds Try.pinned (OpenSpec.upto rootRestsSpec)

/-- 'commutatorlaw08.RootScales', WHERE WHAT IT READS IS OF BULK AT MOST 1048576: true; the input reads as it did. -/
def rootScalesUptoRow : OpenClaim := { program := "ytelmeebpnbhoiaa", sum := "237e4b9d422638bcb43c9d067bcb3e25c0950397a0b98637edca3d55f1892ac6", func := "commutator/commutatorlaw08.RootScales", spec := "rootScales", apart := false, narrowed := true }
def RootScalesUptoSaid : Prop := rootScalesUptoRow.holds Try.pinned (OpenSpec.upto rootScalesSpec)

/-- 'commutatorlaw08.RootSquares', WHERE WHAT IT READS IS OF BULK AT MOST 1048576: true; the input reads as it did. -/
def rootSquaresUptoRow : OpenClaim := { program := "ytelmeebpnbhoiaa", sum := "237e4b9d422638bcb43c9d067bcb3e25c0950397a0b98637edca3d55f1892ac6", func := "commutator/commutatorlaw08.RootSquares", spec := "rootSquares", apart := false, narrowed := true }
def RootSquaresUptoSaid : Prop := rootSquaresUptoRow.holds Try.pinned (OpenSpec.upto rootSquaresSpec)

/-- 'commutatorlaw08.RootCircle', WHERE WHAT IT READS IS OF BULK AT MOST 1048576: true; the input reads as it did. -/
def rootCircleUptoRow : OpenClaim := { program := "ytelmeebpnbhoiaa", sum := "237e4b9d422638bcb43c9d067bcb3e25c0950397a0b98637edca3d55f1892ac6", func := "commutator/commutatorlaw08.RootCircle", spec := "rootCircle", apart := false, narrowed := true }
def RootCircleUptoSaid : Prop := rootCircleUptoRow.holds Try.pinned (OpenSpec.upto rootCircleSpec)

/-- 'commutatorlaw08.RootAxes', WHERE WHAT IT READS IS OF BULK AT MOST 1048576: true; the input reads as it did. -/
def rootAxesUptoRow : OpenClaim := { program := "ytelmeebpnbhoiaa", sum := "237e4b9d422638bcb43c9d067bcb3e25c0950397a0b98637edca3d55f1892ac6", func := "commutator/commutatorlaw08.RootAxes", spec := "rootAxes", apart := false, narrowed := true }
def RootAxesUptoSaid : Prop := rootAxesUptoRow.holds Try.pinned (OpenSpec.upto rootAxesSpec)

/-- 'commutatorlaw08.RootLengths', WHERE WHAT IT READS IS OF BULK AT MOST 1048576: true; the input reads as it did. -/
def rootLengthsUptoRow : OpenClaim := { program := "ytelmeebpnbhoiaa", sum := "237e4b9d422638bcb43c9d067bcb3e25c0950397a0b98637edca3d55f1892ac6", func := "commutator/commutatorlaw08.RootLengths", spec := "rootLengths", apart := false, narrowed := true }
def RootLengthsUptoSaid : Prop := rootLengthsUptoRow.holds Try.pinned (OpenSpec.upto rootLengthsSpec)

/-- 'commutatorlaw08.RootTriangle', WHERE WHAT IT READS IS OF BULK AT MOST 1048576: true; the input reads as it did. -/
def rootTriangleUptoRow : OpenClaim := { program := "ytelmeebpnbhoiaa", sum := "237e4b9d422638bcb43c9d067bcb3e25c0950397a0b98637edca3d55f1892ac6", func := "commutator/commutatorlaw08.RootTriangle", spec := "rootTriangle", apart := false, narrowed := true }
def RootTriangleUptoSaid : Prop := rootTriangleUptoRow.holds Try.pinned (OpenSpec.upto rootTriangleSpec)

end Rows
end Go.Proofs.Ytelmeebpnbhoiaa
