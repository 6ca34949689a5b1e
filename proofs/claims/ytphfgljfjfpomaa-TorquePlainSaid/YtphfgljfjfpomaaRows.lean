/-
  No cell of these rows narrows 'for every input' (looked for: loops, veiled, ifaces, maps, wideKeys, modest, calm, conditions, laid).
  DERIVED. THE GIVEN ROWS OF THIS SEAT. 6 by the template 'for every input the law returns true; each argument reads behind the call as it read before'; 0 by the template 'total and deterministic' (their statements: YtphfgljfjfpomaaTotals.lean).
  GIVEN WITH THE SEED: the statements are not yours to turn. If you find one false, say at which input.
  Laid BY PROGRAM, IN A SANDBOX (cutbox-rows.mjs): the forced cells as the released guide's own fill.sh prints them over the translation 730ca5daa3efc20f… (all of the seat's roots in one cut). By AI agents, Wed Nov 11 2026. No macro, syntax, notation, axiom, sorry.
-/
import Derived.Test.YtphfgljfjfpomaaChecked
import GoSem.Claim
import GoSem.ClaimJoined
import GoSem.ClaimMapViews
import Derived.JoinedTies
import Derived.KernelRfl
namespace Go.Proofs.Ytphfgljfjfpomaa
/- THE CELL 'sum', in the pinned program and in every row, IS THE sha256 OF THE DUMP (.gsa) THAT YtphfgljfjfpomaaProg.lean LOADS. Nothing in Lean hashes anything: it is a label: what it is worth is what the hold of that sum in a sandbox is worth. -/
noncomputable def Try.pinned : Pinned := { name := "ytphfgljfjfpomaa", sum := "730ca5daa3efc20f7bd7871f7e9ed1ae711465cb05d88a8f5d10dd059cac05cc", checked := Try.checked }
namespace Rows
def none {H : Type} : Left H := { results := [], args := [] }

/-- 'commutatorlaw36.TorqueCircle': WHATEVER THE INPUT: true; the input reads as it did. -/
def torqueCircleSpec : ChangeSpec := { name := "torqueCircle", fn := fun _ => fun
  | [d1, d2, d3] => { results := [.lit (.bool true)], args := [d1, d2, d3] }
  | _ => none }
def torqueCircleRow : OpenClaim := { program := "ytphfgljfjfpomaa", sum := "730ca5daa3efc20f7bd7871f7e9ed1ae711465cb05d88a8f5d10dd059cac05cc", func := "commutator/commutatorlaw36.TorqueCircle", spec := "torqueCircle", unfollowed := true, recurses := true, apart := false }
def TorqueCircleSaid : Prop := torqueCircleRow.holds Try.pinned (OpenSpec.ofChange torqueCircleSpec)

/-- ITS FALSE NEIGHBOUR: 'it returns false'. Refute it at one input. -/
def torqueCircleWrong : ChangeSpec := { name := "torqueCircle", fn := fun _ => fun
  | [d1, d2, d3] => { results := [.lit (.bool false)], args := [d1, d2, d3] }
  | _ => none }
def TorqueCircleWrongFalsely : Prop := torqueCircleRow.holds Try.pinned (OpenSpec.ofChange torqueCircleWrong)

/-- 'commutatorlaw36.TorquePlain': WHATEVER THE INPUT: true; the input reads as it did. -/
def torquePlainSpec : ChangeSpec := { name := "torquePlain", fn := fun _ => fun
  | [d1, d2] => { results := [.lit (.bool true)], args := [d1, d2] }
  | _ => none }
def torquePlainRow : OpenClaim := { program := "ytphfgljfjfpomaa", sum := "730ca5daa3efc20f7bd7871f7e9ed1ae711465cb05d88a8f5d10dd059cac05cc", func := "commutator/commutatorlaw36.TorquePlain", spec := "torquePlain", unfollowed := true, recurses := true, apart := false }
def TorquePlainSaid : Prop := torquePlainRow.holds Try.pinned (OpenSpec.ofChange torquePlainSpec)

/-- ITS FALSE NEIGHBOUR: 'it returns false'. Refute it at one input. -/
def torquePlainWrong : ChangeSpec := { name := "torquePlain", fn := fun _ => fun
  | [d1, d2] => { results := [.lit (.bool false)], args := [d1, d2] }
  | _ => none }
def TorquePlainWrongFalsely : Prop := torquePlainRow.holds Try.pinned (OpenSpec.ofChange torquePlainWrong)

/-- 'commutatorlaw36.TorqueComputes': WHATEVER THE INPUT: true; the input reads as it did. -/
def torqueComputesSpec : ChangeSpec := { name := "torqueComputes", fn := fun _ => fun
  | [d1, d2, d3] => { results := [.lit (.bool true)], args := [d1, d2, d3] }
  | _ => none }
def torqueComputesRow : OpenClaim := { program := "ytphfgljfjfpomaa", sum := "730ca5daa3efc20f7bd7871f7e9ed1ae711465cb05d88a8f5d10dd059cac05cc", func := "commutator/commutatorlaw36.TorqueComputes", spec := "torqueComputes", unfollowed := true, recurses := true, apart := false }
def TorqueComputesSaid : Prop := torqueComputesRow.holds Try.pinned (OpenSpec.ofChange torqueComputesSpec)

/-- ITS FALSE NEIGHBOUR: 'it returns false'. Refute it at one input. -/
def torqueComputesWrong : ChangeSpec := { name := "torqueComputes", fn := fun _ => fun
  | [d1, d2, d3] => { results := [.lit (.bool false)], args := [d1, d2, d3] }
  | _ => none }
def TorqueComputesWrongFalsely : Prop := torqueComputesRow.holds Try.pinned (OpenSpec.ofChange torqueComputesWrong)

/-- 'commutatorlaw36.TorqueLimits': WHATEVER THE INPUT: true; the input reads as it did. -/
def torqueLimitsSpec : ChangeSpec := { name := "torqueLimits", fn := fun _ => fun
  | [d1, d2, d3] => { results := [.lit (.bool true)], args := [d1, d2, d3] }
  | _ => none }
def torqueLimitsRow : OpenClaim := { program := "ytphfgljfjfpomaa", sum := "730ca5daa3efc20f7bd7871f7e9ed1ae711465cb05d88a8f5d10dd059cac05cc", func := "commutator/commutatorlaw36.TorqueLimits", spec := "torqueLimits", unfollowed := true, recurses := true, apart := false }
def TorqueLimitsSaid : Prop := torqueLimitsRow.holds Try.pinned (OpenSpec.ofChange torqueLimitsSpec)

/-- ITS FALSE NEIGHBOUR: 'it returns false'. Refute it at one input. -/
def torqueLimitsWrong : ChangeSpec := { name := "torqueLimits", fn := fun _ => fun
  | [d1, d2, d3] => { results := [.lit (.bool false)], args := [d1, d2, d3] }
  | _ => none }
def TorqueLimitsWrongFalsely : Prop := torqueLimitsRow.holds Try.pinned (OpenSpec.ofChange torqueLimitsWrong)

/-- 'commutatorlaw36.TorqueOdd': WHATEVER THE INPUT: true; the input reads as it did. -/
def torqueOddSpec : ChangeSpec := { name := "torqueOdd", fn := fun _ => fun
  | [d1, d2, d3] => { results := [.lit (.bool true)], args := [d1, d2, d3] }
  | _ => none }
def torqueOddRow : OpenClaim := { program := "ytphfgljfjfpomaa", sum := "730ca5daa3efc20f7bd7871f7e9ed1ae711465cb05d88a8f5d10dd059cac05cc", func := "commutator/commutatorlaw36.TorqueOdd", spec := "torqueOdd", unfollowed := true, recurses := true, apart := false }
def TorqueOddSaid : Prop := torqueOddRow.holds Try.pinned (OpenSpec.ofChange torqueOddSpec)

/-- ITS FALSE NEIGHBOUR: 'it returns false'. Refute it at one input. -/
def torqueOddWrong : ChangeSpec := { name := "torqueOdd", fn := fun _ => fun
  | [d1, d2, d3] => { results := [.lit (.bool false)], args := [d1, d2, d3] }
  | _ => none }
def TorqueOddWrongFalsely : Prop := torqueOddRow.holds Try.pinned (OpenSpec.ofChange torqueOddWrong)

/-- 'commutatorlaw36.TorqueLess': WHATEVER THE INPUT: true; the input reads as it did. -/
def torqueLessSpec : ChangeSpec := { name := "torqueLess", fn := fun _ => fun
  | [d1, d2, d3] => { results := [.lit (.bool true)], args := [d1, d2, d3] }
  | _ => none }
def torqueLessRow : OpenClaim := { program := "ytphfgljfjfpomaa", sum := "730ca5daa3efc20f7bd7871f7e9ed1ae711465cb05d88a8f5d10dd059cac05cc", func := "commutator/commutatorlaw36.TorqueLess", spec := "torqueLess", unfollowed := true, recurses := true, apart := false }
def TorqueLessSaid : Prop := torqueLessRow.holds Try.pinned (OpenSpec.ofChange torqueLessSpec)

/-- ITS FALSE NEIGHBOUR: 'it returns false'. Refute it at one input. -/
def torqueLessWrong : ChangeSpec := { name := "torqueLess", fn := fun _ => fun
  | [d1, d2, d3] => { results := [.lit (.bool false)], args := [d1, d2, d3] }
  | _ => none }
def TorqueLessWrongFalsely : Prop := torqueLessRow.holds Try.pinned (OpenSpec.ofChange torqueLessWrong)

/- THE SECOND FORM. 'bulk': how many values and letters a reading holds, each counted each time it is reached (what is shared counts as often as it is met; a slice's spare places count too). A statement '..UptoSaid' is the law's where the arguments, and the package variables that the reading takes, are together of bulk at most 1048576: NARROWER than '..Said'. Prove '..Said' where nothing that the law and all that it calls make is longer than what came in: it says more and counts as full. Else prove '..UptoSaid'. A law counts once. -/
mutual
def uptoBulk {H : Type} : DataW H → Nat
  | .lit (.string bytes) => bytes.length + 1
  | .lit _ => 1
  | .nil => 1
  | .ptr d => uptoBulk d + 1
  | .slice elems spare => uptoBulkAll elems + uptoBulkAll spare + 1
  | .agg parts => uptoBulkAll parts + 1
  | .iface _ d => uptoBulk d + 1
  | .map entries => uptoBulkEntries entries + 1
  | .held _ => 1
def uptoBulkAll {H : Type} : List (DataW H) → Nat
  | [] => 0
  | d :: r => uptoBulk d + uptoBulkAll r
def uptoBulkEntries {H : Type} : List (Lit × DataW H) → Nat
  | [] => 0
  | x :: r => uptoBulkEntry x + uptoBulkEntries r
def uptoBulkEntry {H : Type} : Lit × DataW H → Nat
  | (.string bytes, d) => bytes.length + uptoBulk d + 1
  | (_, d) => uptoBulk d + 1
 end
def uptoSmall : (H : Type) → List (DataW H) → Bool := fun _ ds => decide (uptoBulkAll ds ≤ 1048576)
def OpenSpec.upto (s : _root_.Go.ChangeSpec) : _root_.Go.OpenSpec := { _root_.Go.OpenSpec.ofChange s with cond := some uptoSmall }

/-- 'commutatorlaw36.TorqueCircle', WHERE WHAT IT READS IS OF BULK AT MOST 1048576: true; the input reads as it did. -/
def torqueCircleUptoRow : OpenClaim := { program := "ytphfgljfjfpomaa", sum := "730ca5daa3efc20f7bd7871f7e9ed1ae711465cb05d88a8f5d10dd059cac05cc", func := "commutator/commutatorlaw36.TorqueCircle", spec := "torqueCircle", unfollowed := true, recurses := true, apart := false, narrowed := true }
def TorqueCircleUptoSaid : Prop := torqueCircleUptoRow.holds Try.pinned (OpenSpec.upto torqueCircleSpec)

/-- 'commutatorlaw36.TorquePlain', WHERE WHAT IT READS IS OF BULK AT MOST 1048576: true; the input reads as it did. -/
def torquePlainUptoRow : OpenClaim := { program := "ytphfgljfjfpomaa", sum := "730ca5daa3efc20f7bd7871f7e9ed1ae711465cb05d88a8f5d10dd059cac05cc", func := "commutator/commutatorlaw36.TorquePlain", spec := "torquePlain", unfollowed := true, recurses := true, apart := false, narrowed := true }
def TorquePlainUptoSaid : Prop := torquePlainUptoRow.holds Try.pinned (OpenSpec.upto torquePlainSpec)

/-- 'commutatorlaw36.TorqueComputes', WHERE WHAT IT READS IS OF BULK AT MOST 1048576: true; the input reads as it did. -/
def torqueComputesUptoRow : OpenClaim := { program := "ytphfgljfjfpomaa", sum := "730ca5daa3efc20f7bd7871f7e9ed1ae711465cb05d88a8f5d10dd059cac05cc", func := "commutator/commutatorlaw36.TorqueComputes", spec := "torqueComputes", unfollowed := true, recurses := true, apart := false, narrowed := true }
def TorqueComputesUptoSaid : Prop := torqueComputesUptoRow.holds Try.pinned (OpenSpec.upto torqueComputesSpec)

/-- 'commutatorlaw36.TorqueLimits', WHERE WHAT IT READS IS OF BULK AT MOST 1048576: true; the input reads as it did. -/
def torqueLimitsUptoRow : OpenClaim := { program := "ytphfgljfjfpomaa", sum := "730ca5daa3efc20f7bd7871f7e9ed1ae711465cb05d88a8f5d10dd059cac05cc", func := "commutator/commutatorlaw36.TorqueLimits", spec := "torqueLimits", unfollowed := true, recurses := true, apart := false, narrowed := true }
def TorqueLimitsUptoSaid : Prop := torqueLimitsUptoRow.holds Try.pinned (OpenSpec.upto torqueLimitsSpec)

/-- 'commutatorlaw36.TorqueOdd', WHERE WHAT IT READS IS OF BULK AT MOST 1048576: true; the input reads as it did. -/
def torqueOddUptoRow : OpenClaim := { program := "ytphfgljfjfpomaa", sum := "730ca5daa3efc20f7bd7871f7e9ed1ae711465cb05d88a8f5d10dd059cac05cc", func := "commutator/commutatorlaw36.TorqueOdd", spec := "torqueOdd", unfollowed := true, recurses := true, apart := false, narrowed := true }
def TorqueOddUptoSaid : Prop := torqueOddUptoRow.holds Try.pinned (OpenSpec.upto torqueOddSpec)

/-- 'commutatorlaw36.TorqueLess', WHERE WHAT IT READS IS OF BULK AT MOST 1048576: true; the input reads as it did. -/
def torqueLessUptoRow : OpenClaim := { program := "ytphfgljfjfpomaa", sum := "730ca5daa3efc20f7bd7871f7e9ed1ae711465cb05d88a8f5d10dd059cac05cc", func := "commutator/commutatorlaw36.TorqueLess", spec := "torqueLess", unfollowed := true, recurses := true, apart := false, narrowed := true }
def TorqueLessUptoSaid : Prop := torqueLessUptoRow.holds Try.pinned (OpenSpec.upto torqueLessSpec)

end Rows
end Go.Proofs.Ytphfgljfjfpomaa
