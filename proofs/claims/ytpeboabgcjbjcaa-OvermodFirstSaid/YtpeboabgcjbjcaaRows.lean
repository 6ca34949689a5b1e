/-
  No cell of these rows narrows 'for every input' (looked for: loops, veiled, ifaces, maps, wideKeys, modest, calm, conditions, laid).
  DERIVED. THE GIVEN ROWS OF THIS SEAT. 8 by the template 'for every input the law returns true; each argument reads behind the call as it read before'; 0 by the template 'total and deterministic' (their statements: YtpeboabgcjbjcaaTotals.lean).
  GIVEN WITH THE SEED: the statements are not yours to turn. If you find one false, say at which input.
  Laid BY PROGRAM, IN A SANDBOX (cutbox-rows.mjs): the forced cells as the released guide's own fill.sh prints them over the translation b4e480898a65b975… (all of the seat's roots in one cut). By AI agents, Wed Nov 11 2026. No macro, syntax, notation, axiom, sorry.
-/
import Derived.Test.YtpeboabgcjbjcaaChecked
import GoSem.Claim
import GoSem.ClaimJoined
import GoSem.ClaimMapViews
import Derived.JoinedTies
import Derived.KernelRfl
namespace Go.Proofs.Ytpeboabgcjbjcaa
/- THE CELL 'sum', in the pinned program and in every row, IS THE sha256 OF THE DUMP (.gsa) THAT YtpeboabgcjbjcaaProg.lean LOADS. Nothing in Lean hashes anything: it is a label: what it is worth is what the hold of that sum in a sandbox is worth. -/
noncomputable def Try.pinned : Pinned := { name := "ytpeboabgcjbjcaa", sum := "b4e480898a65b97582e6c9381371b0a442d774f7ac24d3955575252856a7c61c", checked := Try.checked }
namespace Rows
def none {H : Type} : Left H := { results := [], args := [] }

/-- 'commutatorlaw22.OvermodLimits': WHATEVER THE INPUT: true; the input reads as it did. -/
def overmodLimitsSpec : ChangeSpec := { name := "overmodLimits", fn := fun _ => fun
  | [d1, d2, d3] => { results := [.lit (.bool true)], args := [d1, d2, d3] }
  | _ => none }
def overmodLimitsRow : OpenClaim := { program := "ytpeboabgcjbjcaa", sum := "b4e480898a65b97582e6c9381371b0a442d774f7ac24d3955575252856a7c61c", func := "commutator/commutatorlaw22.OvermodLimits", spec := "overmodLimits", apart := false }
def OvermodLimitsSaid : Prop := overmodLimitsRow.holds Try.pinned (OpenSpec.ofChange overmodLimitsSpec)

/-- ITS FALSE NEIGHBOUR: 'it returns false'. Refute it at one input. -/
def overmodLimitsWrong : ChangeSpec := { name := "overmodLimits", fn := fun _ => fun
  | [d1, d2, d3] => { results := [.lit (.bool false)], args := [d1, d2, d3] }
  | _ => none }
def OvermodLimitsWrongFalsely : Prop := overmodLimitsRow.holds Try.pinned (OpenSpec.ofChange overmodLimitsWrong)

/-- 'commutatorlaw22.OvermodInside': WHATEVER THE INPUT: true; the input reads as it did. -/
def overmodInsideSpec : ChangeSpec := { name := "overmodInside", fn := fun _ => fun
  | [d1, d2, d3] => { results := [.lit (.bool true)], args := [d1, d2, d3] }
  | _ => none }
def overmodInsideRow : OpenClaim := { program := "ytpeboabgcjbjcaa", sum := "b4e480898a65b97582e6c9381371b0a442d774f7ac24d3955575252856a7c61c", func := "commutator/commutatorlaw22.OvermodInside", spec := "overmodInside", apart := false }
def OvermodInsideSaid : Prop := overmodInsideRow.holds Try.pinned (OpenSpec.ofChange overmodInsideSpec)

/-- ITS FALSE NEIGHBOUR: 'it returns false'. Refute it at one input. -/
def overmodInsideWrong : ChangeSpec := { name := "overmodInside", fn := fun _ => fun
  | [d1, d2, d3] => { results := [.lit (.bool false)], args := [d1, d2, d3] }
  | _ => none }
def OvermodInsideWrongFalsely : Prop := overmodInsideRow.holds Try.pinned (OpenSpec.ofChange overmodInsideWrong)

/-- 'commutatorlaw22.OvermodKeeps': WHATEVER THE INPUT: true; the input reads as it did. -/
def overmodKeepsSpec : ChangeSpec := { name := "overmodKeeps", fn := fun _ => fun
  | [d1, d2, d3] => { results := [.lit (.bool true)], args := [d1, d2, d3] }
  | _ => none }
def overmodKeepsRow : OpenClaim := { program := "ytpeboabgcjbjcaa", sum := "b4e480898a65b97582e6c9381371b0a442d774f7ac24d3955575252856a7c61c", func := "commutator/commutatorlaw22.OvermodKeeps", spec := "overmodKeeps", apart := false }
def OvermodKeepsSaid : Prop := overmodKeepsRow.holds Try.pinned (OpenSpec.ofChange overmodKeepsSpec)

/-- ITS FALSE NEIGHBOUR: 'it returns false'. Refute it at one input. -/
def overmodKeepsWrong : ChangeSpec := { name := "overmodKeeps", fn := fun _ => fun
  | [d1, d2, d3] => { results := [.lit (.bool false)], args := [d1, d2, d3] }
  | _ => none }
def OvermodKeepsWrongFalsely : Prop := overmodKeepsRow.holds Try.pinned (OpenSpec.ofChange overmodKeepsWrong)

/-- 'commutatorlaw22.OvermodDirection': WHATEVER THE INPUT: true; the input reads as it did. -/
def overmodDirectionSpec : ChangeSpec := { name := "overmodDirection", fn := fun _ => fun
  | [d1, d2, d3] => { results := [.lit (.bool true)], args := [d1, d2, d3] }
  | _ => none }
def overmodDirectionRow : OpenClaim := { program := "ytpeboabgcjbjcaa", sum := "b4e480898a65b97582e6c9381371b0a442d774f7ac24d3955575252856a7c61c", func := "commutator/commutatorlaw22.OvermodDirection", spec := "overmodDirection", apart := false }
def OvermodDirectionSaid : Prop := overmodDirectionRow.holds Try.pinned (OpenSpec.ofChange overmodDirectionSpec)

/-- ITS FALSE NEIGHBOUR: 'it returns false'. Refute it at one input. -/
def overmodDirectionWrong : ChangeSpec := { name := "overmodDirection", fn := fun _ => fun
  | [d1, d2, d3] => { results := [.lit (.bool false)], args := [d1, d2, d3] }
  | _ => none }
def OvermodDirectionWrongFalsely : Prop := overmodDirectionRow.holds Try.pinned (OpenSpec.ofChange overmodDirectionWrong)

/-- 'commutatorlaw22.OvermodMore': WHATEVER THE INPUT: true; the input reads as it did. -/
def overmodMoreSpec : ChangeSpec := { name := "overmodMore", fn := fun _ => fun
  | [d1, d2, d3] => { results := [.lit (.bool true)], args := [d1, d2, d3] }
  | _ => none }
def overmodMoreRow : OpenClaim := { program := "ytpeboabgcjbjcaa", sum := "b4e480898a65b97582e6c9381371b0a442d774f7ac24d3955575252856a7c61c", func := "commutator/commutatorlaw22.OvermodMore", spec := "overmodMore", apart := false }
def OvermodMoreSaid : Prop := overmodMoreRow.holds Try.pinned (OpenSpec.ofChange overmodMoreSpec)

/-- ITS FALSE NEIGHBOUR: 'it returns false'. Refute it at one input. -/
def overmodMoreWrong : ChangeSpec := { name := "overmodMore", fn := fun _ => fun
  | [d1, d2, d3] => { results := [.lit (.bool false)], args := [d1, d2, d3] }
  | _ => none }
def OvermodMoreWrongFalsely : Prop := overmodMoreRow.holds Try.pinned (OpenSpec.ofChange overmodMoreWrong)

/-- 'commutatorlaw22.OvermodRadius': WHATEVER THE INPUT: true; the input reads as it did. -/
def overmodRadiusSpec : ChangeSpec := { name := "overmodRadius", fn := fun _ => fun
  | [d1, d2, d3] => { results := [.lit (.bool true)], args := [d1, d2, d3] }
  | _ => none }
def overmodRadiusRow : OpenClaim := { program := "ytpeboabgcjbjcaa", sum := "b4e480898a65b97582e6c9381371b0a442d774f7ac24d3955575252856a7c61c", func := "commutator/commutatorlaw22.OvermodRadius", spec := "overmodRadius", apart := false }
def OvermodRadiusSaid : Prop := overmodRadiusRow.holds Try.pinned (OpenSpec.ofChange overmodRadiusSpec)

/-- ITS FALSE NEIGHBOUR: 'it returns false'. Refute it at one input. -/
def overmodRadiusWrong : ChangeSpec := { name := "overmodRadius", fn := fun _ => fun
  | [d1, d2, d3] => { results := [.lit (.bool false)], args := [d1, d2, d3] }
  | _ => none }
def OvermodRadiusWrongFalsely : Prop := overmodRadiusRow.holds Try.pinned (OpenSpec.ofChange overmodRadiusWrong)

/-- 'commutatorlaw22.OvermodAxis': WHATEVER THE INPUT: true; the input reads as it did. -/
def overmodAxisSpec : ChangeSpec := { name := "overmodAxis", fn := fun _ => fun
  | [d1, d2, d3] => { results := [.lit (.bool true)], args := [d1, d2, d3] }
  | _ => none }
def overmodAxisRow : OpenClaim := { program := "ytpeboabgcjbjcaa", sum := "b4e480898a65b97582e6c9381371b0a442d774f7ac24d3955575252856a7c61c", func := "commutator/commutatorlaw22.OvermodAxis", spec := "overmodAxis", apart := false }
def OvermodAxisSaid : Prop := overmodAxisRow.holds Try.pinned (OpenSpec.ofChange overmodAxisSpec)

/-- ITS FALSE NEIGHBOUR: 'it returns false'. Refute it at one input. -/
def overmodAxisWrong : ChangeSpec := { name := "overmodAxis", fn := fun _ => fun
  | [d1, d2, d3] => { results := [.lit (.bool false)], args := [d1, d2, d3] }
  | _ => none }
def OvermodAxisWrongFalsely : Prop := overmodAxisRow.holds Try.pinned (OpenSpec.ofChange overmodAxisWrong)

/-- 'commutatorlaw22.OvermodFirst': WHATEVER THE INPUT: true; the input reads as it did. -/
def overmodFirstSpec : ChangeSpec := { name := "overmodFirst", fn := fun _ => fun
  | [d1, d2, d3] => { results := [.lit (.bool true)], args := [d1, d2, d3] }
  | _ => none }
def overmodFirstRow : OpenClaim := { program := "ytpeboabgcjbjcaa", sum := "b4e480898a65b97582e6c9381371b0a442d774f7ac24d3955575252856a7c61c", func := "commutator/commutatorlaw22.OvermodFirst", spec := "overmodFirst", apart := false }
def OvermodFirstSaid : Prop := overmodFirstRow.holds Try.pinned (OpenSpec.ofChange overmodFirstSpec)

/-- ITS FALSE NEIGHBOUR: 'it returns false'. Refute it at one input. -/
def overmodFirstWrong : ChangeSpec := { name := "overmodFirst", fn := fun _ => fun
  | [d1, d2, d3] => { results := [.lit (.bool false)], args := [d1, d2, d3] }
  | _ => none }
def OvermodFirstWrongFalsely : Prop := overmodFirstRow.holds Try.pinned (OpenSpec.ofChange overmodFirstWrong)

/- THE SECOND FORM. 'bulk': how many values and letters a reading holds, each counted each time it is reached (what is shared counts as often as it is met; a slice's spare places count too). A statement '..UptoSaid' is the law's where the arguments, and the package variables that the reading takes, are together of bulk at most 1048576: NARROWER than '..Said'. Prove '..Said' where nothing that the law and all that it calls make is longer than what came in: it says more and counts as full. Else prove '..UptoSaid'. A law counts once. -/
mutual
def uptoBulk {H : Type} : DataW H → Nat
  | .lit (.string bytes) => bytes.length + 1
  | .lit _ => 1
  | .nil => 1
  | .ptr d => uptoBulk d + 1
  | .slice elems spare => uptoBulkAll elems + uptoBulkAll spare + 1
  | .agg parts => uptoBulkAll parts + 1
  | .iface _ d => uptoBulk d + 1
  | .map entries => uptoBulkEntries entries + 1
  | .held _ => 1
def uptoBulkAll {H : Type} : List (DataW H) → Nat
  | [] => 0
  | d :: r => uptoBulk d + uptoBulkAll r
def uptoBulkEntries {H : Type} : List (Lit × DataW H) → Nat
  | [] => 0
  | x :: r => uptoBulkEntry x + uptoBulkEntries r
def uptoBulkEntry {H : Type} : Lit × DataW H → Nat
  | (.string bytes, d) => bytes.length + uptoBulk d + 1
  | (_, d) => uptoBulk d + 1
 end
def uptoSmall : (H : Type) → List (DataW H) → Bool := fun _ ds => decide (uptoBulkAll ds ≤ 1048576)
def OpenSpec.upto (s : _root_.Go.ChangeSpec) : _root_.Go.OpenSpec := { _root_.Go.OpenSpec.ofChange s with cond := some uptoSmall }

/-- 'commutatorlaw22.OvermodLimits', WHERE WHAT IT READS IS OF BULK AT MOST 1048576: true; the input reads as it did. -/
def overmodLimitsUptoRow : OpenClaim := { program := "ytpeboabgcjbjcaa", sum := "b4e480898a65b97582e6c9381371b0a442d774f7ac24d3955575252856a7c61c", func := "commutator/commutatorlaw22.OvermodLimits", spec := "overmodLimits", apart := false, narrowed := true }
def OvermodLimitsUptoSaid : Prop := overmodLimitsUptoRow.holds Try.pinned (OpenSpec.upto overmodLimitsSpec)

/-- 'commutatorlaw22.OvermodInside', WHERE WHAT IT READS IS OF BULK AT MOST 1048576: true; the input reads as it did. -/
def overmodInsideUptoRow : OpenClaim := { program := "ytpeboabgcjbjcaa", sum := "b4e480898a65b97582e6c9381371b0a442d774f7ac24d3955575252856a7c61c", func := "commutator/commutatorlaw22.OvermodInside", spec := "overmodInside", apart := false, narrowed := true }
def OvermodInsideUptoSaid : Prop := overmodInsideUptoRow.holds Try.pinned (OpenSpec.upto overmodInsideSpec)

/-- 'commutatorlaw22.OvermodKeeps', WHERE WHAT IT READS IS OF BULK AT MOST 1048576: true; the input reads as it did. -/
def overmodKeepsUptoRow : OpenClaim := { program := "ytpeboabgcjbjcaa", sum := "b4e480898a65b97582e6c9381371b0a442d774f7ac24d3955575252856a7c61c", func := "commutator/commutatorlaw22.OvermodKeeps", spec := "overmodKeeps", apart := false, narrowed := true }
def OvermodKeepsUptoSaid : Prop := overmodKeepsUptoRow.holds Try.pinned (OpenSpec.upto overmodKeepsSpec)

/-- 'commutatorlaw22.OvermodDirection', WHERE WHAT IT READS IS OF BULK AT MOST 1048576: true; the input reads as it did. -/
def overmodDirectionUptoRow : OpenClaim := { program := "ytpeboabgcjbjcaa", sum := "b4e480898a65b97582e6c9381371b0a442d774f7ac24d3955575252856a7c61c", func := "commutator/commutatorlaw22.OvermodDirection", spec := "overmodDirection", apart := false, narrowed := true }
def OvermodDirectionUptoSaid : Prop := overmodDirectionUptoRow.holds Try.pinned (OpenSpec.upto overmodDirectionSpec)

/-- 'commutatorlaw22.OvermodMore', WHERE WHAT IT READS IS OF BULK AT MOST 1048576: true; the input reads as it did. -/
def overmodMoreUptoRow : OpenClaim := { program := "ytpeboabgcjbjcaa", sum := "b4e480898a65b97582e6c9381371b0a442d774f7ac24d3955575252856a7c61c", func := "commutator/commutatorlaw22.OvermodMore", spec := "overmodMore", apart := false, narrowed := true }
def OvermodMoreUptoSaid : Prop := overmodMoreUptoRow.holds Try.pinned (OpenSpec.upto overmodMoreSpec)

/-- 'commutatorlaw22.OvermodRadius', WHERE WHAT IT READS IS OF BULK AT MOST 1048576: true; the input reads as it did. -/
def overmodRadiusUptoRow : OpenClaim := { program := "ytpeboabgcjbjcaa", sum := "b4e480898a65b97582e6c9381371b0a442d774f7ac24d3955575252856a7c61c", func := "commutator/commutatorlaw22.OvermodRadius", spec := "overmodRadius", apart := false, narrowed := true }
def OvermodRadiusUptoSaid : Prop := overmodRadiusUptoRow.holds Try.pinned (OpenSpec.upto overmodRadiusSpec)

/-- 'commutatorlaw22.OvermodAxis', WHERE WHAT IT READS IS OF BULK AT MOST 1048576: true; the input reads as it did. -/
def overmodAxisUptoRow : OpenClaim := { program := "ytpeboabgcjbjcaa", sum := "b4e480898a65b97582e6c9381371b0a442d774f7ac24d3955575252856a7c61c", func := "commutator/commutatorlaw22.OvermodAxis", spec := "overmodAxis", apart := false, narrowed := true }
def OvermodAxisUptoSaid : Prop := overmodAxisUptoRow.holds Try.pinned (OpenSpec.upto overmodAxisSpec)

/-- 'commutatorlaw22.OvermodFirst', WHERE WHAT IT READS IS OF BULK AT MOST 1048576: true; the input reads as it did. -/
def overmodFirstUptoRow : OpenClaim := { program := "ytpeboabgcjbjcaa", sum := "b4e480898a65b97582e6c9381371b0a442d774f7ac24d3955575252856a7c61c", func := "commutator/commutatorlaw22.OvermodFirst", spec := "overmodFirst", apart := false, narrowed := true }
def OvermodFirstUptoSaid : Prop := overmodFirstUptoRow.holds Try.pinned (OpenSpec.upto overmodFirstSpec)

end Rows
end Go.Proofs.Ytpeboabgcjbjcaa
