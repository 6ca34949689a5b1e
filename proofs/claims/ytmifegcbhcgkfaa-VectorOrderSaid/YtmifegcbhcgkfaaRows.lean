/-
  No cell of these rows narrows 'for every input' (looked for: loops, veiled, ifaces, maps, wideKeys, modest, calm, conditions, laid).
  DERIVED. THE GIVEN ROWS OF THIS SEAT. 8 by the template 'for every input the law returns true; each argument reads behind the call as it read before'; 0 by the template 'total and deterministic' (their statements: YtmifegcbhcgkfaaTotals.lean).
  GIVEN WITH THE SEED: the statements are not yours to turn. If you find one false, say at which input.
  Laid BY PROGRAM, IN A SANDBOX (cutbox-rows.mjs): the forced cells as the released guide's own fill.sh prints them over the translation 11ab1b8223842401… (all of the seat's roots in one cut). By AI agents, Wed Nov 11 2026. No macro, syntax, notation, axiom, sorry.
-/
import Derived.Test.YtmifegcbhcgkfaaChecked
import GoSem.Claim
import GoSem.ClaimJoined
import GoSem.ClaimMapViews
import Derived.JoinedTies
import Derived.KernelRfl
namespace Go.Proofs.Ytmifegcbhcgkfaa
/- THE CELL 'sum', in the pinned program and in every row, IS THE sha256 OF THE DUMP (.gsa) THAT YtmifegcbhcgkfaaProg.lean LOADS. Nothing in Lean hashes anything: it is a label: what it is worth is what the hold of that sum in a sandbox is worth. -/
noncomputable def Try.pinned : Pinned := { name := "ytmifegcbhcgkfaa", sum := "11ab1b8223842401f8af9825f445c457c4a0d16eb4bad418bfa9b4661d353644", checked := Try.checked }
namespace Rows
def none {H : Type} : Left H := { results := [], args := [] }

/-- 'commutatorlaw21.VectorDuties': WHATEVER THE INPUT: true; the input reads as it did. -/
def vectorDutiesSpec : ChangeSpec := { name := "vectorDuties", fn := fun _ => fun
  | [d1, d2, d3] => { results := [.lit (.bool true)], args := [d1, d2, d3] }
  | _ => none }
def vectorDutiesRow : OpenClaim := { program := "ytmifegcbhcgkfaa", sum := "11ab1b8223842401f8af9825f445c457c4a0d16eb4bad418bfa9b4661d353644", func := "commutator/commutatorlaw21.VectorDuties", spec := "vectorDuties", apart := false }
def VectorDutiesSaid : Prop := vectorDutiesRow.holds Try.pinned (OpenSpec.ofChange vectorDutiesSpec)

/-- ITS FALSE NEIGHBOUR: 'it returns false'. Refute it at one input. -/
def vectorDutiesWrong : ChangeSpec := { name := "vectorDuties", fn := fun _ => fun
  | [d1, d2, d3] => { results := [.lit (.bool false)], args := [d1, d2, d3] }
  | _ => none }
def VectorDutiesWrongFalsely : Prop := vectorDutiesRow.holds Try.pinned (OpenSpec.ofChange vectorDutiesWrong)

/-- 'commutatorlaw21.VectorInside': WHATEVER THE INPUT: true; the input reads as it did. -/
def vectorInsideSpec : ChangeSpec := { name := "vectorInside", fn := fun _ => fun
  | [d1, d2] => { results := [.lit (.bool true)], args := [d1, d2] }
  | _ => none }
def vectorInsideRow : OpenClaim := { program := "ytmifegcbhcgkfaa", sum := "11ab1b8223842401f8af9825f445c457c4a0d16eb4bad418bfa9b4661d353644", func := "commutator/commutatorlaw21.VectorInside", spec := "vectorInside", apart := false }
def VectorInsideSaid : Prop := vectorInsideRow.holds Try.pinned (OpenSpec.ofChange vectorInsideSpec)

/-- ITS FALSE NEIGHBOUR: 'it returns false'. Refute it at one input. -/
def vectorInsideWrong : ChangeSpec := { name := "vectorInside", fn := fun _ => fun
  | [d1, d2] => { results := [.lit (.bool false)], args := [d1, d2] }
  | _ => none }
def VectorInsideWrongFalsely : Prop := vectorInsideRow.holds Try.pinned (OpenSpec.ofChange vectorInsideWrong)

/-- 'commutatorlaw21.VectorCentre': WHATEVER THE INPUT: true; the input reads as it did. -/
def vectorCentreSpec : ChangeSpec := { name := "vectorCentre", fn := fun _ => fun
  | [d1, d2, d3] => { results := [.lit (.bool true)], args := [d1, d2, d3] }
  | _ => none }
def vectorCentreRow : OpenClaim := { program := "ytmifegcbhcgkfaa", sum := "11ab1b8223842401f8af9825f445c457c4a0d16eb4bad418bfa9b4661d353644", func := "commutator/commutatorlaw21.VectorCentre", spec := "vectorCentre", apart := false }
def VectorCentreSaid : Prop := vectorCentreRow.holds Try.pinned (OpenSpec.ofChange vectorCentreSpec)

/-- ITS FALSE NEIGHBOUR: 'it returns false'. Refute it at one input. -/
def vectorCentreWrong : ChangeSpec := { name := "vectorCentre", fn := fun _ => fun
  | [d1, d2, d3] => { results := [.lit (.bool false)], args := [d1, d2, d3] }
  | _ => none }
def VectorCentreWrongFalsely : Prop := vectorCentreRow.holds Try.pinned (OpenSpec.ofChange vectorCentreWrong)

/-- 'commutatorlaw21.VectorOrder': WHATEVER THE INPUT: true; the input reads as it did. -/
def vectorOrderSpec : ChangeSpec := { name := "vectorOrder", fn := fun _ => fun
  | [d1, d2, d3] => { results := [.lit (.bool true)], args := [d1, d2, d3] }
  | _ => none }
def vectorOrderRow : OpenClaim := { program := "ytmifegcbhcgkfaa", sum := "11ab1b8223842401f8af9825f445c457c4a0d16eb4bad418bfa9b4661d353644", func := "commutator/commutatorlaw21.VectorOrder", spec := "vectorOrder", apart := false }
def VectorOrderSaid : Prop := vectorOrderRow.holds Try.pinned (OpenSpec.ofChange vectorOrderSpec)

/-- ITS FALSE NEIGHBOUR: 'it returns false'. Refute it at one input. -/
def vectorOrderWrong : ChangeSpec := { name := "vectorOrder", fn := fun _ => fun
  | [d1, d2, d3] => { results := [.lit (.bool false)], args := [d1, d2, d3] }
  | _ => none }
def VectorOrderWrongFalsely : Prop := vectorOrderRow.holds Try.pinned (OpenSpec.ofChange vectorOrderWrong)

/-- 'commutatorlaw21.VectorZero': WHATEVER THE INPUT: true; the input reads as it did. -/
def vectorZeroSpec : ChangeSpec := { name := "vectorZero", fn := fun _ => fun
  | [d1, d2, d3] => { results := [.lit (.bool true)], args := [d1, d2, d3] }
  | _ => none }
def vectorZeroRow : OpenClaim := { program := "ytmifegcbhcgkfaa", sum := "11ab1b8223842401f8af9825f445c457c4a0d16eb4bad418bfa9b4661d353644", func := "commutator/commutatorlaw21.VectorZero", spec := "vectorZero", apart := false }
def VectorZeroSaid : Prop := vectorZeroRow.holds Try.pinned (OpenSpec.ofChange vectorZeroSpec)

/-- ITS FALSE NEIGHBOUR: 'it returns false'. Refute it at one input. -/
def vectorZeroWrong : ChangeSpec := { name := "vectorZero", fn := fun _ => fun
  | [d1, d2, d3] => { results := [.lit (.bool false)], args := [d1, d2, d3] }
  | _ => none }
def VectorZeroWrongFalsely : Prop := vectorZeroRow.holds Try.pinned (OpenSpec.ofChange vectorZeroWrong)

/-- 'commutatorlaw21.VectorThere': WHATEVER THE INPUT: true; the input reads as it did. -/
def vectorThereSpec : ChangeSpec := { name := "vectorThere", fn := fun _ => fun
  | [d1, d2, d3] => { results := [.lit (.bool true)], args := [d1, d2, d3] }
  | _ => none }
def vectorThereRow : OpenClaim := { program := "ytmifegcbhcgkfaa", sum := "11ab1b8223842401f8af9825f445c457c4a0d16eb4bad418bfa9b4661d353644", func := "commutator/commutatorlaw21.VectorThere", spec := "vectorThere", apart := false }
def VectorThereSaid : Prop := vectorThereRow.holds Try.pinned (OpenSpec.ofChange vectorThereSpec)

/-- ITS FALSE NEIGHBOUR: 'it returns false'. Refute it at one input. -/
def vectorThereWrong : ChangeSpec := { name := "vectorThere", fn := fun _ => fun
  | [d1, d2, d3] => { results := [.lit (.bool false)], args := [d1, d2, d3] }
  | _ => none }
def VectorThereWrongFalsely : Prop := vectorThereRow.holds Try.pinned (OpenSpec.ofChange vectorThereWrong)

/-- 'commutatorlaw21.VectorVolts': WHATEVER THE INPUT: true; the input reads as it did. -/
def vectorVoltsSpec : ChangeSpec := { name := "vectorVolts", fn := fun _ => fun
  | [d1, d2, d3] => { results := [.lit (.bool true)], args := [d1, d2, d3] }
  | _ => none }
def vectorVoltsRow : OpenClaim := { program := "ytmifegcbhcgkfaa", sum := "11ab1b8223842401f8af9825f445c457c4a0d16eb4bad418bfa9b4661d353644", func := "commutator/commutatorlaw21.VectorVolts", spec := "vectorVolts", apart := false }
def VectorVoltsSaid : Prop := vectorVoltsRow.holds Try.pinned (OpenSpec.ofChange vectorVoltsSpec)

/-- ITS FALSE NEIGHBOUR: 'it returns false'. Refute it at one input. -/
def vectorVoltsWrong : ChangeSpec := { name := "vectorVolts", fn := fun _ => fun
  | [d1, d2, d3] => { results := [.lit (.bool false)], args := [d1, d2, d3] }
  | _ => none }
def VectorVoltsWrongFalsely : Prop := vectorVoltsRow.holds Try.pinned (OpenSpec.ofChange vectorVoltsWrong)

/-- 'commutatorlaw21.VectorFlat': WHATEVER THE INPUT: true; the input reads as it did. -/
def vectorFlatSpec : ChangeSpec := { name := "vectorFlat", fn := fun _ => fun
  | [d1, d2, d3] => { results := [.lit (.bool true)], args := [d1, d2, d3] }
  | _ => none }
def vectorFlatRow : OpenClaim := { program := "ytmifegcbhcgkfaa", sum := "11ab1b8223842401f8af9825f445c457c4a0d16eb4bad418bfa9b4661d353644", func := "commutator/commutatorlaw21.VectorFlat", spec := "vectorFlat", apart := false }
def VectorFlatSaid : Prop := vectorFlatRow.holds Try.pinned (OpenSpec.ofChange vectorFlatSpec)

/-- ITS FALSE NEIGHBOUR: 'it returns false'. Refute it at one input. -/
def vectorFlatWrong : ChangeSpec := { name := "vectorFlat", fn := fun _ => fun
  | [d1, d2, d3] => { results := [.lit (.bool false)], args := [d1, d2, d3] }
  | _ => none }
def VectorFlatWrongFalsely : Prop := vectorFlatRow.holds Try.pinned (OpenSpec.ofChange vectorFlatWrong)

/- THE SECOND FORM. 'bulk': how many values and letters a reading holds, each counted each time it is reached (what is shared counts as often as it is met; a slice's spare places count too). A statement '..UptoSaid' is the law's where the arguments, and the package variables that the reading takes, are together of bulk at most 1048576: NARROWER than '..Said'. Prove '..Said' where nothing that the law and all that it calls make is longer than what came in: it says more and counts as full. Else prove '..UptoSaid'. A law counts once. -/
mutual
def uptoBulk {H : Type} : DataW H → Nat
  | .lit (.string bytes) => bytes.length + 1
  | .lit _ => 1
  | .nil => 1
  | .ptr d => uptoBulk d + 1
  | .slice elems spare => uptoBulkAll elems + uptoBulkAll spare + 1
  | .agg parts => uptoBulkAll parts + 1
  | .iface _ d => uptoBulk d + 1
  | .map entries => uptoBulkEntries entries + 1
  | .held _ => 1
def uptoBulkAll {H : Type} : List (DataW H) → Nat
  | [] => 0
  | d :: r => uptoBulk d + uptoBulkAll r
def uptoBulkEntries {H : Type} : List (Lit × DataW H) → Nat
  | [] => 0
  | x :: r => uptoBulkEntry x + uptoBulkEntries r
def uptoBulkEntry {H : Type} : Lit × DataW H → Nat
  | (.string bytes, d) => bytes.length + uptoBulk d + 1
  | (_, d) => uptoBulk d + 1
 end
def uptoSmall : (H : Type) → List (DataW H) → Bool := fun _ ds => decide (uptoBulkAll ds ≤ 1048576)
def OpenSpec.upto (s : _root_.Go.ChangeSpec) : _root_.Go.OpenSpec := { _root_.Go.OpenSpec.ofChange s with cond := some uptoSmall }

/-- 'commutatorlaw21.VectorDuties', WHERE WHAT IT READS IS OF BULK AT MOST 1048576: true; the input reads as it did. -/
def vectorDutiesUptoRow : OpenClaim := { program := "ytmifegcbhcgkfaa", sum := "11ab1b8223842401f8af9825f445c457c4a0d16eb4bad418bfa9b4661d353644", func := "commutator/commutatorlaw21.VectorDuties", spec := "vectorDuties", apart := false, narrowed := true }
def VectorDutiesUptoSaid : Prop := vectorDutiesUptoRow.holds Try.pinned (OpenSpec.upto vectorDutiesSpec)

/-- 'commutatorlaw21.VectorInside', WHERE WHAT IT READS IS OF BULK AT MOST 1048576: true; the input reads as it did. -/
def vectorInsideUptoRow : OpenClaim := { program := "ytmifegcbhcgkfaa", sum := "11ab1b8223842401f8af9825f445c457c4a0d16eb4bad418bfa9b4661d353644", func := "commutator/commutatorlaw21.VectorInside", spec := "vectorInside", apart := false, narrowed := true }
def VectorInsideUptoSaid : Prop := vectorInsideUptoRow.holds Try.pinned (OpenSpec.upto vectorInsideSpec)

/-- 'commutatorlaw21.VectorCentre', WHERE WHAT IT READS IS OF BULK AT MOST 1048576: true; the input reads as it did. -/
def vectorCentreUptoRow : OpenClaim := { program := "ytmifegcbhcgkfaa", sum := "11ab1b8223842401f8af9825f445c457c4a0d16eb4bad418bfa9b4661d353644", func := "commutator/commutatorlaw21.VectorCentre", spec := "vectorCentre", apart := false, narrowed := true }
def VectorCentreUptoSaid : Prop := vectorCentreUptoRow.holds Try.pinned (OpenSpec.upto vectorCentreSpec)

/-- 'commutatorlaw21.VectorOrder', WHERE WHAT IT READS IS OF BULK AT MOST 1048576: true; the input reads as it did. -/
def vectorOrderUptoRow : OpenClaim := { program := "ytmifegcbhcgkfaa", sum := "11ab1b8223842401f8af9825f445c457c4a0d16eb4bad418bfa9b4661d353644", func := "commutator/commutatorlaw21.VectorOrder", spec := "vectorOrder", apart := false, narrowed := true }
def VectorOrderUptoSaid : Prop := vectorOrderUptoRow.holds Try.pinned (OpenSpec.upto vectorOrderSpec)

/-- 'commutatorlaw21.VectorZero', WHERE WHAT IT READS IS OF BULK AT MOST 1048576: true; the input reads as it did. -/
def vectorZeroUptoRow : OpenClaim := { program := "ytmifegcbhcgkfaa", sum := "11ab1b8223842401f8af9825f445c457c4a0d16eb4bad418bfa9b4661d353644", func := "commutator/commutatorlaw21.VectorZero", spec := "vectorZero", apart := false, narrowed := true }
def VectorZeroUptoSaid : Prop := vectorZeroUptoRow.holds Try.pinned (OpenSpec.upto vectorZeroSpec)

/-- 'commutatorlaw21.VectorThere', WHERE WHAT IT READS IS OF BULK AT MOST 1048576: true; the input reads as it did. -/
def vectorThereUptoRow : OpenClaim := { program := "ytmifegcbhcgkfaa", sum := "11ab1b8223842401f8af9825f445c457c4a0d16eb4bad418bfa9b4661d353644", func := "commutator/commutatorlaw21.VectorThere", spec := "vectorThere", apart := false, narrowed := true }
def VectorThereUptoSaid : Prop := vectorThereUptoRow.holds Try.pinned (OpenSpec.upto vectorThereSpec)

/-- 'commutatorlaw21.VectorVolts', WHERE WHAT IT READS IS OF BULK AT MOST 1048576: true; the input reads as it did. -/
def vectorVoltsUptoRow : OpenClaim := { program := "ytmifegcbhcgkfaa", sum := "11ab1b8223842401f8af9825f445c457c4a0d16eb4bad418bfa9b4661d353644", func := "commutator/commutatorlaw21.VectorVolts", spec := "vectorVolts", apart := false, narrowed := true }
def VectorVoltsUptoSaid : Prop := vectorVoltsUptoRow.holds Try.pinned (OpenSpec.upto vectorVoltsSpec)

/-- 'commutatorlaw21.VectorFlat', WHERE WHAT IT READS IS OF BULK AT MOST 1048576: true; the input reads as it did. -/
def vectorFlatUptoRow : OpenClaim := { program := "ytmifegcbhcgkfaa", sum := "11ab1b8223842401f8af9825f445c457c4a0d16eb4bad418bfa9b4661d353644", func := "commutator/commutatorlaw21.VectorFlat", spec := "vectorFlat", apart := false, narrowed := true }
def VectorFlatUptoSaid : Prop := vectorFlatUptoRow.holds Try.pinned (OpenSpec.upto vectorFlatSpec)

end Rows
end Go.Proofs.Ytmifegcbhcgkfaa
