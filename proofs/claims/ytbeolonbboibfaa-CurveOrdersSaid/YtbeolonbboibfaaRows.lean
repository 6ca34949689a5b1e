/-
  No cell of these rows narrows 'for every input' (looked for: loops, veiled, ifaces, maps, wideKeys, modest, calm, conditions, laid).
  DERIVED. THE GIVEN ROWS OF THIS SEAT. 11 by the template 'for every input the law returns true; each argument reads behind the call as it read before'; 0 by the template 'total and deterministic' (their statements: YtbeolonbboibfaaTotals.lean).
  GIVEN WITH THE SEED: the statements are not yours to turn. If you find one false, say at which input.
  Laid BY PROGRAM, IN A SANDBOX (cutbox-rows.mjs): the forced cells as the released guide's own fill.sh prints them over the translation 60c9ebd36170989b… (all of the seat's roots in one cut). By AI agents, Wed Nov 11 2026. No macro, syntax, notation, axiom, sorry.
-/
import Derived.Test.YtbeolonbboibfaaChecked
import GoSem.Claim
import GoSem.ClaimJoined
import GoSem.ClaimMapViews
import Derived.JoinedTies
import Derived.KernelRfl
namespace Go.Proofs.Ytbeolonbboibfaa
/- THE CELL 'sum', in the pinned program and in every row, IS THE sha256 OF THE DUMP (.gsa) THAT YtbeolonbboibfaaProg.lean LOADS. Nothing in Lean hashes anything: it is a label: what it is worth is what the hold of that sum in a sandbox is worth. -/
noncomputable def Try.pinned : Pinned := { name := "ytbeolonbboibfaa", sum := "60c9ebd36170989bf0fa447c1cfef5de8e8ef1032a74e122db7f584b8a9e1f0e", checked := Try.checked }
namespace Rows
def none {H : Type} : Left H := { results := [], args := [] }

/-- 'commutatorlaw09.CurveChecks': WHATEVER THE INPUT: true; the input reads as it did. -/
def curveChecksSpec : ChangeSpec := { name := "curveChecks", fn := fun _ => fun
  | [d] => { results := [.lit (.bool true)], args := [d] }
  | _ => none }
def curveChecksRow : OpenClaim := { program := "ytbeolonbboibfaa", sum := "60c9ebd36170989bf0fa447c1cfef5de8e8ef1032a74e122db7f584b8a9e1f0e", func := "commutator/commutatorlaw09.CurveChecks", spec := "curveChecks", unfollowed := true, recurses := true, apart := false }
def CurveChecksSaid : Prop := curveChecksRow.holds Try.pinned (OpenSpec.ofChange curveChecksSpec)

/-- ITS FALSE NEIGHBOUR: 'it returns false'. Refute it at one input. -/
def curveChecksWrong : ChangeSpec := { name := "curveChecks", fn := fun _ => fun
  | [d] => { results := [.lit (.bool false)], args := [d] }
  | _ => none }
def CurveChecksWrongFalsely : Prop := curveChecksRow.holds Try.pinned (OpenSpec.ofChange curveChecksWrong)

/-- 'commutatorlaw09.CurveAt': WHATEVER THE INPUT: true; the input reads as it did. -/
def curveAtSpec : ChangeSpec := { name := "curveAt", fn := fun _ => fun
  | [d1, d2] => { results := [.lit (.bool true)], args := [d1, d2] }
  | _ => none }
def curveAtRow : OpenClaim := { program := "ytbeolonbboibfaa", sum := "60c9ebd36170989bf0fa447c1cfef5de8e8ef1032a74e122db7f584b8a9e1f0e", func := "commutator/commutatorlaw09.CurveAt", spec := "curveAt", unfollowed := true, recurses := true, apart := false }
def CurveAtSaid : Prop := curveAtRow.holds Try.pinned (OpenSpec.ofChange curveAtSpec)

/-- ITS FALSE NEIGHBOUR: 'it returns false'. Refute it at one input. -/
def curveAtWrong : ChangeSpec := { name := "curveAt", fn := fun _ => fun
  | [d1, d2] => { results := [.lit (.bool false)], args := [d1, d2] }
  | _ => none }
def CurveAtWrongFalsely : Prop := curveAtRow.holds Try.pinned (OpenSpec.ofChange curveAtWrong)

/-- 'commutatorlaw09.CurveInverts': WHATEVER THE INPUT: true; the input reads as it did. -/
def curveInvertsSpec : ChangeSpec := { name := "curveInverts", fn := fun _ => fun
  | [d1, d2] => { results := [.lit (.bool true)], args := [d1, d2] }
  | _ => none }
def curveInvertsRow : OpenClaim := { program := "ytbeolonbboibfaa", sum := "60c9ebd36170989bf0fa447c1cfef5de8e8ef1032a74e122db7f584b8a9e1f0e", func := "commutator/commutatorlaw09.CurveInverts", spec := "curveInverts", unfollowed := true, recurses := true, apart := false }
def CurveInvertsSaid : Prop := curveInvertsRow.holds Try.pinned (OpenSpec.ofChange curveInvertsSpec)

/-- ITS FALSE NEIGHBOUR: 'it returns false'. Refute it at one input. -/
def curveInvertsWrong : ChangeSpec := { name := "curveInverts", fn := fun _ => fun
  | [d1, d2] => { results := [.lit (.bool false)], args := [d1, d2] }
  | _ => none }
def CurveInvertsWrongFalsely : Prop := curveInvertsRow.holds Try.pinned (OpenSpec.ofChange curveInvertsWrong)

/-- 'commutatorlaw09.CurvePoints': WHATEVER THE INPUT: true; the input reads as it did. -/
def curvePointsSpec : ChangeSpec := { name := "curvePoints", fn := fun _ => fun
  | [d1, d2] => { results := [.lit (.bool true)], args := [d1, d2] }
  | _ => none }
def curvePointsRow : OpenClaim := { program := "ytbeolonbboibfaa", sum := "60c9ebd36170989bf0fa447c1cfef5de8e8ef1032a74e122db7f584b8a9e1f0e", func := "commutator/commutatorlaw09.CurvePoints", spec := "curvePoints", unfollowed := true, recurses := true, apart := false }
def CurvePointsSaid : Prop := curvePointsRow.holds Try.pinned (OpenSpec.ofChange curvePointsSpec)

/-- ITS FALSE NEIGHBOUR: 'it returns false'. Refute it at one input. -/
def curvePointsWrong : ChangeSpec := { name := "curvePoints", fn := fun _ => fun
  | [d1, d2] => { results := [.lit (.bool false)], args := [d1, d2] }
  | _ => none }
def CurvePointsWrongFalsely : Prop := curvePointsRow.holds Try.pinned (OpenSpec.ofChange curvePointsWrong)

/-- 'commutatorlaw09.CurveGalois': WHATEVER THE INPUT: true; the input reads as it did. -/
def curveGaloisSpec : ChangeSpec := { name := "curveGalois", fn := fun _ => fun
  | [d1, d2, d3] => { results := [.lit (.bool true)], args := [d1, d2, d3] }
  | _ => none }
def curveGaloisRow : OpenClaim := { program := "ytbeolonbboibfaa", sum := "60c9ebd36170989bf0fa447c1cfef5de8e8ef1032a74e122db7f584b8a9e1f0e", func := "commutator/commutatorlaw09.CurveGalois", spec := "curveGalois", unfollowed := true, recurses := true, apart := false }
def CurveGaloisSaid : Prop := curveGaloisRow.holds Try.pinned (OpenSpec.ofChange curveGaloisSpec)

/-- ITS FALSE NEIGHBOUR: 'it returns false'. Refute it at one input. -/
def curveGaloisWrong : ChangeSpec := { name := "curveGalois", fn := fun _ => fun
  | [d1, d2, d3] => { results := [.lit (.bool false)], args := [d1, d2, d3] }
  | _ => none }
def CurveGaloisWrongFalsely : Prop := curveGaloisRow.holds Try.pinned (OpenSpec.ofChange curveGaloisWrong)

/-- 'commutatorlaw09.CurveSteepest': WHATEVER THE INPUT: true; the input reads as it did. -/
def curveSteepestSpec : ChangeSpec := { name := "curveSteepest", fn := fun _ => fun
  | [d1, d2] => { results := [.lit (.bool true)], args := [d1, d2] }
  | _ => none }
def curveSteepestRow : OpenClaim := { program := "ytbeolonbboibfaa", sum := "60c9ebd36170989bf0fa447c1cfef5de8e8ef1032a74e122db7f584b8a9e1f0e", func := "commutator/commutatorlaw09.CurveSteepest", spec := "curveSteepest", unfollowed := true, recurses := true, apart := false }
def CurveSteepestSaid : Prop := curveSteepestRow.holds Try.pinned (OpenSpec.ofChange curveSteepestSpec)

/-- ITS FALSE NEIGHBOUR: 'it returns false'. Refute it at one input. -/
def curveSteepestWrong : ChangeSpec := { name := "curveSteepest", fn := fun _ => fun
  | [d1, d2] => { results := [.lit (.bool false)], args := [d1, d2] }
  | _ => none }
def CurveSteepestWrongFalsely : Prop := curveSteepestRow.holds Try.pinned (OpenSpec.ofChange curveSteepestWrong)

/-- 'commutatorlaw09.CurveMonotone': WHATEVER THE INPUT: true; the input reads as it did. -/
def curveMonotoneSpec : ChangeSpec := { name := "curveMonotone", fn := fun _ => fun
  | [d1, d2, d3] => { results := [.lit (.bool true)], args := [d1, d2, d3] }
  | _ => none }
def curveMonotoneRow : OpenClaim := { program := "ytbeolonbboibfaa", sum := "60c9ebd36170989bf0fa447c1cfef5de8e8ef1032a74e122db7f584b8a9e1f0e", func := "commutator/commutatorlaw09.CurveMonotone", spec := "curveMonotone", unfollowed := true, recurses := true, apart := false }
def CurveMonotoneSaid : Prop := curveMonotoneRow.holds Try.pinned (OpenSpec.ofChange curveMonotoneSpec)

/-- ITS FALSE NEIGHBOUR: 'it returns false'. Refute it at one input. -/
def curveMonotoneWrong : ChangeSpec := { name := "curveMonotone", fn := fun _ => fun
  | [d1, d2, d3] => { results := [.lit (.bool false)], args := [d1, d2, d3] }
  | _ => none }
def CurveMonotoneWrongFalsely : Prop := curveMonotoneRow.holds Try.pinned (OpenSpec.ofChange curveMonotoneWrong)

/-- 'commutatorlaw09.CurveOdd': WHATEVER THE INPUT: true; the input reads as it did. -/
def curveOddSpec : ChangeSpec := { name := "curveOdd", fn := fun _ => fun
  | [d1, d2, d3] => { results := [.lit (.bool true)], args := [d1, d2, d3] }
  | _ => none }
def curveOddRow : OpenClaim := { program := "ytbeolonbboibfaa", sum := "60c9ebd36170989bf0fa447c1cfef5de8e8ef1032a74e122db7f584b8a9e1f0e", func := "commutator/commutatorlaw09.CurveOdd", spec := "curveOdd", unfollowed := true, recurses := true, apart := false }
def CurveOddSaid : Prop := curveOddRow.holds Try.pinned (OpenSpec.ofChange curveOddSpec)

/-- ITS FALSE NEIGHBOUR: 'it returns false'. Refute it at one input. -/
def curveOddWrong : ChangeSpec := { name := "curveOdd", fn := fun _ => fun
  | [d1, d2, d3] => { results := [.lit (.bool false)], args := [d1, d2, d3] }
  | _ => none }
def CurveOddWrongFalsely : Prop := curveOddRow.holds Try.pinned (OpenSpec.ofChange curveOddWrong)

/-- 'commutatorlaw09.CurveScales': WHATEVER THE INPUT: true; the input reads as it did. -/
def curveScalesSpec : ChangeSpec := { name := "curveScales", fn := fun _ => fun
  | [d1, d2] => { results := [.lit (.bool true)], args := [d1, d2] }
  | _ => none }
def curveScalesRow : OpenClaim := { program := "ytbeolonbboibfaa", sum := "60c9ebd36170989bf0fa447c1cfef5de8e8ef1032a74e122db7f584b8a9e1f0e", func := "commutator/commutatorlaw09.CurveScales", spec := "curveScales", unfollowed := true, recurses := true, apart := false }
def CurveScalesSaid : Prop := curveScalesRow.holds Try.pinned (OpenSpec.ofChange curveScalesSpec)

/-- ITS FALSE NEIGHBOUR: 'it returns false'. Refute it at one input. -/
def curveScalesWrong : ChangeSpec := { name := "curveScales", fn := fun _ => fun
  | [d1, d2] => { results := [.lit (.bool false)], args := [d1, d2] }
  | _ => none }
def CurveScalesWrongFalsely : Prop := curveScalesRow.holds Try.pinned (OpenSpec.ofChange curveScalesWrong)

/-- 'commutatorlaw09.CurveBelow': WHATEVER THE INPUT: true; the input reads as it did. -/
def curveBelowSpec : ChangeSpec := { name := "curveBelow", fn := fun _ => fun
  | [d1, d2] => { results := [.lit (.bool true)], args := [d1, d2] }
  | _ => none }
def curveBelowRow : OpenClaim := { program := "ytbeolonbboibfaa", sum := "60c9ebd36170989bf0fa447c1cfef5de8e8ef1032a74e122db7f584b8a9e1f0e", func := "commutator/commutatorlaw09.CurveBelow", spec := "curveBelow", unfollowed := true, recurses := true, apart := false }
def CurveBelowSaid : Prop := curveBelowRow.holds Try.pinned (OpenSpec.ofChange curveBelowSpec)

/-- ITS FALSE NEIGHBOUR: 'it returns false'. Refute it at one input. -/
def curveBelowWrong : ChangeSpec := { name := "curveBelow", fn := fun _ => fun
  | [d1, d2] => { results := [.lit (.bool false)], args := [d1, d2] }
  | _ => none }
def CurveBelowWrongFalsely : Prop := curveBelowRow.holds Try.pinned (OpenSpec.ofChange curveBelowWrong)

/-- 'commutatorlaw09.CurveOrders': WHATEVER THE INPUT: true; the input reads as it did. -/
def curveOrdersSpec : ChangeSpec := { name := "curveOrders", fn := fun _ => fun
  | [d1, d2, d3] => { results := [.lit (.bool true)], args := [d1, d2, d3] }
  | _ => none }
def curveOrdersRow : OpenClaim := { program := "ytbeolonbboibfaa", sum := "60c9ebd36170989bf0fa447c1cfef5de8e8ef1032a74e122db7f584b8a9e1f0e", func := "commutator/commutatorlaw09.CurveOrders", spec := "curveOrders", unfollowed := true, recurses := true, apart := false }
def CurveOrdersSaid : Prop := curveOrdersRow.holds Try.pinned (OpenSpec.ofChange curveOrdersSpec)

/-- ITS FALSE NEIGHBOUR: 'it returns false'. Refute it at one input. -/
def curveOrdersWrong : ChangeSpec := { name := "curveOrders", fn := fun _ => fun
  | [d1, d2, d3] => { results := [.lit (.bool false)], args := [d1, d2, d3] }
  | _ => none }
def CurveOrdersWrongFalsely : Prop := curveOrdersRow.holds Try.pinned (OpenSpec.ofChange curveOrdersWrong)

/- THE SECOND FORM. 'bulk': how many values and letters a reading holds, each counted each time it is reached (what is shared counts as often as it is met; a slice's spare places count too). A statement '..UptoSaid' is the law's where the arguments, and the package variables that the reading takes, are together of bulk at most 1048576: NARROWER than '..Said'. Prove '..Said' where nothing that the law and all that it calls make is longer than what came in: it says more and counts as full. Else prove '..UptoSaid'. A law counts once. -/
mutual
def uptoBulk {H : Type} : DataW H → Nat
  | .lit (.string bytes) => bytes.length + 1
  | .lit _ => 1
  | .nil => 1
  | .ptr d => uptoBulk d + 1
  | .slice elems spare => uptoBulkAll elems + uptoBulkAll spare + 1
  | .agg parts => uptoBulkAll parts + 1
  | .iface _ d => uptoBulk d + 1
  | .map entries => uptoBulkEntries entries + 1
  | .held _ => 1
def uptoBulkAll {H : Type} : List (DataW H) → Nat
  | [] => 0
  | d :: r => uptoBulk d + uptoBulkAll r
def uptoBulkEntries {H : Type} : List (Lit × DataW H) → Nat
  | [] => 0
  | x :: r => uptoBulkEntry x + uptoBulkEntries r
def uptoBulkEntry {H : Type} : Lit × DataW H → Nat
  | (.string bytes, d) => bytes.length + uptoBulk d + 1
  | (_, d) => uptoBulk d + 1
 end
def uptoSmall : (H : Type) → List (DataW H) → Bool := fun _ ds => decide (uptoBulkAll ds ≤ 1048576)
def OpenSpec.upto (s : _root_.Go.ChangeSpec) : _root_.Go.OpenSpec := { _root_.Go.OpenSpec.ofChange s with cond := some uptoSmall }

/-- 'commutatorlaw09.CurveChecks', WHERE WHAT IT READS IS OF BULK AT MOST 1048576: true; the input reads as it did. -/
def curveChecksUptoRow : OpenClaim := { program := "ytbeolonbboibfaa", sum := "60c9ebd36170989bf0fa447c1cfef5de8e8ef1032a74e122db7f584b8a9e1f0e", func := "commutator/commutatorlaw09.CurveChecks", spec := "curveChecks", unfollowed := true, recurses := true, apart := false, narrowed := true }
def CurveChecksUptoSaid : Prop := curveChecksUptoRow.holds Try.pinned (OpenSpec.upto curveChecksSpec)

/-- 'commutatorlaw09.CurveAt', WHERE WHAT IT READS IS OF BULK AT MOST 1048576: true; the input reads as it did. -/
def curveAtUptoRow : OpenClaim := { program := "ytbeolonbboibfaa", sum := "60c9ebd36170989bf0fa447c1cfef5de8e8ef1032a74e122db7f584b8a9e1f0e", func := "commutator/commutatorlaw09.CurveAt", spec := "curveAt", unfollowed := true, recurses := true, apart := false, narrowed := true }
def CurveAtUptoSaid : Prop := curveAtUptoRow.holds Try.pinned (OpenSpec.upto curveAtSpec)

/-- 'commutatorlaw09.CurveInverts', WHERE WHAT IT READS IS OF BULK AT MOST 1048576: true; the input reads as it did. -/
def curveInvertsUptoRow : OpenClaim := { program := "ytbeolonbboibfaa", sum := "60c9ebd36170989bf0fa447c1cfef5de8e8ef1032a74e122db7f584b8a9e1f0e", func := "commutator/commutatorlaw09.CurveInverts", spec := "curveInverts", unfollowed := true, recurses := true, apart := false, narrowed := true }
def CurveInvertsUptoSaid : Prop := curveInvertsUptoRow.holds Try.pinned (OpenSpec.upto curveInvertsSpec)

/-- 'commutatorlaw09.CurvePoints', WHERE WHAT IT READS IS OF BULK AT MOST 1048576: true; the input reads as it did. -/
def curvePointsUptoRow : OpenClaim := { program := "ytbeolonbboibfaa", sum := "60c9ebd36170989bf0fa447c1cfef5de8e8ef1032a74e122db7f584b8a9e1f0e", func := "commutator/commutatorlaw09.CurvePoints", spec := "curvePoints", unfollowed := true, recurses := true, apart := false, narrowed := true }
def CurvePointsUptoSaid : Prop := curvePointsUptoRow.holds Try.pinned (OpenSpec.upto curvePointsSpec)

/-- 'commutatorlaw09.CurveGalois', WHERE WHAT IT READS IS OF BULK AT MOST 1048576: true; the input reads as it did. -/
def curveGaloisUptoRow : OpenClaim := { program := "ytbeolonbboibfaa", sum := "60c9ebd36170989bf0fa447c1cfef5de8e8ef1032a74e122db7f584b8a9e1f0e", func := "commutator/commutatorlaw09.CurveGalois", spec := "curveGalois", unfollowed := true, recurses := true, apart := false, narrowed := true }
def CurveGaloisUptoSaid : Prop := curveGaloisUptoRow.holds Try.pinned (OpenSpec.upto curveGaloisSpec)

/-- 'commutatorlaw09.CurveSteepest', WHERE WHAT IT READS IS OF BULK AT MOST 1048576: true; the input reads as it did. -/
def curveSteepestUptoRow : OpenClaim := { program := "ytbeolonbboibfaa", sum := "60c9ebd36170989bf0fa447c1cfef5de8e8ef1032a74e122db7f584b8a9e1f0e", func := "commutator/commutatorlaw09.CurveSteepest", spec := "curveSteepest", unfollowed := true, recurses := true, apart := false, narrowed := true }
def CurveSteepestUptoSaid : Prop := curveSteepestUptoRow.holds Try.pinned (OpenSpec.upto curveSteepestSpec)

/-- 'commutatorlaw09.CurveMonotone', WHERE WHAT IT READS IS OF BULK AT MOST 1048576: true; the input reads as it did. -/
def curveMonotoneUptoRow : OpenClaim := { program := "ytbeolonbboibfaa", sum := "60c9ebd36170989bf0fa447c1cfef5de8e8ef1032a74e122db7f584b8a9e1f0e", func := "commutator/commutatorlaw09.CurveMonotone", spec := "curveMonotone", unfollowed := true, recurses := true, apart := false, narrowed := true }
def CurveMonotoneUptoSaid : Prop := curveMonotoneUptoRow.holds Try.pinned (OpenSpec.upto curveMonotoneSpec)

/-- 'commutatorlaw09.CurveOdd', WHERE WHAT IT READS IS OF BULK AT MOST 1048576: true; the input reads as it did. -/
def curveOddUptoRow : OpenClaim := { program := "ytbeolonbboibfaa", sum := "60c9ebd36170989bf0fa447c1cfef5de8e8ef1032a74e122db7f584b8a9e1f0e", func := "commutator/commutatorlaw09.CurveOdd", spec := "curveOdd", unfollowed := true, recurses := true, apart := false, narrowed := true }
def CurveOddUptoSaid : Prop := curveOddUptoRow.holds Try.pinned (OpenSpec.upto curveOddSpec)

/-- 'commutatorlaw09.CurveScales', WHERE WHAT IT READS IS OF BULK AT MOST 1048576: true; the input reads as it did. -/
def curveScalesUptoRow : OpenClaim := { program := "ytbeolonbboibfaa", sum := "60c9ebd36170989bf0fa447c1cfef5de8e8ef1032a74e122db7f584b8a9e1f0e", func := "commutator/commutatorlaw09.CurveScales", spec := "curveScales", unfollowed := true, recurses := true, apart := false, narrowed := true }
def CurveScalesUptoSaid : Prop := curveScalesUptoRow.holds Try.pinned (OpenSpec.upto curveScalesSpec)

/-- 'commutatorlaw09.CurveBelow', WHERE WHAT IT READS IS OF BULK AT MOST 1048576: true; the input reads as it did. -/
def curveBelowUptoRow : OpenClaim := { program := "ytbeolonbboibfaa", sum := "60c9ebd36170989bf0fa447c1cfef5de8e8ef1032a74e122db7f584b8a9e1f0e", func := "commutator/commutatorlaw09.CurveBelow", spec := "curveBelow", unfollowed := true, recurses := true, apart := false, narrowed := true }
def CurveBelowUptoSaid : Prop := curveBelowUptoRow.holds Try.pinned (OpenSpec.upto curveBelowSpec)

/-- 'commutatorlaw09.CurveOrders', WHERE WHAT IT READS IS OF BULK AT MOST 1048576: true; the input reads as it did. -/
def curveOrdersUptoRow : OpenClaim := { program := "ytbeolonbboibfaa", sum := "60c9ebd36170989bf0fa447c1cfef5de8e8ef1032a74e122db7f584b8a9e1f0e", func := "commutator/commutatorlaw09.CurveOrders", spec := "curveOrders", unfollowed := true, recurses := true, apart := false, narrowed := true }
def CurveOrdersUptoSaid : Prop := curveOrdersUptoRow.holds Try.pinned (OpenSpec.upto curveOrdersSpec)

end Rows
end Go.Proofs.Ytbeolonbboibfaa
