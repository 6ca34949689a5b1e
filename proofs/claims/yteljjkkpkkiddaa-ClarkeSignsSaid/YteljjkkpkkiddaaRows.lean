/-
  No cell of these rows narrows 'for every input' (looked for: loops, veiled, ifaces, maps, wideKeys, modest, calm, conditions, laid).
  DERIVED. THE GIVEN ROWS OF THIS SEAT. 8 by the template 'for every input the law returns true; each argument reads behind the call as it read before'; 0 by the template 'total and deterministic' (their statements: YteljjkkpkkiddaaTotals.lean).
  GIVEN WITH THE SEED: the statements are not yours to turn. If you find one false, say at which input.
  Laid BY PROGRAM, IN A SANDBOX (cutbox-rows.mjs): the forced cells as the released guide's own fill.sh prints them over the translation 1f91fc5885deeac6… (all of the seat's roots in one cut). By AI agents, Wed Nov 11 2026. No macro, syntax, notation, axiom, sorry.
-/
import Derived.Test.YteljjkkpkkiddaaChecked
import GoSem.Claim
import GoSem.ClaimJoined
import GoSem.ClaimMapViews
import Derived.JoinedTies
import Derived.KernelRfl
namespace Go.Proofs.Yteljjkkpkkiddaa
/- THE CELL 'sum', in the pinned program and in every row, IS THE sha256 OF THE DUMP (.gsa) THAT YteljjkkpkkiddaaProg.lean LOADS. Nothing in Lean hashes anything: it is a label: what it is worth is what the hold of that sum in a sandbox is worth. -/
noncomputable def Try.pinned : Pinned := { name := "yteljjkkpkkiddaa", sum := "1f91fc5885deeac6213bde1447697fd5738a80ab4c4b433927556e16d9235a96", checked := Try.checked }
namespace Rows
def none {H : Type} : Left H := { results := [], args := [] }

/-- 'commutatorlaw19.ClarkeCommon': WHATEVER THE INPUT: true; the input reads as it did. -/
def clarkeCommonSpec : ChangeSpec := { name := "clarkeCommon", fn := fun _ => fun
  | [d1, d2] => { results := [.lit (.bool true)], args := [d1, d2] }
  | _ => none }
def clarkeCommonRow : OpenClaim := { program := "yteljjkkpkkiddaa", sum := "1f91fc5885deeac6213bde1447697fd5738a80ab4c4b433927556e16d9235a96", func := "commutator/commutatorlaw19.ClarkeCommon", spec := "clarkeCommon", apart := false }
def ClarkeCommonSaid : Prop := clarkeCommonRow.holds Try.pinned (OpenSpec.ofChange clarkeCommonSpec)

/-- ITS FALSE NEIGHBOUR: 'it returns false'. Refute it at one input. -/
def clarkeCommonWrong : ChangeSpec := { name := "clarkeCommon", fn := fun _ => fun
  | [d1, d2] => { results := [.lit (.bool false)], args := [d1, d2] }
  | _ => none }
def ClarkeCommonWrongFalsely : Prop := clarkeCommonRow.holds Try.pinned (OpenSpec.ofChange clarkeCommonWrong)

/-- 'commutatorlaw19.ClarkeThere': WHATEVER THE INPUT: true; the input reads as it did. -/
def clarkeThereSpec : ChangeSpec := { name := "clarkeThere", fn := fun _ => fun
  | [d1, d2] => { results := [.lit (.bool true)], args := [d1, d2] }
  | _ => none }
def clarkeThereRow : OpenClaim := { program := "yteljjkkpkkiddaa", sum := "1f91fc5885deeac6213bde1447697fd5738a80ab4c4b433927556e16d9235a96", func := "commutator/commutatorlaw19.ClarkeThere", spec := "clarkeThere", apart := false }
def ClarkeThereSaid : Prop := clarkeThereRow.holds Try.pinned (OpenSpec.ofChange clarkeThereSpec)

/-- ITS FALSE NEIGHBOUR: 'it returns false'. Refute it at one input. -/
def clarkeThereWrong : ChangeSpec := { name := "clarkeThere", fn := fun _ => fun
  | [d1, d2] => { results := [.lit (.bool false)], args := [d1, d2] }
  | _ => none }
def ClarkeThereWrongFalsely : Prop := clarkeThereRow.holds Try.pinned (OpenSpec.ofChange clarkeThereWrong)

/-- 'commutatorlaw19.ClarkeReturn': WHATEVER THE INPUT: true; the input reads as it did. -/
def clarkeReturnSpec : ChangeSpec := { name := "clarkeReturn", fn := fun _ => fun
  | [d1, d2] => { results := [.lit (.bool true)], args := [d1, d2] }
  | _ => none }
def clarkeReturnRow : OpenClaim := { program := "yteljjkkpkkiddaa", sum := "1f91fc5885deeac6213bde1447697fd5738a80ab4c4b433927556e16d9235a96", func := "commutator/commutatorlaw19.ClarkeReturn", spec := "clarkeReturn", apart := false }
def ClarkeReturnSaid : Prop := clarkeReturnRow.holds Try.pinned (OpenSpec.ofChange clarkeReturnSpec)

/-- ITS FALSE NEIGHBOUR: 'it returns false'. Refute it at one input. -/
def clarkeReturnWrong : ChangeSpec := { name := "clarkeReturn", fn := fun _ => fun
  | [d1, d2] => { results := [.lit (.bool false)], args := [d1, d2] }
  | _ => none }
def ClarkeReturnWrongFalsely : Prop := clarkeReturnRow.holds Try.pinned (OpenSpec.ofChange clarkeReturnWrong)

/-- 'commutatorlaw19.ClarkeForward': WHATEVER THE INPUT: true; the input reads as it did. -/
def clarkeForwardSpec : ChangeSpec := { name := "clarkeForward", fn := fun _ => fun
  | [d1, d2, d3] => { results := [.lit (.bool true)], args := [d1, d2, d3] }
  | _ => none }
def clarkeForwardRow : OpenClaim := { program := "yteljjkkpkkiddaa", sum := "1f91fc5885deeac6213bde1447697fd5738a80ab4c4b433927556e16d9235a96", func := "commutator/commutatorlaw19.ClarkeForward", spec := "clarkeForward", apart := false }
def ClarkeForwardSaid : Prop := clarkeForwardRow.holds Try.pinned (OpenSpec.ofChange clarkeForwardSpec)

/-- ITS FALSE NEIGHBOUR: 'it returns false'. Refute it at one input. -/
def clarkeForwardWrong : ChangeSpec := { name := "clarkeForward", fn := fun _ => fun
  | [d1, d2, d3] => { results := [.lit (.bool false)], args := [d1, d2, d3] }
  | _ => none }
def ClarkeForwardWrongFalsely : Prop := clarkeForwardRow.holds Try.pinned (OpenSpec.ofChange clarkeForwardWrong)

/-- 'commutatorlaw19.ClarkeTwo': WHATEVER THE INPUT: true; the input reads as it did. -/
def clarkeTwoSpec : ChangeSpec := { name := "clarkeTwo", fn := fun _ => fun
  | [d1, d2] => { results := [.lit (.bool true)], args := [d1, d2] }
  | _ => none }
def clarkeTwoRow : OpenClaim := { program := "yteljjkkpkkiddaa", sum := "1f91fc5885deeac6213bde1447697fd5738a80ab4c4b433927556e16d9235a96", func := "commutator/commutatorlaw19.ClarkeTwo", spec := "clarkeTwo", apart := false }
def ClarkeTwoSaid : Prop := clarkeTwoRow.holds Try.pinned (OpenSpec.ofChange clarkeTwoSpec)

/-- ITS FALSE NEIGHBOUR: 'it returns false'. Refute it at one input. -/
def clarkeTwoWrong : ChangeSpec := { name := "clarkeTwo", fn := fun _ => fun
  | [d1, d2] => { results := [.lit (.bool false)], args := [d1, d2] }
  | _ => none }
def ClarkeTwoWrongFalsely : Prop := clarkeTwoRow.holds Try.pinned (OpenSpec.ofChange clarkeTwoWrong)

/-- 'commutatorlaw19.ClarkeSums': WHATEVER THE INPUT: true; the input reads as it did. -/
def clarkeSumsSpec : ChangeSpec := { name := "clarkeSums", fn := fun _ => fun
  | [d1, d2] => { results := [.lit (.bool true)], args := [d1, d2] }
  | _ => none }
def clarkeSumsRow : OpenClaim := { program := "yteljjkkpkkiddaa", sum := "1f91fc5885deeac6213bde1447697fd5738a80ab4c4b433927556e16d9235a96", func := "commutator/commutatorlaw19.ClarkeSums", spec := "clarkeSums", apart := false }
def ClarkeSumsSaid : Prop := clarkeSumsRow.holds Try.pinned (OpenSpec.ofChange clarkeSumsSpec)

/-- ITS FALSE NEIGHBOUR: 'it returns false'. Refute it at one input. -/
def clarkeSumsWrong : ChangeSpec := { name := "clarkeSums", fn := fun _ => fun
  | [d1, d2] => { results := [.lit (.bool false)], args := [d1, d2] }
  | _ => none }
def ClarkeSumsWrongFalsely : Prop := clarkeSumsRow.holds Try.pinned (OpenSpec.ofChange clarkeSumsWrong)

/-- 'commutatorlaw19.ClarkeBack': WHATEVER THE INPUT: true; the input reads as it did. -/
def clarkeBackSpec : ChangeSpec := { name := "clarkeBack", fn := fun _ => fun
  | [d1, d2] => { results := [.lit (.bool true)], args := [d1, d2] }
  | _ => none }
def clarkeBackRow : OpenClaim := { program := "yteljjkkpkkiddaa", sum := "1f91fc5885deeac6213bde1447697fd5738a80ab4c4b433927556e16d9235a96", func := "commutator/commutatorlaw19.ClarkeBack", spec := "clarkeBack", apart := false }
def ClarkeBackSaid : Prop := clarkeBackRow.holds Try.pinned (OpenSpec.ofChange clarkeBackSpec)

/-- ITS FALSE NEIGHBOUR: 'it returns false'. Refute it at one input. -/
def clarkeBackWrong : ChangeSpec := { name := "clarkeBack", fn := fun _ => fun
  | [d1, d2] => { results := [.lit (.bool false)], args := [d1, d2] }
  | _ => none }
def ClarkeBackWrongFalsely : Prop := clarkeBackRow.holds Try.pinned (OpenSpec.ofChange clarkeBackWrong)

/-- 'commutatorlaw19.ClarkeSigns': WHATEVER THE INPUT: true; the input reads as it did. -/
def clarkeSignsSpec : ChangeSpec := { name := "clarkeSigns", fn := fun _ => fun
  | [d1, d2, d3] => { results := [.lit (.bool true)], args := [d1, d2, d3] }
  | _ => none }
def clarkeSignsRow : OpenClaim := { program := "yteljjkkpkkiddaa", sum := "1f91fc5885deeac6213bde1447697fd5738a80ab4c4b433927556e16d9235a96", func := "commutator/commutatorlaw19.ClarkeSigns", spec := "clarkeSigns", apart := false }
def ClarkeSignsSaid : Prop := clarkeSignsRow.holds Try.pinned (OpenSpec.ofChange clarkeSignsSpec)

/-- ITS FALSE NEIGHBOUR: 'it returns false'. Refute it at one input. -/
def clarkeSignsWrong : ChangeSpec := { name := "clarkeSigns", fn := fun _ => fun
  | [d1, d2, d3] => { results := [.lit (.bool false)], args := [d1, d2, d3] }
  | _ => none }
def ClarkeSignsWrongFalsely : Prop := clarkeSignsRow.holds Try.pinned (OpenSpec.ofChange clarkeSignsWrong)

/- THE SECOND FORM. 'bulk': how many values and letters a reading holds, each counted each time it is reached (what is shared counts as often as it is met; a slice's spare places count too). A statement '..UptoSaid' is the law's where the arguments, and the package variables that the reading takes, are together of bulk at most 1048576: NARROWER than '..Said'. Prove '..Said' where nothing that the law and all that it calls make is longer than what came in: it says more and counts as full. Else prove '..UptoSaid'. A law counts once. -/
mutual
def uptoBulk {H : Type} : DataW H → Nat
  | .lit (.string bytes) => bytes.length + 1
  | .lit _ => 1
  | .nil => 1
  | .ptr d => uptoBulk d + 1
  | .slice elems spare => uptoBulkAll elems + uptoBulkAll spare + 1
  | .agg parts => uptoBulkAll parts + 1
  | .iface _ d => uptoBulk d + 1
  | .map entries => uptoBulkEntries entries + 1
  | .held _ => 1
def uptoBulkAll {H : Type} : List (DataW H) → Nat
  | [] => 0
  | d :: r => uptoBulk d + uptoBulkAll r
def uptoBulkEntries {H : Type} : List (Lit × DataW H) → Nat
  | [] => 0
  | x :: r => uptoBulkEntry x + uptoBulkEntries r
def uptoBulkEntry {H : Type} : Lit × DataW H → Nat
  | (.string bytes, d) => bytes.length + uptoBulk d + 1
  | (_, d) => uptoBulk d + 1
 end
def uptoSmall : (H : Type) → List (DataW H) → Bool := fun _ ds => decide (uptoBulkAll ds ≤ 1048576)
def OpenSpec.upto (s : _root_.Go.ChangeSpec) : _root_.Go.OpenSpec := { _root_.Go.OpenSpec.ofChange s with cond := some uptoSmall }

/-- 'commutatorlaw19.ClarkeCommon', WHERE WHAT IT READS IS OF BULK AT MOST 1048576: true; the input reads as it did. -/
def clarkeCommonUptoRow : OpenClaim := { program := "yteljjkkpkkiddaa", sum := "1f91fc5885deeac6213bde1447697fd5738a80ab4c4b433927556e16d9235a96", func := "commutator/commutatorlaw19.ClarkeCommon", spec := "clarkeCommon", apart := false, narrowed := true }
def ClarkeCommonUptoSaid : Prop := clarkeCommonUptoRow.holds Try.pinned (OpenSpec.upto clarkeCommonSpec)

/-- 'commutatorlaw19.ClarkeThere', WHERE WHAT IT READS IS OF BULK AT MOST 1048576: true; the input reads as it did. -/
def clarkeThereUptoRow : OpenClaim := { program := "yteljjkkpkkiddaa", sum := "1f91fc5885deeac6213bde1447697fd5738a80ab4c4b433927556e16d9235a96", func := "commutator/commutatorlaw19.ClarkeThere", spec := "clarkeThere", apart := false, narrowed := true }
def ClarkeThereUptoSaid : Prop := clarkeThereUptoRow.holds Try.pinned (OpenSpec.upto clarkeThereSpec)

/-- 'commutatorlaw19.ClarkeReturn', WHERE WHAT IT READS IS OF BULK AT MOST 1048576: true; the input reads as it did. -/
def clarkeReturnUptoRow : OpenClaim := { program := "yteljjkkpkkiddaa", sum := "1f91fc5885deeac6213bde1447697fd5738a80ab4c4b433927556e16d9235a96", func := "commutator/commutatorlaw19.ClarkeReturn", spec := "clarkeReturn", apart := false, narrowed := true }
def ClarkeReturnUptoSaid : Prop := clarkeReturnUptoRow.holds Try.pinned (OpenSpec.upto clarkeReturnSpec)

/-- 'commutatorlaw19.ClarkeForward', WHERE WHAT IT READS IS OF BULK AT MOST 1048576: true; the input reads as it did. -/
def clarkeForwardUptoRow : OpenClaim := { program := "yteljjkkpkkiddaa", sum := "1f91fc5885deeac6213bde1447697fd5738a80ab4c4b433927556e16d9235a96", func := "commutator/commutatorlaw19.ClarkeForward", spec := "clarkeForward", apart := false, narrowed := true }
def ClarkeForwardUptoSaid : Prop := clarkeForwardUptoRow.holds Try.pinned (OpenSpec.upto clarkeForwardSpec)

/-- 'commutatorlaw19.ClarkeTwo', WHERE WHAT IT READS IS OF BULK AT MOST 1048576: true; the input reads as it did. -/
def clarkeTwoUptoRow : OpenClaim := { program := "yteljjkkpkkiddaa", sum := "1f91fc5885deeac6213bde1447697fd5738a80ab4c4b433927556e16d9235a96", func := "commutator/commutatorlaw19.ClarkeTwo", spec := "clarkeTwo", apart := false, narrowed := true }
def ClarkeTwoUptoSaid : Prop := clarkeTwoUptoRow.holds Try.pinned (OpenSpec.upto clarkeTwoSpec)

/-- 'commutatorlaw19.ClarkeSums', WHERE WHAT IT READS IS OF BULK AT MOST 1048576: true; the input reads as it did. -/
def clarkeSumsUptoRow : OpenClaim := { program := "yteljjkkpkkiddaa", sum := "1f91fc5885deeac6213bde1447697fd5738a80ab4c4b433927556e16d9235a96", func := "commutator/commutatorlaw19.ClarkeSums", spec := "clarkeSums", apart := false, narrowed := true }
def ClarkeSumsUptoSaid : Prop := clarkeSumsUptoRow.holds Try.pinned (OpenSpec.upto clarkeSumsSpec)

/-- 'commutatorlaw19.ClarkeBack', WHERE WHAT IT READS IS OF BULK AT MOST 1048576: true; the input reads as it did. -/
def clarkeBackUptoRow : OpenClaim := { program := "yteljjkkpkkiddaa", sum := "1f91fc5885deeac6213bde1447697fd5738a80ab4c4b433927556e16d9235a96", func := "commutator/commutatorlaw19.ClarkeBack", spec := "clarkeBack", apart := false, narrowed := true }
def ClarkeBackUptoSaid : Prop := clarkeBackUptoRow.holds Try.pinned (OpenSpec.upto clarkeBackSpec)

/-- 'commutatorlaw19.ClarkeSigns', WHERE WHAT IT READS IS OF BULK AT MOST 1048576: true; the input reads as it did. -/
def clarkeSignsUptoRow : OpenClaim := { program := "yteljjkkpkkiddaa", sum := "1f91fc5885deeac6213bde1447697fd5738a80ab4c4b433927556e16d9235a96", func := "commutator/commutatorlaw19.ClarkeSigns", spec := "clarkeSigns", apart := false, narrowed := true }
def ClarkeSignsUptoSaid : Prop := clarkeSignsUptoRow.holds Try.pinned (OpenSpec.upto clarkeSignsSpec)

end Rows
end Go.Proofs.Yteljjkkpkkiddaa
