/- The contracts of the statements' helpers (commutatorbase), each walked once.
   Conditions: none beyond each lemma's own. -/
import Derived.Test.YtfignlcplkihpaaBase
namespace Go.Proofs.Ytfignlcplkihpaa
open Go.ChangeShapes Go.WideShapes Go.ChangeAt Go.RowKit





/-- A number moved into lo to hi. -/
def clip (n lo hi : Int) : Int := max lo (min n hi)
theorem clip_bd (n lo hi : Int) (h : lo ≤ hi) : lo ≤ clip n lo hi ∧ clip n lo hi ≤ hi := by unfold clip; omega

theorem clip_any (n lo hi : Int) (w : World) :
    Calls Try.prog 8 #[.int .i64 n, .int .i64 lo, .int .i64 hi] w fun e w' => e = .returned (.int .i64 (clip n lo hi)) ∧ w = w' := by
  unfold clip
  go_enter Try.func8, Try.ntmps8
  go_wp2
  go_ret
  exact ⟨rfl, rfl⟩

end Go.Proofs.Ytfignlcplkihpaa
