/- The contracts of the statements' helpers (commutatorbase), each walked once.
   Conditions: none beyond each lemma's own. -/
import Derived.Test.YtbeolonbboibfaaBase
namespace Go.Proofs.Ytbeolonbboibfaa
open Go.ChangeShapes Go.WideShapes Go.ChangeAt Go.RowKit

theorem num_nil (w : World) :
    Calls Try.prog 16 #[.nilIface] w fun e w' => e = .returned (.int .i64 0) ∧ w = w' := by
  go_enter Try.func16, Try.ntmps16
  go_wp2
  go_ret
  exact ⟨rfl, rfl⟩

theorem as_errno (v : Value) (w : World) : (Instr.typeAssert (.iface 51 v) 29 51 true).run Try.prog w = .ok (.tuple #[v, .bool true]) w := by kernel_rfl

theorem num_err (n : Int) (w : World) :
    Calls Try.prog 16 #[.iface 51 (.int .i64 n)] w fun e w' => e = .returned (.int .i64 n) ∧ w = w' := by
  have ha := as_errno (.int .i64 n)
  go_enter Try.func16, Try.ntmps16
  go_wp2
  go_ret
  exact ⟨rfl, rfl⟩

theorem num_errv (n : Int) (w : World) :
    Calls Try.prog 16 #[errv n] w fun e w' => e = .returned (.int .i64 n) ∧ w = w' := by
  by_cases h : n = 0
  · subst h; exact num_nil w
  · rw [errv, if_neg h]; exact num_err n w

/-- A number moved into lo to hi. -/
def clip (n lo hi : Int) : Int := max lo (min n hi)
theorem clip_bd (n lo hi : Int) (h : lo ≤ hi) : lo ≤ clip n lo hi ∧ clip n lo hi ≤ hi := by unfold clip; omega

theorem clip_any (n lo hi : Int) (w : World) :
    Calls Try.prog 23 #[.int .i64 n, .int .i64 lo, .int .i64 hi] w fun e w' => e = .returned (.int .i64 (clip n lo hi)) ∧ w = w' := by
  unfold clip
  go_enter Try.func23, Try.ntmps23
  go_wp2
  go_ret
  exact ⟨rfl, rfl⟩

end Go.Proofs.Ytbeolonbboibfaa
