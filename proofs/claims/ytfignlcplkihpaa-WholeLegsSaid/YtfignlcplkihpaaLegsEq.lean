/- Two equal states compare equal.
   Conditions: none. -/
import Derived.Test.YtfignlcplkihpaaGates
import Derived.Laws.StructEq
import Derived.Laws.Cover2
namespace Go.Proofs.Ytfignlcplkihpaa
open Go.ChangeShapes Go.WideShapes Go.ChangeAt Go.RowKit

theorem leg_eq (n : Nat) (s d : Int) (w : World) : (Op.equalIn (n + 1 + 1) 28 (.agg #[.int .i64 s, .int .i64 d]) (.agg #[.int .i64 s, .int .i64 d])).run Try.prog w = .ok true w := by
  have u3 := Try.underlying3
  have a3 := Try.isAgg3
  have z3 := Try.sizeOf3
  have hS : Try.prog.underlying 28 = some (.struct (Try.prog.fieldsOf 28)) := by kernel_rfl
  have hp : Try.prog.stoodInHeld 28 = false := by kernel_rfl
  rw [run_equalIn_agg w (n + 1) 28 _ _ hS hp]
  simp only [Program.fieldsOf, Try.underlying28]
  go_simp
  done
theorem legs_eq (s0 d0 s1 d1 s2 d2 : Int) (w : World) : (Op.equalIn 10000 29 (.agg #[.int .i64 s0, .int .i64 d0, .int .i64 s1, .int .i64 d1, .int .i64 s2, .int .i64 d2]) (.agg #[.int .i64 s0, .int .i64 d0, .int .i64 s1, .int .i64 d1, .int .i64 s2, .int .i64 d2])).run Try.prog w = .ok true w := by
  have z3 := Try.sizeOf28
  have a3 := Try.isAgg28
  rw [show (10000 : Nat) = 9997 + 1 + 1 + 1 from rfl, Op.equalIn]
  simp only [Sem.run_bind, run_underlying Try.underlying29, Result.andThen_ok]
  simp only [Std.Legacy.Range.forIn_eq_forIn_range', Std.Legacy.Range.size, Nat.sub_zero, Nat.add_sub_cancel, Nat.div_one, List.range'_succ, List.range'_zero, List.forIn_cons, List.forIn_nil]
  have L0 := fun w => leg_eq 9997 s0 d0 w
  have L1 := fun w => leg_eq 9997 s1 d1 w
  have L2 := fun w => leg_eq 9997 s2 d2 w
  go_simp
  done
theorem legs_neq (s0 d0 s1 d1 s2 d2 : Int) (w : World) : (binOp .neq 29 (.agg #[.int .i64 s0, .int .i64 d0, .int .i64 s1, .int .i64 d1, .int .i64 s2, .int .i64 d2]) (.agg #[.int .i64 s0, .int .i64 d0, .int .i64 s1, .int .i64 d1, .int .i64 s2, .int .i64 d2])).run Try.prog w = .ok (.bool false) w := by
  simp only [binOp]
  simp [Op.equal, Op.maxDepth, legs_eq]

end Go.Proofs.Ytfignlcplkihpaa
