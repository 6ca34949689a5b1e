/- The contracts of package vector's functions, each walked once.
   Conditions: the bounds that each names. -/
import Derived.Test.YtfignlcplkihpaaClarke
import Derived.Test.YtfignlcplkihpaaPlainVector
import Derived.Test.YtfignlcplkihpaaBlk
namespace Go.Proofs.Ytfignlcplkihpaa
open Go.ChangeShapes Go.WideShapes Go.ChangeAt Go.RowKit

def LinkOK (x : Int) : Prop := 1 ≤ x ∧ x ≤ 1048576
def PerOK (x : Int) : Prop := 64 ≤ x ∧ x ≤ 4096
def VoltOK (x : Int) : Prop := -1048576 ≤ x ∧ x ≤ 1048576
theorem volt_in30 {x : Int} (h : VoltOK x) : In30 x := ⟨by have := h.1; omega, by have := h.2; omega⟩

theorem within_t (n lo hi : Int) (w : World) (h1 : lo ≤ n) (h2 : n ≤ hi) :
    Calls Try.prog 35 #[.int .i64 n, .int .i64 lo, .int .i64 hi] w fun e w' => e = .returned (.bool true) ∧ w = w' := by
  go_enter Try.func35, Try.ntmps35
  go_wp2
  go_ret
  exact ⟨(by first | rfl | exact ret_true (by simp <;> omega)), rfl⟩
theorem within_f (n lo hi : Int) (w : World) (h : ¬ (lo ≤ n ∧ n ≤ hi)) :
    Calls Try.prog 35 #[.int .i64 n, .int .i64 lo, .int .i64 hi] w fun e w' => e = .returned (.bool false) ∧ w = w' := by
  rcases Int.lt_or_le n lo with h1 | h1
  · clear h
    go_enter Try.func35, Try.ntmps35
    go_wp2
    go_ret
    exact ⟨rfl, rfl⟩
  · have h2 : hi < n := by omega
    have h3 : decide (n ≤ hi) = false := decide_eq_false (by omega)
    clear h
    go_enter Try.func35, Try.ntmps35
    go_wp2
    go_ret
    exact ⟨rfl, rfl⟩

theorem isLink_t (x : Int) (w : World) (h : LinkOK x) :
    Calls Try.prog 17 #[.int .i64 x] w fun e w' => e = .returned (.bool true) ∧ w = w' := by
  go_enter Try.func17, Try.ntmps17
  go_wp2_with (go_at_call 35; refine (within_t _ _ _ _ h.1 h.2).mono ?_; rintro e w' ⟨rfl, rfl⟩)
  go_ret
  exact ⟨rfl, rfl⟩
theorem isLink_f (x : Int) (w : World) (h : ¬ LinkOK x) :
    Calls Try.prog 17 #[.int .i64 x] w fun e w' => e = .returned (.bool false) ∧ w = w' := by
  have H := Lib.hid h
  clear h
  go_enter Try.func17, Try.ntmps17
  go_wp2_with (go_at_call 35; refine (within_f _ _ _ _ H.out).mono ?_; rintro e w' ⟨rfl, rfl⟩)
  go_ret
  exact ⟨rfl, rfl⟩
theorem isPeriod_t (x : Int) (w : World) (h : PerOK x) :
    Calls Try.prog 18 #[.int .i64 x] w fun e w' => e = .returned (.bool true) ∧ w = w' := by
  go_enter Try.func18, Try.ntmps18
  go_wp2_with (go_at_call 35; refine (within_t _ _ _ _ h.1 h.2).mono ?_; rintro e w' ⟨rfl, rfl⟩)
  go_ret
  exact ⟨rfl, rfl⟩
theorem isPeriod_f (x : Int) (w : World) (h : ¬ PerOK x) :
    Calls Try.prog 18 #[.int .i64 x] w fun e w' => e = .returned (.bool false) ∧ w = w' := by
  have H := Lib.hid h
  clear h
  go_enter Try.func18, Try.ntmps18
  go_wp2_with (go_at_call 35; refine (within_f _ _ _ _ H.out).mono ?_; rintro e w' ⟨rfl, rfl⟩)
  go_ret
  exact ⟨rfl, rfl⟩
theorem isVector_t (x y : Int) (w : World) (h : VoltOK x) (h' : VoltOK y) :
    Calls Try.prog 19 #[.int .i64 x, .int .i64 y] w fun e w' => e = .returned (.bool true) ∧ w = w' := by
  go_enter Try.func19, Try.ntmps19
  go_wp2_with fail
  refine (within_t _ _ _ _ h.1 h.2).mono ?_
  rintro e w' ⟨rfl, rfl⟩
  go_wp2_with fail
  refine (within_t _ _ _ _ h'.1 h'.2).mono ?_
  rintro e w' ⟨rfl, rfl⟩
  go_wp2_with fail
  go_ret
  exact ⟨rfl, rfl⟩
theorem isVector_f (x y : Int) (w : World) (h : ¬ (VoltOK x ∧ VoltOK y)) :
    Calls Try.prog 19 #[.int .i64 x, .int .i64 y] w fun e w' => e = .returned (.bool false) ∧ w = w' := by
  by_cases hx : VoltOK x
  · have H := Lib.hid (fun hy : VoltOK y => h ⟨hx, hy⟩)
    clear h
    go_enter Try.func19, Try.ntmps19
    go_wp2_with fail
    refine (within_t _ _ _ _ hx.1 hx.2).mono ?_
    rintro e w' ⟨rfl, rfl⟩
    go_wp2_with fail
    refine (within_f _ _ _ _ H.out).mono ?_
    rintro e w' ⟨rfl, rfl⟩
    go_wp2_with fail
    go_ret
    exact ⟨rfl, rfl⟩
  · have H := Lib.hid hx
    clear h hx
    go_enter Try.func19, Try.ntmps19
    go_wp2_with fail
    refine (within_f _ _ _ _ H.out).mono ?_
    rintro e w' ⟨rfl, rfl⟩
    go_wp2_with fail
    go_ret
    exact ⟨rfl, rfl⟩



end Go.Proofs.Ytfignlcplkihpaa
