/- The contracts of package vector's functions, each walked once.
   Conditions: the bounds that each names. -/
import Derived.Test.YtmifegcbhcgkfaaClarke
import Derived.Test.YtmifegcbhcgkfaaPlainVector
import Derived.Test.YtmifegcbhcgkfaaBlk
namespace Go.Proofs.Ytmifegcbhcgkfaa
open Go.ChangeShapes Go.WideShapes Go.ChangeAt Go.RowKit

def LinkOK (x : Int) : Prop := 1 ≤ x ∧ x ≤ 1048576
def PerOK (x : Int) : Prop := 64 ≤ x ∧ x ≤ 4096
def VoltOK (x : Int) : Prop := -1048576 ≤ x ∧ x ≤ 1048576

theorem within_t (n lo hi : Int) (w : World) (h1 : lo ≤ n) (h2 : n ≤ hi) :
    Calls Try.prog 39 #[.int .i64 n, .int .i64 lo, .int .i64 hi] w fun e w' => e = .returned (.bool true) ∧ w = w' := by
  go_enter Try.func39, Try.ntmps39
  go_wp2
  go_ret
  exact ⟨(by first | rfl | exact ret_true (by simp <;> omega)), rfl⟩
theorem within_f (n lo hi : Int) (w : World) (h : ¬ (lo ≤ n ∧ n ≤ hi)) :
    Calls Try.prog 39 #[.int .i64 n, .int .i64 lo, .int .i64 hi] w fun e w' => e = .returned (.bool false) ∧ w = w' := by
  rcases Int.lt_or_le n lo with h1 | h1
  · clear h
    go_enter Try.func39, Try.ntmps39
    go_wp2
    go_ret
    exact ⟨rfl, rfl⟩
  · have h2 : hi < n := by omega
    have h3 : decide (n ≤ hi) = false := decide_eq_false (by omega)
    clear h
    go_enter Try.func39, Try.ntmps39
    go_wp2
    go_ret
    exact ⟨rfl, rfl⟩

theorem isLink_t (x : Int) (w : World) (h : LinkOK x) :
    Calls Try.prog 24 #[.int .i64 x] w fun e w' => e = .returned (.bool true) ∧ w = w' := by
  go_enter Try.func24, Try.ntmps24
  go_wp2_with (go_at_call 39; refine (within_t _ _ _ _ h.1 h.2).mono ?_; rintro e w' ⟨rfl, rfl⟩)
  go_ret
  exact ⟨rfl, rfl⟩
theorem isLink_f (x : Int) (w : World) (h : ¬ LinkOK x) :
    Calls Try.prog 24 #[.int .i64 x] w fun e w' => e = .returned (.bool false) ∧ w = w' := by
  have H := Lib.hid h
  clear h
  go_enter Try.func24, Try.ntmps24
  go_wp2_with (go_at_call 39; refine (within_f _ _ _ _ H.out).mono ?_; rintro e w' ⟨rfl, rfl⟩)
  go_ret
  exact ⟨rfl, rfl⟩
theorem isPeriod_t (x : Int) (w : World) (h : PerOK x) :
    Calls Try.prog 25 #[.int .i64 x] w fun e w' => e = .returned (.bool true) ∧ w = w' := by
  go_enter Try.func25, Try.ntmps25
  go_wp2_with (go_at_call 39; refine (within_t _ _ _ _ h.1 h.2).mono ?_; rintro e w' ⟨rfl, rfl⟩)
  go_ret
  exact ⟨rfl, rfl⟩
theorem isPeriod_f (x : Int) (w : World) (h : ¬ PerOK x) :
    Calls Try.prog 25 #[.int .i64 x] w fun e w' => e = .returned (.bool false) ∧ w = w' := by
  have H := Lib.hid h
  clear h
  go_enter Try.func25, Try.ntmps25
  go_wp2_with (go_at_call 39; refine (within_f _ _ _ _ H.out).mono ?_; rintro e w' ⟨rfl, rfl⟩)
  go_ret
  exact ⟨rfl, rfl⟩
theorem isVector_t (x y : Int) (w : World) (h : VoltOK x) (h' : VoltOK y) :
    Calls Try.prog 26 #[.int .i64 x, .int .i64 y] w fun e w' => e = .returned (.bool true) ∧ w = w' := by
  go_enter Try.func26, Try.ntmps26
  go_wp2_with fail
  refine (within_t _ _ _ _ h.1 h.2).mono ?_
  rintro e w' ⟨rfl, rfl⟩
  go_wp2_with fail
  refine (within_t _ _ _ _ h'.1 h'.2).mono ?_
  rintro e w' ⟨rfl, rfl⟩
  go_wp2_with fail
  go_ret
  exact ⟨rfl, rfl⟩
theorem isVector_f (x y : Int) (w : World) (h : ¬ (VoltOK x ∧ VoltOK y)) :
    Calls Try.prog 26 #[.int .i64 x, .int .i64 y] w fun e w' => e = .returned (.bool false) ∧ w = w' := by
  by_cases hx : VoltOK x
  · have H := Lib.hid (fun hy : VoltOK y => h ⟨hx, hy⟩)
    clear h
    go_enter Try.func26, Try.ntmps26
    go_wp2_with fail
    refine (within_t _ _ _ _ hx.1 hx.2).mono ?_
    rintro e w' ⟨rfl, rfl⟩
    go_wp2_with fail
    refine (within_f _ _ _ _ H.out).mono ?_
    rintro e w' ⟨rfl, rfl⟩
    go_wp2_with fail
    go_ret
    exact ⟨rfl, rfl⟩
  · have H := Lib.hid hx
    clear h hx
    go_enter Try.func26, Try.ntmps26
    go_wp2_with fail
    refine (within_f _ _ _ _ H.out).mono ?_
    rintro e w' ⟨rfl, rfl⟩
    go_wp2_with fail
    go_ret
    exact ⟨rfl, rfl⟩

theorem volt_in30 {x : Int} (h : VoltOK x) : In30 x := ⟨by have := h.1; omega, by have := h.2; omega⟩

theorem inside_ok (x y link : Int) (w : World) (hx : VoltOK x) (hy : VoltOK y) (hl : LinkOK link) :
    Calls Try.prog 15 #[.int .i64 x, .int .i64 y, .int .i64 link] w fun e w' => e = .returned (.tuple #[.bool (decide (Pl.sp x y ≤ link)), .nilIface]) ∧ Ext w w' := by
  go_enter Try.func15, Try.ntmps15
  go_wp2_with (first | (go_at_call 24; refine (isLink_t _ _ hl).mono ?_; rintro e w' ⟨rfl, rfl⟩) | (go_at_call 26; refine (isVector_t _ _ _ hx hy).mono ?_; rintro e w' ⟨rfl, rfl⟩) | (go_at_call 32; refine (span_ok x y _ (volt_in30 hx) (volt_in30 hy)).mono ?_; rintro e w1 ⟨rfl, hx1⟩))
  go_ret2
  exact ⟨rfl, (by repeat (first | with_reducible exact Ext.refl _ | with_reducible assumption | (with_reducible refine Ext.drew ?_) | (with_reducible refine Ext.drewN ?_ _) | (with_reducible refine Ext.alloc ?_ _) | (with_reducible refine Ext.setCell ?_ ?_ _) | (with_reducible refine Ext.trans ?_ (by with_reducible assumption)) | omega | (focus (simp <;> omega))))⟩
theorem inside_bad (x y link : Int) (w : World) (h : ¬ (LinkOK link ∧ VoltOK x ∧ VoltOK y)) :
    Calls Try.prog 15 #[.int .i64 x, .int .i64 y, .int .i64 link] w fun e w' => e = .returned (.tuple #[.bool false, errv 3]) ∧ Ext w w' := by
  rw [errv_3]
  by_cases hl : LinkOK link
  · have H := Lib.hid (fun hh : VoltOK x ∧ VoltOK y => h ⟨hl, hh⟩)
    clear h
    go_enter Try.func15, Try.ntmps15
    go_wp2_with (first | (go_at_call 24; refine (isLink_t _ _ hl).mono ?_; rintro e w' ⟨rfl, rfl⟩) | (go_at_call 26; refine (isVector_f _ _ _ H.out).mono ?_; rintro e w' ⟨rfl, rfl⟩))
    go_ret2
    exact ⟨rfl, (by repeat (first | with_reducible exact Ext.refl _ | with_reducible assumption | (with_reducible refine Ext.drew ?_) | (with_reducible refine Ext.drewN ?_ _) | (with_reducible refine Ext.alloc ?_ _) | (with_reducible refine Ext.setCell ?_ ?_ _) | (with_reducible refine Ext.trans ?_ (by with_reducible assumption)) | omega | (focus (simp <;> omega))))⟩
  · have H := Lib.hid hl
    clear h hl
    go_enter Try.func15, Try.ntmps15
    go_wp2_with (go_at_call 24; refine (isLink_f _ _ H.out).mono ?_; rintro e w' ⟨rfl, rfl⟩)
    go_ret2
    exact ⟨rfl, (by repeat (first | with_reducible exact Ext.refl _ | with_reducible assumption | (with_reducible refine Ext.drew ?_) | (with_reducible refine Ext.drewN ?_ _) | (with_reducible refine Ext.alloc ?_ _) | (with_reducible refine Ext.setCell ?_ ?_ _) | (with_reducible refine Ext.trans ?_ (by with_reducible assumption)) | omega | (focus (simp <;> omega))))⟩

end Go.Proofs.Ytmifegcbhcgkfaa
