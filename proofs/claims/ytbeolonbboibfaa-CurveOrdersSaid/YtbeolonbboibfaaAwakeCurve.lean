/- The curve laws' fixed calls (awake), their look at the size (large).
   Conditions: none. -/
import Derived.Test.YtbeolonbboibfaaCurveInv
import Derived.Test.YtbeolonbboibfaaCurveSteep
import Derived.Test.YtbeolonbboibfaaCalls
namespace Go.Proofs.Ytbeolonbboibfaa
open Go.ChangeShapes Go.WideShapes Go.ChangeAt Go.RowKit

/-- The chapter's example. -/
def exc : Pl.Cv := ⟨3, 3, fun j => [-10, 0, 4].getD j 0, fun j => [-5, 0, 6].getD j 0⟩
theorem exc_chk : Pl.chk exc = 0 := by decide
theorem exc_at : Pl.atv exc 2 = 3 := by decide
theorem exc_least {r : Int} (h : Pl.Least exc 1 r) : r = 1 := by
  refine Pl.least_eq h ⟨by decide, by decide, by decide, fun t _ h2 => ?_⟩
  have := Pl.atv_mono (Pl.good_of exc exc_chk) (q := t) (q' := 0) (by omega)
  have e : Pl.atv exc 0 = 0 := by decide
  omega
/-- The example as a result: where its slices lie. -/
def ExRes (w : World) (e : Ending) (w' : World) : Prop := ∃ g1 g2 : Nat, e = .returned (.agg #[.slice (some ⟨g1, 0, none⟩) 3 3, .slice (some ⟨g2, 0, none⟩) 3 3]) ∧ Row w' (some ⟨g1, 0, none⟩) 3 exc.x ∧ Row w' (some ⟨g2, 0, none⟩) 3 exc.y ∧ Ext w w'
theorem lt3 {P : Nat → Prop} (h0 : P 0) (h1 : P 1) (h2 : P 2) (j : Nat) (hj : j < 3) : P j := by
  match j, hj with
  | 0, _ => exact h0
  | 1, _ => exact h1
  | 2, _ => exact h2
theorem example_any (w : World) : Calls Try.prog 34 #[] w (ExRes w) := by
  go_enter Try.func34, Try.ntmps34
  go_wp2
  go_returns
  refine ⟨_, _, rfl, ?_, ?_, (by repeat (first | with_reducible exact Ext.refl _ | with_reducible assumption | (with_reducible refine Ext.drew ?_) | (with_reducible refine Ext.drewN ?_ _) | (with_reducible refine Ext.alloc ?_ _) | (with_reducible refine Ext.setCell ?_ ?_ _) | (with_reducible refine Ext.trans ?_ (by with_reducible assumption)) | omega | (focus (simp <;> omega))))⟩
  · refine fun _ => ⟨_, 0, rfl, (by simp <;> omega), lt3 ?_ ?_ ?_⟩ <;> (simp [go_sem, exc] <;> omega)
  · refine fun _ => ⟨_, 0, rfl, (by simp <;> omega), lt3 ?_ ?_ ?_⟩ <;> (simp [go_sem, exc] <;> omega)

set_option maxRecDepth 100000 in
set_option maxHeartbeats 1000000 in
theorem awake09 (w : World) : Calls Try.prog 14 #[] w fun e w' => e = .returned (.bool true) ∧ Ext w w' := by
  go_enter Try.func14, Try.ntmps14
  go_wp2_with fail
  refine (example_any _).mono ?_
  rintro e w1 ⟨g1, g2, rfl, r1, r2, hx1⟩
  have c1 := cAt_ok (some ⟨g1, 0, none⟩) (some ⟨g2, 0, none⟩) 3 3 exc 2 w1 exc_chk r1 r2
  rw [exc_at] at c1
  have C1 : Hid (Calls Try.prog 19 #[.agg #[.slice (some ⟨g1, 0, none⟩) 3 3, .slice (some ⟨g2, 0, none⟩) 3 3], .int .i64 2] w1 fun e w' => e = .returned (.tuple #[.int .i64 3, .nilIface]) ∧ Ext w1 w') := Lib.hid c1
  clear c1 r1 r2
  go_wp2_with fail
  refine C1.out.mono ?_
  rintro e w2 ⟨rfl, hx2⟩
  clear C1
  go_wp2_with fail
  refine (example_any _).mono ?_
  rintro e w3 ⟨g3, g4, rfl, r1, r2, hx3⟩
  have c1 := inverse_ok (some ⟨g3, 0, none⟩) (some ⟨g4, 0, none⟩) 3 3 exc 1 w3 exc_chk r1 r2 (by decide)
  have C1 : Hid (Calls Try.prog 21 #[.agg #[.slice (some ⟨g3, 0, none⟩) 3 3, .slice (some ⟨g4, 0, none⟩) 3 3], .int .i64 1] w3 fun e w' => ∃ r, Pl.Least exc 1 r ∧ e = .returned (.tuple #[.int .i64 r, .nilIface]) ∧ Ext w3 w') := Lib.hid c1
  clear c1 r1 r2
  go_wp2_with fail
  refine C1.out.mono ?_
  rintro e w4 ⟨r, hr, rfl, hx4⟩
  obtain rfl := exc_least hr
  clear C1 hr
  go_wp2_with fail
  go_ret
  exact ⟨(by first | rfl | exact ret_true (by simp <;> omega)), (by repeat (first | with_reducible exact Ext.refl _ | with_reducible assumption | (with_reducible refine Ext.drew ?_) | (with_reducible refine Ext.drewN ?_ _) | (with_reducible refine Ext.alloc ?_ _) | (with_reducible refine Ext.setCell ?_ ?_ _) | (with_reducible refine Ext.trans ?_ (by with_reducible assumption)) | omega | (focus (simp <;> omega))))⟩

/-- Is a curve too large for a statement? -/
def lg (c : Pl.Cv) : Bool := decide (100 < c.nx) || decide (100 < c.ny)
theorem lg_same {c : Pl.Cv} (h : c.nx = c.ny) (hl : lg c = false) : lg ⟨c.nx, c.nx, c.x, c.y⟩ = false := by
  have e : lg ⟨c.nx, c.nx, c.x, c.y⟩ = lg c := by unfold lg; rw [← h]
  rw [e]; exact hl
theorem large_any (a b : Option Addr) (k l : Nat) (c : Pl.Cv) (w : World) : Calls Try.prog 15 #[.agg #[.slice a c.nx k, .slice b c.ny l]] w fun e w' => e = .returned (.bool (lg c)) ∧ Ext w w' := by
  unfold lg
  by_cases h : 100 < c.nx
  · have h' : (100 : Int) < (c.nx : Int) := by omega
    rw [decide_eq_true h, Bool.true_or]
    generalize c.nx = n at *
    generalize c.ny = m at *
    go_enter Try.func15, Try.ntmps15
    go_wp2_with fail
    go_ret
    exact ⟨rfl, (by repeat (first | with_reducible exact Ext.refl _ | with_reducible assumption | (with_reducible refine Ext.drew ?_) | (with_reducible refine Ext.drewN ?_ _) | (with_reducible refine Ext.alloc ?_ _) | (with_reducible refine Ext.setCell ?_ ?_ _) | (with_reducible refine Ext.trans ?_ (by with_reducible assumption)) | omega | (focus (simp <;> omega))))⟩
  · have h' : (c.nx : Int) ≤ 100 := by omega
    have e : decide ((100 : Int) < (c.ny : Int)) = decide (100 < c.ny) := by
      rcases Nat.lt_or_ge 100 c.ny with z | z
      · rw [decide_eq_true z]; exact decide_eq_true (by omega)
      · rw [decide_eq_false (by omega : ¬ 100 < c.ny)]; exact decide_eq_false (by omega)
    rw [decide_eq_false h, Bool.false_or, ← e]
    clear e
    have hb : decide ((100 : Int) < (c.nx : Int)) = false := decide_eq_false (by omega)
    generalize c.nx = n at *
    generalize c.ny = m at *
    go_enter Try.func15, Try.ntmps15
    go_wp2_with fail
    go_ret
    exact ⟨by first | rfl | (simp [hb]), (by repeat (first | with_reducible exact Ext.refl _ | with_reducible assumption | (with_reducible refine Ext.drew ?_) | (with_reducible refine Ext.drewN ?_ _) | (with_reducible refine Ext.alloc ?_ _) | (with_reducible refine Ext.setCell ?_ ?_ _) | (with_reducible refine Ext.trans ?_ (by with_reducible assumption)) | omega | (focus (simp <;> omega))))⟩

end Go.Proofs.Ytbeolonbboibfaa
