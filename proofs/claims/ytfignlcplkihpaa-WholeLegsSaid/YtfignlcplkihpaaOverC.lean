/- The contracts of package overmod's functions, each walked once.
   Conditions: the bounds that each names. -/
import Derived.Test.YtfignlcplkihpaaVector
import Derived.Test.YtfignlcplkihpaaRoot
import Derived.Test.YtfignlcplkihpaaPlainOver
namespace Go.Proofs.Ytfignlcplkihpaa
open Go.ChangeShapes Go.WideShapes Go.ChangeAt Go.RowKit

def MinOK (x : Int) : Prop := 16 ≤ x ∧ x ≤ 1048576
def OverOK (x y l : Int) : Prop := MinOK l ∧ VoltOK x ∧ VoltOK y
theorem min_link {l : Int} (h : MinOK l) : LinkOK l := ⟨by have := h.1; omega, h.2⟩
theorem over_within {x y l : Int} (h : OverOK x y l) : WithinOK x y (Pl.rad l) :=
  ⟨volt_in30 h.2.1, volt_in30 h.2.2, by have := Pl.rad_bd l h.1.1 h.1.2; exact ⟨by omega, by omega⟩, by have := Pl.rad_bd l h.1.1 h.1.2; omega⟩

theorem owithin_t (n lo hi : Int) (w : World) (h1 : lo ≤ n) (h2 : n ≤ hi) :
    Calls Try.prog 32 #[.int .i64 n, .int .i64 lo, .int .i64 hi] w fun e w' => e = .returned (.bool true) ∧ w = w' := by
  go_enter Try.func32, Try.ntmps32
  go_wp2
  go_ret
  exact ⟨(by first | rfl | exact ret_true (by simp <;> omega)), rfl⟩
theorem owithin_f (n lo hi : Int) (w : World) (h : ¬ (lo ≤ n ∧ n ≤ hi)) :
    Calls Try.prog 32 #[.int .i64 n, .int .i64 lo, .int .i64 hi] w fun e w' => e = .returned (.bool false) ∧ w = w' := by
  rcases Int.lt_or_le n lo with h1 | h1
  · clear h
    go_enter Try.func32, Try.ntmps32
    go_wp2
    go_ret
    exact ⟨rfl, rfl⟩
  · have h2 : hi < n := by omega
    have h3 : decide (n ≤ hi) = false := decide_eq_false (by omega)
    clear h
    go_enter Try.func32, Try.ntmps32
    go_wp2
    go_ret
    exact ⟨rfl, rfl⟩

theorem check_ok (x y l : Int) (w : World) (h : OverOK x y l) :
    Calls Try.prog 14 #[.int .i64 x, .int .i64 y, .int .i64 l] w fun e w' => e = .returned (.nilIface) ∧ Ext w w' := by
  obtain ⟨hl, hx, hy⟩ := h
  go_enter Try.func14, Try.ntmps14
  go_wp2_with fail
  refine (owithin_t _ _ _ _ hl.1 hl.2).mono ?_
  rintro e w0 ⟨rfl, rfl⟩
  go_wp2_with fail
  refine (owithin_t _ _ _ _ hx.1 hx.2).mono ?_
  rintro e w0 ⟨rfl, rfl⟩
  go_wp2_with fail
  refine (owithin_t _ _ _ _ hy.1 hy.2).mono ?_
  rintro e w0 ⟨rfl, rfl⟩
  go_wp2_with fail
  go_ret
  exact ⟨rfl, (by repeat (first | with_reducible exact Ext.refl _ | with_reducible assumption | (with_reducible refine Ext.drew ?_) | (with_reducible refine Ext.drewN ?_ _) | (with_reducible refine Ext.alloc ?_ _) | (with_reducible refine Ext.setCell ?_ ?_ _) | (with_reducible refine Ext.trans ?_ (by with_reducible assumption)) | omega | (focus (simp <;> omega))))⟩

theorem check_bad (x y l : Int) (w : World) (h : ¬ OverOK x y l) :
    Calls Try.prog 14 #[.int .i64 x, .int .i64 y, .int .i64 l] w fun e w' => e = .returned (errv 3) ∧ Ext w w' := by
  rw [errv_3]
  by_cases hl : MinOK l
  · by_cases hx : VoltOK x
    · have H := Lib.hid (fun hy : VoltOK y => h ⟨hl, hx, hy⟩)
      clear h
      go_enter Try.func14, Try.ntmps14
      go_wp2_with fail
      refine (owithin_t _ _ _ _ hl.1 hl.2).mono ?_
      rintro e w0 ⟨rfl, rfl⟩
      go_wp2_with fail
      refine (owithin_t _ _ _ _ hx.1 hx.2).mono ?_
      rintro e w0 ⟨rfl, rfl⟩
      go_wp2_with fail
      refine (owithin_f _ _ _ _ H.out).mono ?_
      rintro e w0 ⟨rfl, rfl⟩
      go_wp2_with fail
      go_ret
      exact ⟨rfl, (by repeat (first | with_reducible exact Ext.refl _ | with_reducible assumption | (with_reducible refine Ext.drew ?_) | (with_reducible refine Ext.drewN ?_ _) | (with_reducible refine Ext.alloc ?_ _) | (with_reducible refine Ext.setCell ?_ ?_ _) | (with_reducible refine Ext.trans ?_ (by with_reducible assumption)) | omega | (focus (simp <;> omega))))⟩
    · have H := Lib.hid hx
      clear h hx
      go_enter Try.func14, Try.ntmps14
      go_wp2_with fail
      refine (owithin_t _ _ _ _ hl.1 hl.2).mono ?_
      rintro e w0 ⟨rfl, rfl⟩
      go_wp2_with fail
      refine (owithin_f _ _ _ _ H.out).mono ?_
      rintro e w0 ⟨rfl, rfl⟩
      go_wp2_with fail
      go_ret
      exact ⟨rfl, (by repeat (first | with_reducible exact Ext.refl _ | with_reducible assumption | (with_reducible refine Ext.drew ?_) | (with_reducible refine Ext.drewN ?_ _) | (with_reducible refine Ext.alloc ?_ _) | (with_reducible refine Ext.setCell ?_ ?_ _) | (with_reducible refine Ext.trans ?_ (by with_reducible assumption)) | omega | (focus (simp <;> omega))))⟩
  · have H := Lib.hid hl
    clear h hl
    go_enter Try.func14, Try.ntmps14
    go_wp2_with fail
    refine (owithin_f _ _ _ _ H.out).mono ?_
    rintro e w0 ⟨rfl, rfl⟩
    go_wp2_with fail
    go_ret
    exact ⟨rfl, (by repeat (first | with_reducible exact Ext.refl _ | with_reducible assumption | (with_reducible refine Ext.drew ?_) | (with_reducible refine Ext.drewN ?_ _) | (with_reducible refine Ext.alloc ?_ _) | (with_reducible refine Ext.setCell ?_ ?_ _) | (with_reducible refine Ext.trans ?_ (by with_reducible assumption)) | omega | (focus (simp <;> omega))))⟩

theorem radius_ok (l : Int) (w : World) (h : MinOK l) :
    Calls Try.prog 15 #[.int .i64 l] w fun e w' => e = .returned (.tuple #[.int .i64 (Pl.rad l), .nilIface]) ∧ Ext w w' := by
  have OK : OverOK 0 0 l := ⟨h, ⟨by decide, by decide⟩, ⟨by decide, by decide⟩⟩
  have ⟨h1, h2⟩ := h
  have hr := Pl.rad_bd l h1 h2
  unfold Pl.rad at hr ⊢
  go_enter Try.func15, Try.ntmps15
  go_wp2_with fail
  refine (check_ok _ _ _ _ OK).mono ?_
  rintro e wc ⟨rfl, hxwc⟩
  go_wp2_with fail
  go_ret2
  exact ⟨rfl, (by repeat (first | with_reducible exact Ext.refl _ | with_reducible assumption | (with_reducible refine Ext.drew ?_) | (with_reducible refine Ext.drewN ?_ _) | (with_reducible refine Ext.alloc ?_ _) | (with_reducible refine Ext.setCell ?_ ?_ _) | (with_reducible refine Ext.trans ?_ (by with_reducible assumption)) | omega | (focus (simp <;> omega))))⟩

theorem radius_bad (l : Int) (w : World) (h : ¬ MinOK l) :
    Calls Try.prog 15 #[.int .i64 l] w fun e w' => e = .returned (.tuple #[.int .i64 0, errv 3]) ∧ Ext w w' := by
  rw [errv_3]
  have H : Hid (¬ OverOK 0 0 l) := Lib.hid (fun q => h q.1)
  clear h
  go_enter Try.func15, Try.ntmps15
  go_wp2_with fail
  refine (check_bad _ _ _ _ H.out).mono ?_
  rw [errv_3]
  rintro e wc ⟨rfl, hxwc⟩
  go_wp2_with fail
  go_ret2
  exact ⟨rfl, (by repeat (first | with_reducible exact Ext.refl _ | with_reducible assumption | (with_reducible refine Ext.drew ?_) | (with_reducible refine Ext.drewN ?_ _) | (with_reducible refine Ext.alloc ?_ _) | (with_reducible refine Ext.setCell ?_ ?_ _) | (with_reducible refine Ext.trans ?_ (by with_reducible assumption)) | omega | (focus (simp <;> omega))))⟩

/-- The length to which Circle scales. -/
def ups (x y : Int) : Int := Pl.upq (x * x + y * y)
theorem circle_in (x y l : Int) (w : World) (h : OverOK x y l) (hi : x * x + y * y ≤ Pl.rad l * Pl.rad l) :
    Calls Try.prog 7 #[.int .i64 x, .int .i64 y, .int .i64 l] w fun e w' => e = .returned (.tuple #[.int .i64 x, .int .i64 y, .bool false, .nilIface]) ∧ Ext w w' := by
  obtain ⟨r, hr⟩ : ∃ r, r = Pl.rad l := ⟨_, rfl⟩
  have wok : WithinOK x y r := by rw [hr]; exact over_within h
  have H := Lib.hid h
  have HR := Lib.hid hr
  rw [← hr] at hi
  have HI := Lib.hid hi
  have OK := Lib.hid wok
  clear hi hr h wok
  go_enter Try.func7, Try.ntmps7
  go_wp2_with fail
  refine (check_ok _ _ _ _ H.out).mono ?_
  rintro e wc ⟨rfl, hxwc⟩
  go_wp2_with fail
  refine (radius_ok l _ H.out.1).mono ?_
  rw [← HR.out]
  rintro e wr ⟨rfl, hxwr⟩
  go_wp2_with fail
  refine (scale_in x y r _ OK.out HI.out).mono ?_
  rintro e ws ⟨rfl, hxws⟩
  go_wp2_with fail
  go_returns
  exact ⟨rfl, (by repeat (first | with_reducible exact Ext.refl _ | with_reducible assumption | (with_reducible refine Ext.drew ?_) | (with_reducible refine Ext.drewN ?_ _) | (with_reducible refine Ext.alloc ?_ _) | (with_reducible refine Ext.setCell ?_ ?_ _) | (with_reducible refine Ext.trans ?_ (by with_reducible assumption)) | omega | (focus (simp <;> omega))))⟩

theorem circle_cut (x y l : Int) (w : World) (h : OverOK x y l) (hi : Pl.rad l * Pl.rad l < x * x + y * y) :
    Calls Try.prog 7 #[.int .i64 x, .int .i64 y, .int .i64 l] w fun e w' => e = .returned (.tuple #[.int .i64 ((x * Pl.rad l).tdiv (ups x y)), .int .i64 ((y * Pl.rad l).tdiv (ups x y)), .bool true, .nilIface]) ∧ Ext w w' := by
  obtain ⟨r, hr⟩ : ∃ r, r = Pl.rad l := ⟨_, rfl⟩
  have wok : WithinOK x y r := by rw [hr]; exact over_within h
  have H := Lib.hid h
  have HR := Lib.hid hr
  rw [← hr] at hi ⊢
  obtain ⟨u, hu⟩ : ∃ u, u = (x * r).tdiv (ups x y) := ⟨_, rfl⟩
  obtain ⟨v, hv⟩ : ∃ v, v = (y * r).tdiv (ups x y) := ⟨_, rfl⟩
  rw [← hu, ← hv]
  unfold ups at hu hv
  have HU := Lib.hid hu
  have HV := Lib.hid hv
  have HI := Lib.hid hi
  have OK := Lib.hid wok
  clear hi hr h hu hv wok
  go_enter Try.func7, Try.ntmps7
  go_wp2_with fail
  refine (check_ok _ _ _ _ H.out).mono ?_
  rintro e wc ⟨rfl, hxwc⟩
  go_wp2_with fail
  refine (radius_ok l _ H.out.1).mono ?_
  rw [← HR.out]
  rintro e wr ⟨rfl, hxwr⟩
  go_wp2_with fail
  refine (scale_cut x y r _ OK.out HI.out).mono ?_
  rw [← HU.out, ← HV.out]
  rintro e ws ⟨rfl, hxws⟩
  go_wp2_with fail
  go_returns
  exact ⟨rfl, (by repeat (first | with_reducible exact Ext.refl _ | with_reducible assumption | (with_reducible refine Ext.drew ?_) | (with_reducible refine Ext.drewN ?_ _) | (with_reducible refine Ext.alloc ?_ _) | (with_reducible refine Ext.setCell ?_ ?_ _) | (with_reducible refine Ext.trans ?_ (by with_reducible assumption)) | omega | (focus (simp <;> omega))))⟩

theorem circle_bad (x y l : Int) (w : World) (h : ¬ OverOK x y l) :
    Calls Try.prog 7 #[.int .i64 x, .int .i64 y, .int .i64 l] w fun e w' => e = .returned (.tuple #[.int .i64 0, .int .i64 0, .bool false, errv 3]) ∧ Ext w w' := by
  rw [errv_3]
  have H := Lib.hid h
  clear h
  go_enter Try.func7, Try.ntmps7
  go_wp2_with fail
  refine (check_bad _ _ _ _ H.out).mono ?_
  rw [errv_3]
  rintro e wc ⟨rfl, hxwc⟩
  go_wp2_with fail
  go_returns
  exact ⟨rfl, (by repeat (first | with_reducible exact Ext.refl _ | with_reducible assumption | (with_reducible refine Ext.drew ?_) | (with_reducible refine Ext.drewN ?_ _) | (with_reducible refine Ext.alloc ?_ _) | (with_reducible refine Ext.setCell ?_ ?_ _) | (with_reducible refine Ext.trans ?_ (by with_reducible assumption)) | omega | (focus (simp <;> omega))))⟩

end Go.Proofs.Ytfignlcplkihpaa
