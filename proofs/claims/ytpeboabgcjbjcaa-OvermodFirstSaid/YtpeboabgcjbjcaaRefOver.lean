/- The contracts of the reference of chapter 22, each walked once.
   Conditions: the bounds that each names. -/
import Derived.Test.YtpeboabgcjbjcaaOver
import Derived.Test.YtpeboabgcjbjcaaRefClarke
import Derived.Test.YtpeboabgcjbjcaaRefRoot
namespace Go.Proofs.Ytpeboabgcjbjcaa
open Go.ChangeShapes Go.WideShapes Go.ChangeAt Go.RowKit

theorem volt21_t (x : Int) (w : World) (h : VoltOK x) :
    Calls Try.prog 45 #[.int .i64 x] w fun e w' => e = .returned (.bool true) ∧ w = w' := by
  have ⟨h1, h2⟩ := h
  go_enter Try.func45, Try.ntmps45
  go_wp2
  go_ret
  exact ⟨(by first | rfl | exact ret_true (by simp <;> omega)), rfl⟩
theorem volt21_f (x : Int) (w : World) (h : ¬ VoltOK x) :
    Calls Try.prog 45 #[.int .i64 x] w fun e w' => e = .returned (.bool false) ∧ w = w' := by
  rcases Int.lt_or_le x (-1048576) with h1 | h1
  · clear h
    go_enter Try.func45, Try.ntmps45
    go_wp2
    go_ret
    exact ⟨rfl, rfl⟩
  · have h3 : decide (x ≤ 1048576) = false := decide_eq_false (fun hh => h ⟨h1, hh⟩)
    have h2 : 1048576 < x := by
      have : ¬ x ≤ 1048576 := fun hh => h ⟨h1, hh⟩
      omega
    clear h
    go_enter Try.func45, Try.ntmps45
    go_wp2
    go_ret
    exact ⟨rfl, rfl⟩
theorem radius22_ok (l : Int) (w : World) (h : MinOK l) :
    Calls Try.prog 22 #[.int .i64 l] w fun e w' => e = .returned (.tuple #[.int .i64 (Pl.rad l), .int .i64 0]) ∧ Ext w w' := by
  have ⟨h1, h2⟩ := h
  have hr := Pl.rad_bd l h1 h2
  unfold Pl.rad at hr ⊢
  go_enter Try.func22, Try.ntmps22
  go_wp2_with fail
  go_ret2
  exact ⟨rfl, (by repeat (first | with_reducible exact Ext.refl _ | with_reducible assumption | (with_reducible refine Ext.drew ?_) | (with_reducible refine Ext.drewN ?_ _) | (with_reducible refine Ext.alloc ?_ _) | (with_reducible refine Ext.setCell ?_ ?_ _) | (with_reducible refine Ext.trans ?_ (by with_reducible assumption)) | omega | (focus (simp <;> omega))))⟩

theorem radius22_bad (l : Int) (w : World) (h : ¬ MinOK l) :
    Calls Try.prog 22 #[.int .i64 l] w fun e w' => e = .returned (.tuple #[.int .i64 0, .int .i64 3]) ∧ Ext w w' := by
  rcases Int.lt_or_le l 16 with h1 | h1
  · clear h
    go_enter Try.func22, Try.ntmps22
    go_wp2_with fail
    go_ret2
    exact ⟨rfl, (by repeat (first | with_reducible exact Ext.refl _ | with_reducible assumption | (with_reducible refine Ext.drew ?_) | (with_reducible refine Ext.drewN ?_ _) | (with_reducible refine Ext.alloc ?_ _) | (with_reducible refine Ext.setCell ?_ ?_ _) | (with_reducible refine Ext.trans ?_ (by with_reducible assumption)) | omega | (focus (simp <;> omega))))⟩
  · have h2 : 1048576 < l := by
      have : ¬ l ≤ 1048576 := fun hh => h ⟨h1, hh⟩
      omega
    clear h
    go_enter Try.func22, Try.ntmps22
    go_wp2_with fail
    go_ret2
    exact ⟨rfl, (by repeat (first | with_reducible exact Ext.refl _ | with_reducible assumption | (with_reducible refine Ext.drew ?_) | (with_reducible refine Ext.drewN ?_ _) | (with_reducible refine Ext.alloc ?_ _) | (with_reducible refine Ext.setCell ?_ ?_ _) | (with_reducible refine Ext.trans ?_ (by with_reducible assumption)) | omega | (focus (simp <;> omega))))⟩

theorem bad22_ok (x y l : Int) (w : World) (h : OverOK x y l) :
    Calls Try.prog 30 #[.int .i64 x, .int .i64 y, .int .i64 l] w fun e w' => e = .returned (.int .i64 0) ∧ Ext w w' := by
  obtain ⟨hl, hx, hy⟩ := h
  go_enter Try.func30, Try.ntmps30
  go_wp2_with fail
  refine (radius22_ok l _ hl).mono ?_
  rintro e wr ⟨rfl, hxwr⟩
  go_wp2_with fail
  refine (volt21_t _ _ hx).mono ?_
  rintro e w0 ⟨rfl, rfl⟩
  go_wp2_with fail
  refine (volt21_t _ _ hy).mono ?_
  rintro e w0 ⟨rfl, rfl⟩
  go_wp2_with fail
  go_ret
  exact ⟨rfl, (by repeat (first | with_reducible exact Ext.refl _ | with_reducible assumption | (with_reducible refine Ext.drew ?_) | (with_reducible refine Ext.drewN ?_ _) | (with_reducible refine Ext.alloc ?_ _) | (with_reducible refine Ext.setCell ?_ ?_ _) | (with_reducible refine Ext.trans ?_ (by with_reducible assumption)) | omega | (focus (simp <;> omega))))⟩

theorem bad22_bad (x y l : Int) (w : World) (h : ¬ OverOK x y l) :
    Calls Try.prog 30 #[.int .i64 x, .int .i64 y, .int .i64 l] w fun e w' => e = .returned (.int .i64 3) ∧ Ext w w' := by
  by_cases hl : MinOK l
  · by_cases hx : VoltOK x
    · have H := Lib.hid (fun hy : VoltOK y => h ⟨hl, hx, hy⟩)
      clear h
      go_enter Try.func30, Try.ntmps30
      go_wp2_with fail
      refine (radius22_ok l _ hl).mono ?_
      rintro e wr ⟨rfl, hxwr⟩
      go_wp2_with fail
      refine (volt21_t _ _ hx).mono ?_
      rintro e w0 ⟨rfl, rfl⟩
      go_wp2_with fail
      refine (volt21_f _ _ H.out).mono ?_
      rintro e w0 ⟨rfl, rfl⟩
      go_wp2_with fail
      go_ret
      exact ⟨rfl, (by repeat (first | with_reducible exact Ext.refl _ | with_reducible assumption | (with_reducible refine Ext.drew ?_) | (with_reducible refine Ext.drewN ?_ _) | (with_reducible refine Ext.alloc ?_ _) | (with_reducible refine Ext.setCell ?_ ?_ _) | (with_reducible refine Ext.trans ?_ (by with_reducible assumption)) | omega | (focus (simp <;> omega))))⟩
    · have H := Lib.hid hx
      clear h hx
      go_enter Try.func30, Try.ntmps30
      go_wp2_with fail
      refine (radius22_ok l _ hl).mono ?_
      rintro e wr ⟨rfl, hxwr⟩
      go_wp2_with fail
      refine (volt21_f _ _ H.out).mono ?_
      rintro e w0 ⟨rfl, rfl⟩
      go_wp2_with fail
      go_ret
      exact ⟨rfl, (by repeat (first | with_reducible exact Ext.refl _ | with_reducible assumption | (with_reducible refine Ext.drew ?_) | (with_reducible refine Ext.drewN ?_ _) | (with_reducible refine Ext.alloc ?_ _) | (with_reducible refine Ext.setCell ?_ ?_ _) | (with_reducible refine Ext.trans ?_ (by with_reducible assumption)) | omega | (focus (simp <;> omega))))⟩
  · have H := Lib.hid hl
    clear h hl
    go_enter Try.func30, Try.ntmps30
    go_wp2_with fail
    refine (radius22_bad l _ H.out).mono ?_
    rintro e wr ⟨rfl, hxwr⟩
    go_wp2_with fail
    go_ret
    exact ⟨rfl, (by repeat (first | with_reducible exact Ext.refl _ | with_reducible assumption | (with_reducible refine Ext.drew ?_) | (with_reducible refine Ext.drewN ?_ _) | (with_reducible refine Ext.alloc ?_ _) | (with_reducible refine Ext.setCell ?_ ?_ _) | (with_reducible refine Ext.trans ?_ (by with_reducible assumption)) | omega | (focus (simp <;> omega))))⟩

theorem circle22_in (x y l : Int) (w : World) (h : OverOK x y l) (hi : x * x + y * y ≤ Pl.rad l * Pl.rad l) :
    Calls Try.prog 13 #[.int .i64 x, .int .i64 y, .int .i64 l] w fun e w' => e = .returned (.tuple #[.int .i64 x, .int .i64 y, .bool false, .int .i64 0]) ∧ Ext w w' := by
  obtain ⟨r, hr⟩ : ∃ r, r = Pl.rad l := ⟨_, rfl⟩
  have wok : WithinOK x y r := by rw [hr]; exact over_within h
  have H := Lib.hid h
  have HR := Lib.hid hr
  rw [← hr] at hi
  have HI := Lib.hid hi
  have OK := Lib.hid wok
  clear hi hr h wok
  go_enter Try.func13, Try.ntmps13
  go_wp2_with fail
  refine (bad22_ok _ _ _ _ H.out).mono ?_
  rintro e wc ⟨rfl, hxwc⟩
  go_wp2_with fail
  refine (radius22_ok l _ H.out.1).mono ?_
  rw [← HR.out]
  rintro e wr ⟨rfl, hxwr⟩
  go_wp2_with fail
  refine (scale08_in x y r _ OK.out HI.out).mono ?_
  rintro e ws ⟨rfl, hxws⟩
  go_wp2_with fail
  go_returns
  exact ⟨rfl, (by repeat (first | with_reducible exact Ext.refl _ | with_reducible assumption | (with_reducible refine Ext.drew ?_) | (with_reducible refine Ext.drewN ?_ _) | (with_reducible refine Ext.alloc ?_ _) | (with_reducible refine Ext.setCell ?_ ?_ _) | (with_reducible refine Ext.trans ?_ (by with_reducible assumption)) | omega | (focus (simp <;> omega))))⟩

theorem circle22_cut (x y l : Int) (w : World) (h : OverOK x y l) (hi : Pl.rad l * Pl.rad l < x * x + y * y) :
    Calls Try.prog 13 #[.int .i64 x, .int .i64 y, .int .i64 l] w fun e w' => e = .returned (.tuple #[.int .i64 ((x * Pl.rad l).tdiv (ups x y)), .int .i64 ((y * Pl.rad l).tdiv (ups x y)), .bool true, .int .i64 0]) ∧ Ext w w' := by
  obtain ⟨r, hr⟩ : ∃ r, r = Pl.rad l := ⟨_, rfl⟩
  have wok : WithinOK x y r := by rw [hr]; exact over_within h
  have H := Lib.hid h
  have HR := Lib.hid hr
  rw [← hr] at hi ⊢
  obtain ⟨u, hu⟩ : ∃ u, u = (x * r).tdiv (ups x y) := ⟨_, rfl⟩
  obtain ⟨v, hv⟩ : ∃ v, v = (y * r).tdiv (ups x y) := ⟨_, rfl⟩
  rw [← hu, ← hv]
  unfold ups at hu hv
  have HU := Lib.hid hu
  have HV := Lib.hid hv
  have HI := Lib.hid hi
  have OK := Lib.hid wok
  clear hi hr h hu hv wok
  go_enter Try.func13, Try.ntmps13
  go_wp2_with fail
  refine (bad22_ok _ _ _ _ H.out).mono ?_
  rintro e wc ⟨rfl, hxwc⟩
  go_wp2_with fail
  refine (radius22_ok l _ H.out.1).mono ?_
  rw [← HR.out]
  rintro e wr ⟨rfl, hxwr⟩
  go_wp2_with fail
  refine (scale08_cut x y r _ OK.out HI.out).mono ?_
  rw [← HU.out, ← HV.out]
  rintro e ws ⟨rfl, hxws⟩
  go_wp2_with fail
  go_returns
  exact ⟨rfl, (by repeat (first | with_reducible exact Ext.refl _ | with_reducible assumption | (with_reducible refine Ext.drew ?_) | (with_reducible refine Ext.drewN ?_ _) | (with_reducible refine Ext.alloc ?_ _) | (with_reducible refine Ext.setCell ?_ ?_ _) | (with_reducible refine Ext.trans ?_ (by with_reducible assumption)) | omega | (focus (simp <;> omega))))⟩

theorem circle22_bad (x y l : Int) (w : World) (h : ¬ OverOK x y l) :
    Calls Try.prog 13 #[.int .i64 x, .int .i64 y, .int .i64 l] w fun e w' => e = .returned (.tuple #[.int .i64 0, .int .i64 0, .bool false, .int .i64 3]) ∧ Ext w w' := by
  have H := Lib.hid h
  clear h
  go_enter Try.func13, Try.ntmps13
  go_wp2_with fail
  refine (bad22_bad _ _ _ _ H.out).mono ?_
  rintro e wc ⟨rfl, hxwc⟩
  go_wp2_with fail
  go_returns
  exact ⟨rfl, (by repeat (first | with_reducible exact Ext.refl _ | with_reducible assumption | (with_reducible refine Ext.drew ?_) | (with_reducible refine Ext.drewN ?_ _) | (with_reducible refine Ext.alloc ?_ _) | (with_reducible refine Ext.setCell ?_ ?_ _) | (with_reducible refine Ext.trans ?_ (by with_reducible assumption)) | omega | (focus (simp <;> omega))))⟩

theorem hexagon22_in (x y l : Int) (w : World) (h : OverOK x y l) (hi : Pl.sp x y ≤ l) :
    Calls Try.prog 16 #[.int .i64 x, .int .i64 y, .int .i64 l] w fun e w' => e = .returned (.tuple #[.int .i64 x, .int .i64 y, .bool false, .int .i64 0]) ∧ Ext w w' := by
  obtain ⟨n, hn⟩ : ∃ n, n = Pl.sp x y := ⟨_, rfl⟩
  rw [← hn] at hi
  have HN := Lib.hid hn
  have H := Lib.hid h
  clear hn h
  go_enter Try.func16, Try.ntmps16
  go_wp2_with fail
  refine (bad22_ok _ _ _ _ H.out).mono ?_
  rintro e wc ⟨rfl, hxwc⟩
  go_wp2_with fail
  refine (span19_ok x y _ (volt_in30 H.out.2.1) (volt_in30 H.out.2.2)).mono ?_
  rw [← HN.out]
  rintro e wn ⟨rfl, hxwn⟩
  go_wp2_with fail
  go_returns
  exact ⟨rfl, (by repeat (first | with_reducible exact Ext.refl _ | with_reducible assumption | (with_reducible refine Ext.drew ?_) | (with_reducible refine Ext.drewN ?_ _) | (with_reducible refine Ext.alloc ?_ _) | (with_reducible refine Ext.setCell ?_ ?_ _) | (with_reducible refine Ext.trans ?_ (by with_reducible assumption)) | omega | (focus (simp <;> omega))))⟩

set_option maxRecDepth 100000 in
set_option maxHeartbeats 1000000 in
theorem hexagon22_cut (x y l : Int) (w : World) (h : OverOK x y l) (hi : l < Pl.sp x y) :
    Calls Try.prog 16 #[.int .i64 x, .int .i64 y, .int .i64 l] w fun e w' => e = .returned (.tuple #[.int .i64 ((x * (l - 8)).tdiv (Pl.sp x y)), .int .i64 ((y * (l - 8)).tdiv (Pl.sp x y)), .bool true, .int .i64 0]) ∧ Ext w w' := by
  have hf := hex_facts h hi
  have ⟨⟨l1, l2⟩, ⟨x1, x2⟩, ⟨y1, y2⟩⟩ := h
  have HI : Hid (decide (Pl.sp x y ≤ l) = false) := Lib.hid (decide_eq_false (by omega))
  obtain ⟨n, hn⟩ : ∃ n, n = Pl.sp x y := ⟨_, rfl⟩
  rw [← hn] at hf hi ⊢
  obtain ⟨n0, n1, ⟨p1, p2⟩, ⟨p3, p4⟩, q1, q2, q3, q4⟩ := hf
  have w1 : IntKind.i64.wrap (x * (l - 8)) = x * (l - 8) := IntWalk.i64_in _ (by omega)
  have w2 : IntKind.i64.wrap (y * (l - 8)) = y * (l - 8) := IntWalk.i64_in _ (by omega)
  have w3 : IntKind.i64.wrap ((x * (l - 8)).tdiv n) = (x * (l - 8)).tdiv n := IntWalk.i64_in _ (by omega)
  have w4 : IntKind.i64.wrap ((y * (l - 8)).tdiv n) = (y * (l - 8)).tdiv n := IntWalk.i64_in _ (by omega)
  have nz : ¬ n = 0 := by omega
  have HN := Lib.hid hn
  have H := Lib.hid h
  clear hn h q1 q2 q3 q4
  go_enter Try.func16, Try.ntmps16
  go_wp2_with fail
  refine (bad22_ok _ _ _ _ H.out).mono ?_
  rintro e wc ⟨rfl, hxwc⟩
  go_wp2_with fail
  refine (span19_ok x y _ (volt_in30 H.out.2.1) (volt_in30 H.out.2.2)).mono ?_
  rw [← HN.out]
  rintro e wn ⟨rfl, hxwn⟩
  go_wp2_with fail
  go_quiet (fail)
  go_wp2_with fail
  go_returns
  exact ⟨rfl, (by repeat (first | with_reducible exact Ext.refl _ | with_reducible assumption | (with_reducible refine Ext.drew ?_) | (with_reducible refine Ext.drewN ?_ _) | (with_reducible refine Ext.alloc ?_ _) | (with_reducible refine Ext.setCell ?_ ?_ _) | (with_reducible refine Ext.trans ?_ (by with_reducible assumption)) | omega | (focus (simp <;> omega))))⟩

theorem hexagon22_bad (x y l : Int) (w : World) (h : ¬ OverOK x y l) :
    Calls Try.prog 16 #[.int .i64 x, .int .i64 y, .int .i64 l] w fun e w' => e = .returned (.tuple #[.int .i64 0, .int .i64 0, .bool false, .int .i64 3]) ∧ Ext w w' := by
  have H := Lib.hid h
  clear h
  go_enter Try.func16, Try.ntmps16
  go_wp2_with fail
  refine (bad22_bad _ _ _ _ H.out).mono ?_
  rintro e wc ⟨rfl, hxwc⟩
  go_wp2_with fail
  go_returns
  exact ⟨rfl, (by repeat (first | with_reducible exact Ext.refl _ | with_reducible assumption | (with_reducible refine Ext.drew ?_) | (with_reducible refine Ext.drewN ?_ _) | (with_reducible refine Ext.alloc ?_ _) | (with_reducible refine Ext.setCell ?_ ?_ _) | (with_reducible refine Ext.trans ?_ (by with_reducible assumption)) | omega | (focus (simp <;> omega))))⟩

theorem axis22_ok (d q m : Int) (w : World) (h : AxOK d q m) :
    Calls Try.prog 26 #[.int .i64 d, .int .i64 q, .int .i64 m] w fun e w' => e = .returned (.tuple #[.int .i64 (cl d m), .int .i64 (axq d q m), .bool (cl d m != d || axq d q m != q), .int .i64 0]) ∧ Ext w w' := by
  have rok := ax_rest h
  have ⟨ri1, ri2⟩ := rst_in30 rok
  have ⟨⟨d1, d2⟩, ⟨q1, q2⟩, hm1, hm2⟩ := h
  unfold axq
  obtain ⟨u, hu⟩ : ∃ u, u = cl d m := ⟨_, rfl⟩
  rw [← hu] at rok ri1 ri2 ⊢
  obtain ⟨r, hr⟩ : ∃ r, r = rst m u := ⟨_, rfl⟩
  rw [← hr] at ri1 ri2 ⊢
  obtain ⟨v, hv⟩ : ∃ v, v = cl q r := ⟨_, rfl⟩
  rw [← hv]
  have hu' : max (-m) (min d m) = u := hu.symm
  have hv' : max (-r) (min q r) = v := hv.symm
  have HR := Lib.hid hr
  have ROK := Lib.hid rok
  clear hu hr hv rok
  by_cases hc : u = d
  · have b1 : (u != d) = false := by simp [hc]
    have HC := Lib.hid hc
    clear hc
    rw [b1, Bool.false_or]
    go_enter Try.func26, Try.ntmps26
    go_wp2_with fail
    refine (rest08_ok m u _ ROK.out).mono ?_
    rw [← HR.out]
    rintro e w2 ⟨rfl, hxw2⟩
    go_wp2_with fail
    go_returns
    exact ⟨rfl, (by repeat (first | with_reducible exact Ext.refl _ | with_reducible assumption | (with_reducible refine Ext.drew ?_) | (with_reducible refine Ext.drewN ?_ _) | (with_reducible refine Ext.alloc ?_ _) | (with_reducible refine Ext.setCell ?_ ?_ _) | (with_reducible refine Ext.trans ?_ (by with_reducible assumption)) | omega | (focus (simp <;> omega))))⟩
  · have b1 : (u != d) = true := by simp [hc]
    clear hc
    rw [b1, Bool.true_or]
    go_enter Try.func26, Try.ntmps26
    go_wp2_with fail
    refine (rest08_ok m u _ ROK.out).mono ?_
    rw [← HR.out]
    rintro e w2 ⟨rfl, hxw2⟩
    go_wp2_with fail
    go_returns
    exact ⟨rfl, (by repeat (first | with_reducible exact Ext.refl _ | with_reducible assumption | (with_reducible refine Ext.drew ?_) | (with_reducible refine Ext.drewN ?_ _) | (with_reducible refine Ext.alloc ?_ _) | (with_reducible refine Ext.setCell ?_ ?_ _) | (with_reducible refine Ext.trans ?_ (by with_reducible assumption)) | omega | (focus (simp <;> omega))))⟩

theorem axis22_bad (d q m : Int) (w : World) (h : ¬ AxOK d q m) :
    Calls Try.prog 26 #[.int .i64 d, .int .i64 q, .int .i64 m] w fun e w' => e = .returned (.tuple #[.int .i64 0, .int .i64 0, .bool false, .int .i64 3]) ∧ Ext w w' := by
  have hc : m < 0 ∨ (0 ≤ m ∧ 1073741824 < m) ∨ (0 ≤ m ∧ m ≤ 1073741824 ∧ 1073741824 < d) ∨ (0 ≤ m ∧ m ≤ 1073741824 ∧ d ≤ 1073741824 ∧ d < -1073741824) ∨ (0 ≤ m ∧ m ≤ 1073741824 ∧ d ≤ 1073741824 ∧ -1073741824 ≤ d ∧ 1073741824 < q) ∨ (0 ≤ m ∧ m ≤ 1073741824 ∧ d ≤ 1073741824 ∧ -1073741824 ≤ d ∧ q ≤ 1073741824 ∧ q < -1073741824) := by
    have : ¬ (0 ≤ m ∧ m ≤ 1073741824 ∧ d ≤ 1073741824 ∧ -1073741824 ≤ d ∧ q ≤ 1073741824 ∧ -1073741824 ≤ q) := fun ⟨a, b, c, d, e, f⟩ => h ⟨⟨d, c⟩, ⟨f, e⟩, a, b⟩
    omega
  clear h
  rcases hc with h1 | ⟨h1, h2⟩ | ⟨h1, h2, h3⟩ | ⟨h1, h2, h3, h4⟩ | ⟨h1, h2, h3, h4, h5⟩ | ⟨h1, h2, h3, h4, h5, h6⟩
  · go_enter Try.func26, Try.ntmps26
    go_wp2_with fail
    go_returns
    exact ⟨rfl, (by repeat (first | with_reducible exact Ext.refl _ | with_reducible assumption | (with_reducible refine Ext.drew ?_) | (with_reducible refine Ext.drewN ?_ _) | (with_reducible refine Ext.alloc ?_ _) | (with_reducible refine Ext.setCell ?_ ?_ _) | (with_reducible refine Ext.trans ?_ (by with_reducible assumption)) | omega | (focus (simp <;> omega))))⟩
  · go_enter Try.func26, Try.ntmps26
    go_wp2_with fail
    go_returns
    exact ⟨rfl, (by repeat (first | with_reducible exact Ext.refl _ | with_reducible assumption | (with_reducible refine Ext.drew ?_) | (with_reducible refine Ext.drewN ?_ _) | (with_reducible refine Ext.alloc ?_ _) | (with_reducible refine Ext.setCell ?_ ?_ _) | (with_reducible refine Ext.trans ?_ (by with_reducible assumption)) | omega | (focus (simp <;> omega))))⟩
  · go_enter Try.func26, Try.ntmps26
    go_wp2_with fail
    go_returns
    exact ⟨rfl, (by repeat (first | with_reducible exact Ext.refl _ | with_reducible assumption | (with_reducible refine Ext.drew ?_) | (with_reducible refine Ext.drewN ?_ _) | (with_reducible refine Ext.alloc ?_ _) | (with_reducible refine Ext.setCell ?_ ?_ _) | (with_reducible refine Ext.trans ?_ (by with_reducible assumption)) | omega | (focus (simp <;> omega))))⟩
  · go_enter Try.func26, Try.ntmps26
    go_wp2_with fail
    go_returns
    exact ⟨rfl, (by repeat (first | with_reducible exact Ext.refl _ | with_reducible assumption | (with_reducible refine Ext.drew ?_) | (with_reducible refine Ext.drewN ?_ _) | (with_reducible refine Ext.alloc ?_ _) | (with_reducible refine Ext.setCell ?_ ?_ _) | (with_reducible refine Ext.trans ?_ (by with_reducible assumption)) | omega | (focus (simp <;> omega))))⟩
  · go_enter Try.func26, Try.ntmps26
    go_wp2_with fail
    go_returns
    exact ⟨rfl, (by repeat (first | with_reducible exact Ext.refl _ | with_reducible assumption | (with_reducible refine Ext.drew ?_) | (with_reducible refine Ext.drewN ?_ _) | (with_reducible refine Ext.alloc ?_ _) | (with_reducible refine Ext.setCell ?_ ?_ _) | (with_reducible refine Ext.trans ?_ (by with_reducible assumption)) | omega | (focus (simp <;> omega))))⟩
  · go_enter Try.func26, Try.ntmps26
    go_wp2_with fail
    go_returns
    exact ⟨rfl, (by repeat (first | with_reducible exact Ext.refl _ | with_reducible assumption | (with_reducible refine Ext.drew ?_) | (with_reducible refine Ext.drewN ?_ _) | (with_reducible refine Ext.alloc ?_ _) | (with_reducible refine Ext.setCell ?_ ?_ _) | (with_reducible refine Ext.trans ?_ (by with_reducible assumption)) | omega | (focus (simp <;> omega))))⟩

theorem depth22_ok (x y l : Int) (w : World) (h : OverOK x y l) :
    Calls Try.prog 24 #[.int .i64 x, .int .i64 y, .int .i64 l] w fun e w' => e = .returned (.tuple #[.int .i64 (dep x y l), .int .i64 0]) ∧ Ext w w' := by
  obtain ⟨r, hr⟩ : ∃ r, r = Pl.rad l := ⟨_, rfl⟩
  obtain ⟨n, hn⟩ : ∃ n, n = Pl.isq (x * x + y * y) := ⟨_, rfl⟩
  have rb := Pl.rad_bd l h.1.1 h.1.2
  have n0 := Pl.isq_nonneg (x * x + y * y)
  have n1 : Pl.isq (x * x + y * y) ≤ 1518500250 := by
    have a := in30_sq (volt_in30 h.2.1)
    have b := in30_sq (volt_in30 h.2.2)
    exact Pl.isq_le_of (by omega) (by omega)
  rw [← hr] at rb
  rw [← hn] at n0 n1
  unfold dep
  rw [← hr, ← hn]
  have tq := Pl.td_pos (a := 1000 * n) (d := r) (by omega) (by omega)
  have tq2 : (1000 * n).tdiv r ≤ 1000 * n := by
    have := Int.mul_le_mul_of_nonneg_right (show 1 ≤ r by omega) tq.1
    omega
  obtain ⟨tq1, _, _⟩ := tq
  obtain ⟨r1, r2, _, _⟩ := rb
  have HR := Lib.hid hr
  have HN := Lib.hid hn
  have H := Lib.hid h
  clear hr hn h
  go_enter Try.func24, Try.ntmps24
  go_wp2_with fail
  refine (bad22_ok _ _ _ _ H.out).mono ?_
  rintro e wc ⟨rfl, hxwc⟩
  go_wp2_with fail
  refine (radius22_ok l _ H.out.1).mono ?_
  rw [← HR.out]
  rintro e wr ⟨rfl, hxwr⟩
  go_wp2_with fail
  refine (length08_ok x y _ (volt_in30 H.out.2.1) (volt_in30 H.out.2.2)).mono ?_
  rw [← HN.out]
  rintro e wn ⟨rfl, hxwn⟩
  go_wp2_with fail
  go_ret2
  exact ⟨rfl, (by repeat (first | with_reducible exact Ext.refl _ | with_reducible assumption | (with_reducible refine Ext.drew ?_) | (with_reducible refine Ext.drewN ?_ _) | (with_reducible refine Ext.alloc ?_ _) | (with_reducible refine Ext.setCell ?_ ?_ _) | (with_reducible refine Ext.trans ?_ (by with_reducible assumption)) | omega | (focus (simp <;> omega))))⟩

theorem depth22_bad (x y l : Int) (w : World) (h : ¬ OverOK x y l) :
    Calls Try.prog 24 #[.int .i64 x, .int .i64 y, .int .i64 l] w fun e w' => e = .returned (.tuple #[.int .i64 0, .int .i64 3]) ∧ Ext w w' := by
  have H := Lib.hid h
  clear h
  go_enter Try.func24, Try.ntmps24
  go_wp2_with fail
  refine (bad22_bad _ _ _ _ H.out).mono ?_
  rintro e wc ⟨rfl, hxwc⟩
  go_wp2_with fail
  go_ret2
  exact ⟨rfl, (by repeat (first | with_reducible exact Ext.refl _ | with_reducible assumption | (with_reducible refine Ext.drew ?_) | (with_reducible refine Ext.drewN ?_ _) | (with_reducible refine Ext.alloc ?_ _) | (with_reducible refine Ext.setCell ?_ ?_ _) | (with_reducible refine Ext.trans ?_ (by with_reducible assumption)) | omega | (focus (simp <;> omega))))⟩


end Go.Proofs.Ytpeboabgcjbjcaa
