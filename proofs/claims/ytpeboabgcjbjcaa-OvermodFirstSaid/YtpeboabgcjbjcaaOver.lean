/- The contracts of package overmod's functions, each walked once.
   Conditions: the bounds that each names. -/
import Derived.Test.YtpeboabgcjbjcaaVector
import Derived.Test.YtpeboabgcjbjcaaRoot
import Derived.Test.YtpeboabgcjbjcaaPlainOver
namespace Go.Proofs.Ytpeboabgcjbjcaa
open Go.ChangeShapes Go.WideShapes Go.ChangeAt Go.RowKit

def MinOK (x : Int) : Prop := 16 ≤ x ∧ x ≤ 1048576
def OverOK (x y l : Int) : Prop := MinOK l ∧ VoltOK x ∧ VoltOK y
theorem min_link {l : Int} (h : MinOK l) : LinkOK l := ⟨by have := h.1; omega, h.2⟩
theorem over_within {x y l : Int} (h : OverOK x y l) : WithinOK x y (Pl.rad l) :=
  ⟨volt_in30 h.2.1, volt_in30 h.2.2, by have := Pl.rad_bd l h.1.1 h.1.2; exact ⟨by omega, by omega⟩, by have := Pl.rad_bd l h.1.1 h.1.2; omega⟩

theorem owithin_t (n lo hi : Int) (w : World) (h1 : lo ≤ n) (h2 : n ≤ hi) :
    Calls Try.prog 39 #[.int .i64 n, .int .i64 lo, .int .i64 hi] w fun e w' => e = .returned (.bool true) ∧ w = w' := by
  go_enter Try.func39, Try.ntmps39
  go_wp2
  go_ret
  exact ⟨(by first | rfl | exact ret_true (by simp <;> omega)), rfl⟩
theorem owithin_f (n lo hi : Int) (w : World) (h : ¬ (lo ≤ n ∧ n ≤ hi)) :
    Calls Try.prog 39 #[.int .i64 n, .int .i64 lo, .int .i64 hi] w fun e w' => e = .returned (.bool false) ∧ w = w' := by
  rcases Int.lt_or_le n lo with h1 | h1
  · clear h
    go_enter Try.func39, Try.ntmps39
    go_wp2
    go_ret
    exact ⟨rfl, rfl⟩
  · have h2 : hi < n := by omega
    have h3 : decide (n ≤ hi) = false := decide_eq_false (by omega)
    clear h
    go_enter Try.func39, Try.ntmps39
    go_wp2
    go_ret
    exact ⟨rfl, rfl⟩

theorem check_ok (x y l : Int) (w : World) (h : OverOK x y l) :
    Calls Try.prog 28 #[.int .i64 x, .int .i64 y, .int .i64 l] w fun e w' => e = .returned (.nilIface) ∧ Ext w w' := by
  obtain ⟨hl, hx, hy⟩ := h
  go_enter Try.func28, Try.ntmps28
  go_wp2_with fail
  refine (owithin_t _ _ _ _ hl.1 hl.2).mono ?_
  rintro e w0 ⟨rfl, rfl⟩
  go_wp2_with fail
  refine (owithin_t _ _ _ _ hx.1 hx.2).mono ?_
  rintro e w0 ⟨rfl, rfl⟩
  go_wp2_with fail
  refine (owithin_t _ _ _ _ hy.1 hy.2).mono ?_
  rintro e w0 ⟨rfl, rfl⟩
  go_wp2_with fail
  go_ret
  exact ⟨rfl, (by repeat (first | with_reducible exact Ext.refl _ | with_reducible assumption | (with_reducible refine Ext.drew ?_) | (with_reducible refine Ext.drewN ?_ _) | (with_reducible refine Ext.alloc ?_ _) | (with_reducible refine Ext.setCell ?_ ?_ _) | (with_reducible refine Ext.trans ?_ (by with_reducible assumption)) | omega | (focus (simp <;> omega))))⟩

theorem check_bad (x y l : Int) (w : World) (h : ¬ OverOK x y l) :
    Calls Try.prog 28 #[.int .i64 x, .int .i64 y, .int .i64 l] w fun e w' => e = .returned (errv 3) ∧ Ext w w' := by
  rw [errv_3]
  by_cases hl : MinOK l
  · by_cases hx : VoltOK x
    · have H := Lib.hid (fun hy : VoltOK y => h ⟨hl, hx, hy⟩)
      clear h
      go_enter Try.func28, Try.ntmps28
      go_wp2_with fail
      refine (owithin_t _ _ _ _ hl.1 hl.2).mono ?_
      rintro e w0 ⟨rfl, rfl⟩
      go_wp2_with fail
      refine (owithin_t _ _ _ _ hx.1 hx.2).mono ?_
      rintro e w0 ⟨rfl, rfl⟩
      go_wp2_with fail
      refine (owithin_f _ _ _ _ H.out).mono ?_
      rintro e w0 ⟨rfl, rfl⟩
      go_wp2_with fail
      go_ret
      exact ⟨rfl, (by repeat (first | with_reducible exact Ext.refl _ | with_reducible assumption | (with_reducible refine Ext.drew ?_) | (with_reducible refine Ext.drewN ?_ _) | (with_reducible refine Ext.alloc ?_ _) | (with_reducible refine Ext.setCell ?_ ?_ _) | (with_reducible refine Ext.trans ?_ (by with_reducible assumption)) | omega | (focus (simp <;> omega))))⟩
    · have H := Lib.hid hx
      clear h hx
      go_enter Try.func28, Try.ntmps28
      go_wp2_with fail
      refine (owithin_t _ _ _ _ hl.1 hl.2).mono ?_
      rintro e w0 ⟨rfl, rfl⟩
      go_wp2_with fail
      refine (owithin_f _ _ _ _ H.out).mono ?_
      rintro e w0 ⟨rfl, rfl⟩
      go_wp2_with fail
      go_ret
      exact ⟨rfl, (by repeat (first | with_reducible exact Ext.refl _ | with_reducible assumption | (with_reducible refine Ext.drew ?_) | (with_reducible refine Ext.drewN ?_ _) | (with_reducible refine Ext.alloc ?_ _) | (with_reducible refine Ext.setCell ?_ ?_ _) | (with_reducible refine Ext.trans ?_ (by with_reducible assumption)) | omega | (focus (simp <;> omega))))⟩
  · have H := Lib.hid hl
    clear h hl
    go_enter Try.func28, Try.ntmps28
    go_wp2_with fail
    refine (owithin_f _ _ _ _ H.out).mono ?_
    rintro e w0 ⟨rfl, rfl⟩
    go_wp2_with fail
    go_ret
    exact ⟨rfl, (by repeat (first | with_reducible exact Ext.refl _ | with_reducible assumption | (with_reducible refine Ext.drew ?_) | (with_reducible refine Ext.drewN ?_ _) | (with_reducible refine Ext.alloc ?_ _) | (with_reducible refine Ext.setCell ?_ ?_ _) | (with_reducible refine Ext.trans ?_ (by with_reducible assumption)) | omega | (focus (simp <;> omega))))⟩

theorem radius_ok (l : Int) (w : World) (h : MinOK l) :
    Calls Try.prog 19 #[.int .i64 l] w fun e w' => e = .returned (.tuple #[.int .i64 (Pl.rad l), .nilIface]) ∧ Ext w w' := by
  have OK : OverOK 0 0 l := ⟨h, ⟨by decide, by decide⟩, ⟨by decide, by decide⟩⟩
  have ⟨h1, h2⟩ := h
  have hr := Pl.rad_bd l h1 h2
  unfold Pl.rad at hr ⊢
  go_enter Try.func19, Try.ntmps19
  go_wp2_with fail
  refine (check_ok _ _ _ _ OK).mono ?_
  rintro e wc ⟨rfl, hxwc⟩
  go_wp2_with fail
  go_ret2
  exact ⟨rfl, (by repeat (first | with_reducible exact Ext.refl _ | with_reducible assumption | (with_reducible refine Ext.drew ?_) | (with_reducible refine Ext.drewN ?_ _) | (with_reducible refine Ext.alloc ?_ _) | (with_reducible refine Ext.setCell ?_ ?_ _) | (with_reducible refine Ext.trans ?_ (by with_reducible assumption)) | omega | (focus (simp <;> omega))))⟩

theorem radius_bad (l : Int) (w : World) (h : ¬ MinOK l) :
    Calls Try.prog 19 #[.int .i64 l] w fun e w' => e = .returned (.tuple #[.int .i64 0, errv 3]) ∧ Ext w w' := by
  rw [errv_3]
  have H : Hid (¬ OverOK 0 0 l) := Lib.hid (fun q => h q.1)
  clear h
  go_enter Try.func19, Try.ntmps19
  go_wp2_with fail
  refine (check_bad _ _ _ _ H.out).mono ?_
  rw [errv_3]
  rintro e wc ⟨rfl, hxwc⟩
  go_wp2_with fail
  go_ret2
  exact ⟨rfl, (by repeat (first | with_reducible exact Ext.refl _ | with_reducible assumption | (with_reducible refine Ext.drew ?_) | (with_reducible refine Ext.drewN ?_ _) | (with_reducible refine Ext.alloc ?_ _) | (with_reducible refine Ext.setCell ?_ ?_ _) | (with_reducible refine Ext.trans ?_ (by with_reducible assumption)) | omega | (focus (simp <;> omega))))⟩

/-- The length to which Circle scales. -/
def ups (x y : Int) : Int := Pl.upq (x * x + y * y)
theorem circle_in (x y l : Int) (w : World) (h : OverOK x y l) (hi : x * x + y * y ≤ Pl.rad l * Pl.rad l) :
    Calls Try.prog 12 #[.int .i64 x, .int .i64 y, .int .i64 l] w fun e w' => e = .returned (.tuple #[.int .i64 x, .int .i64 y, .bool false, .nilIface]) ∧ Ext w w' := by
  obtain ⟨r, hr⟩ : ∃ r, r = Pl.rad l := ⟨_, rfl⟩
  have wok : WithinOK x y r := by rw [hr]; exact over_within h
  have H := Lib.hid h
  have HR := Lib.hid hr
  rw [← hr] at hi
  have HI := Lib.hid hi
  have OK := Lib.hid wok
  clear hi hr h wok
  go_enter Try.func12, Try.ntmps12
  go_wp2_with fail
  refine (check_ok _ _ _ _ H.out).mono ?_
  rintro e wc ⟨rfl, hxwc⟩
  go_wp2_with fail
  refine (radius_ok l _ H.out.1).mono ?_
  rw [← HR.out]
  rintro e wr ⟨rfl, hxwr⟩
  go_wp2_with fail
  refine (scale_in x y r _ OK.out HI.out).mono ?_
  rintro e ws ⟨rfl, hxws⟩
  go_wp2_with fail
  go_returns
  exact ⟨rfl, (by repeat (first | with_reducible exact Ext.refl _ | with_reducible assumption | (with_reducible refine Ext.drew ?_) | (with_reducible refine Ext.drewN ?_ _) | (with_reducible refine Ext.alloc ?_ _) | (with_reducible refine Ext.setCell ?_ ?_ _) | (with_reducible refine Ext.trans ?_ (by with_reducible assumption)) | omega | (focus (simp <;> omega))))⟩

theorem circle_cut (x y l : Int) (w : World) (h : OverOK x y l) (hi : Pl.rad l * Pl.rad l < x * x + y * y) :
    Calls Try.prog 12 #[.int .i64 x, .int .i64 y, .int .i64 l] w fun e w' => e = .returned (.tuple #[.int .i64 ((x * Pl.rad l).tdiv (ups x y)), .int .i64 ((y * Pl.rad l).tdiv (ups x y)), .bool true, .nilIface]) ∧ Ext w w' := by
  obtain ⟨r, hr⟩ : ∃ r, r = Pl.rad l := ⟨_, rfl⟩
  have wok : WithinOK x y r := by rw [hr]; exact over_within h
  have H := Lib.hid h
  have HR := Lib.hid hr
  rw [← hr] at hi ⊢
  obtain ⟨u, hu⟩ : ∃ u, u = (x * r).tdiv (ups x y) := ⟨_, rfl⟩
  obtain ⟨v, hv⟩ : ∃ v, v = (y * r).tdiv (ups x y) := ⟨_, rfl⟩
  rw [← hu, ← hv]
  unfold ups at hu hv
  have HU := Lib.hid hu
  have HV := Lib.hid hv
  have HI := Lib.hid hi
  have OK := Lib.hid wok
  clear hi hr h hu hv wok
  go_enter Try.func12, Try.ntmps12
  go_wp2_with fail
  refine (check_ok _ _ _ _ H.out).mono ?_
  rintro e wc ⟨rfl, hxwc⟩
  go_wp2_with fail
  refine (radius_ok l _ H.out.1).mono ?_
  rw [← HR.out]
  rintro e wr ⟨rfl, hxwr⟩
  go_wp2_with fail
  refine (scale_cut x y r _ OK.out HI.out).mono ?_
  rw [← HU.out, ← HV.out]
  rintro e ws ⟨rfl, hxws⟩
  go_wp2_with fail
  go_returns
  exact ⟨rfl, (by repeat (first | with_reducible exact Ext.refl _ | with_reducible assumption | (with_reducible refine Ext.drew ?_) | (with_reducible refine Ext.drewN ?_ _) | (with_reducible refine Ext.alloc ?_ _) | (with_reducible refine Ext.setCell ?_ ?_ _) | (with_reducible refine Ext.trans ?_ (by with_reducible assumption)) | omega | (focus (simp <;> omega))))⟩

theorem circle_bad (x y l : Int) (w : World) (h : ¬ OverOK x y l) :
    Calls Try.prog 12 #[.int .i64 x, .int .i64 y, .int .i64 l] w fun e w' => e = .returned (.tuple #[.int .i64 0, .int .i64 0, .bool false, errv 3]) ∧ Ext w w' := by
  rw [errv_3]
  have H := Lib.hid h
  clear h
  go_enter Try.func12, Try.ntmps12
  go_wp2_with fail
  refine (check_bad _ _ _ _ H.out).mono ?_
  rw [errv_3]
  rintro e wc ⟨rfl, hxwc⟩
  go_wp2_with fail
  go_returns
  exact ⟨rfl, (by repeat (first | with_reducible exact Ext.refl _ | with_reducible assumption | (with_reducible refine Ext.drew ?_) | (with_reducible refine Ext.drewN ?_ _) | (with_reducible refine Ext.alloc ?_ _) | (with_reducible refine Ext.setCell ?_ ?_ _) | (with_reducible refine Ext.trans ?_ (by with_reducible assumption)) | omega | (focus (simp <;> omega))))⟩

theorem hexagon_in (x y l : Int) (w : World) (h : OverOK x y l) (hi : Pl.sp x y ≤ l) :
    Calls Try.prog 15 #[.int .i64 x, .int .i64 y, .int .i64 l] w fun e w' => e = .returned (.tuple #[.int .i64 x, .int .i64 y, .bool false, .nilIface]) ∧ Ext w w' := by
  have HI : Hid (decide (Pl.sp x y ≤ l) = true) := Lib.hid (decide_eq_true hi)
  have H := Lib.hid h
  clear hi h
  go_enter Try.func15, Try.ntmps15
  go_wp2_with fail
  refine (check_ok _ _ _ _ H.out).mono ?_
  rintro e wc ⟨rfl, hxwc⟩
  go_wp2_with fail
  refine (inside_ok x y l _ H.out.2.1 H.out.2.2 (min_link H.out.1)).mono ?_
  rw [HI.out]
  rintro e wi ⟨rfl, hxwi⟩
  go_wp2_with fail
  go_returns
  exact ⟨rfl, (by repeat (first | with_reducible exact Ext.refl _ | with_reducible assumption | (with_reducible refine Ext.drew ?_) | (with_reducible refine Ext.drewN ?_ _) | (with_reducible refine Ext.alloc ?_ _) | (with_reducible refine Ext.setCell ?_ ?_ _) | (with_reducible refine Ext.trans ?_ (by with_reducible assumption)) | omega | (focus (simp <;> omega))))⟩

theorem hex_facts {x y l : Int} (h : OverOK x y l) (hi : l < Pl.sp x y) :
    0 < Pl.sp x y ∧ Pl.sp x y ≤ 6291456 ∧ (-1099511627776 ≤ x * (l - 8) ∧ x * (l - 8) ≤ 1099511627776) ∧ (-1099511627776 ≤ y * (l - 8) ∧ y * (l - 8) ≤ 1099511627776) ∧
    (0 ≤ x → 0 ≤ (x * (l - 8)).tdiv (Pl.sp x y) ∧ (x * (l - 8)).tdiv (Pl.sp x y) ≤ x) ∧ (x ≤ 0 → (x * (l - 8)).tdiv (Pl.sp x y) ≤ 0 ∧ x ≤ (x * (l - 8)).tdiv (Pl.sp x y)) ∧
    (0 ≤ y → 0 ≤ (y * (l - 8)).tdiv (Pl.sp x y) ∧ (y * (l - 8)).tdiv (Pl.sp x y) ≤ y) ∧ (y ≤ 0 → (y * (l - 8)).tdiv (Pl.sp x y) ≤ 0 ∧ y ≤ (y * (l - 8)).tdiv (Pl.sp x y)) := by
  obtain ⟨⟨l1, l2⟩, ⟨x1, x2⟩, ⟨y1, y2⟩⟩ := h
  have s := Pl.sp_bd x y 1048576 ⟨x1, x2⟩ ⟨y1, y2⟩
  have k : ∀ z : Int, -1048576 ≤ z → z ≤ 1048576 → -1099511627776 ≤ z * (l - 8) ∧ z * (l - 8) ≤ 1099511627776 := by
    intro z a b
    have p := Int.mul_le_mul_of_nonneg_right b (show 0 ≤ l - 8 by omega)
    have q := Int.mul_le_mul_of_nonneg_right a (show 0 ≤ l - 8 by omega)
    omega
  have fx := Pl.sc_bd x (l - 8) (Pl.sp x y) (by omega) (by omega) (by omega)
  have fy := Pl.sc_bd y (l - 8) (Pl.sp x y) (by omega) (by omega) (by omega)
  exact ⟨by omega, by omega, k x x1 x2, k y y1 y2, fx.1, fx.2, fy.1, fy.2⟩
set_option maxRecDepth 100000 in
set_option maxHeartbeats 1000000 in
theorem hexagon_cut (x y l : Int) (w : World) (h : OverOK x y l) (hi : l < Pl.sp x y) :
    Calls Try.prog 15 #[.int .i64 x, .int .i64 y, .int .i64 l] w fun e w' => e = .returned (.tuple #[.int .i64 ((x * (l - 8)).tdiv (Pl.sp x y)), .int .i64 ((y * (l - 8)).tdiv (Pl.sp x y)), .bool true, .nilIface]) ∧ Ext w w' := by
  have hf := hex_facts h hi
  have ⟨⟨l1, l2⟩, ⟨x1, x2⟩, ⟨y1, y2⟩⟩ := h
  have HI : Hid (decide (Pl.sp x y ≤ l) = false) := Lib.hid (decide_eq_false (by omega))
  obtain ⟨n, hn⟩ : ∃ n, n = Pl.sp x y := ⟨_, rfl⟩
  rw [← hn] at hf hi ⊢
  obtain ⟨n0, n1, ⟨p1, p2⟩, ⟨p3, p4⟩, q1, q2, q3, q4⟩ := hf
  have w1 : IntKind.i64.wrap (x * (l - 8)) = x * (l - 8) := IntWalk.i64_in _ (by omega)
  have w2 : IntKind.i64.wrap (y * (l - 8)) = y * (l - 8) := IntWalk.i64_in _ (by omega)
  have w3 : IntKind.i64.wrap ((x * (l - 8)).tdiv n) = (x * (l - 8)).tdiv n := IntWalk.i64_in _ (by omega)
  have w4 : IntKind.i64.wrap ((y * (l - 8)).tdiv n) = (y * (l - 8)).tdiv n := IntWalk.i64_in _ (by omega)
  have nz : ¬ n = 0 := by omega
  have HN := Lib.hid hn
  have H := Lib.hid h
  clear hn h q1 q2 q3 q4
  go_enter Try.func15, Try.ntmps15
  go_wp2_with fail
  refine (check_ok _ _ _ _ H.out).mono ?_
  rintro e wc ⟨rfl, hxwc⟩
  go_wp2_with fail
  refine (inside_ok x y l _ H.out.2.1 H.out.2.2 (min_link H.out.1)).mono ?_
  rw [HI.out]
  rintro e wi ⟨rfl, hxwi⟩
  go_wp2_with fail
  refine (span_ok x y _ (volt_in30 H.out.2.1) (volt_in30 H.out.2.2)).mono ?_
  rw [← HN.out]
  rintro e wn ⟨rfl, hxwn⟩
  go_wp2_with fail
  go_quiet (fail)
  go_wp2_with fail
  go_returns
  exact ⟨rfl, (by repeat (first | with_reducible exact Ext.refl _ | with_reducible assumption | (with_reducible refine Ext.drew ?_) | (with_reducible refine Ext.drewN ?_ _) | (with_reducible refine Ext.alloc ?_ _) | (with_reducible refine Ext.setCell ?_ ?_ _) | (with_reducible refine Ext.trans ?_ (by with_reducible assumption)) | omega | (focus (simp <;> omega))))⟩

theorem hexagon_bad (x y l : Int) (w : World) (h : ¬ OverOK x y l) :
    Calls Try.prog 15 #[.int .i64 x, .int .i64 y, .int .i64 l] w fun e w' => e = .returned (.tuple #[.int .i64 0, .int .i64 0, .bool false, errv 3]) ∧ Ext w w' := by
  rw [errv_3]
  have H := Lib.hid h
  clear h
  go_enter Try.func15, Try.ntmps15
  go_wp2_with fail
  refine (check_bad _ _ _ _ H.out).mono ?_
  rw [errv_3]
  rintro e wc ⟨rfl, hxwc⟩
  go_wp2_with fail
  go_returns
  exact ⟨rfl, (by repeat (first | with_reducible exact Ext.refl _ | with_reducible assumption | (with_reducible refine Ext.drew ?_) | (with_reducible refine Ext.drewN ?_ _) | (with_reducible refine Ext.alloc ?_ _) | (with_reducible refine Ext.setCell ?_ ?_ _) | (with_reducible refine Ext.trans ?_ (by with_reducible assumption)) | omega | (focus (simp <;> omega))))⟩

/-- A number moved into -m to m. -/
def cl (n m : Int) : Int := max (-m) (min n m)
theorem oclip_any (n m : Int) (w : World) (h : In30 m) :
    Calls Try.prog 40 #[.int .i64 n, .int .i64 m] w fun e w' => e = .returned (.int .i64 (cl n m)) ∧ w = w' := by
  have ⟨h1, h2⟩ := h
  unfold cl
  go_enter Try.func40, Try.ntmps40
  go_wp2
  go_ret
  exact ⟨rfl, rfl⟩
def AxOK (d q m : Int) : Prop := In30 d ∧ In30 q ∧ 0 ≤ m ∧ m ≤ 1073741824
theorem cl_bd (n m : Int) (h : 0 ≤ m) : -m ≤ cl n m ∧ cl n m ≤ m := by unfold cl; omega
/-- What Axis leaves of q. -/
def axq (d q m : Int) : Int := cl q (rst m (cl d m))
theorem ax_rest {d q m : Int} (h : AxOK d q m) : RestOK m (cl d m) := by
  have ⟨a, b⟩ := cl_bd d m h.2.2.1
  have c := h.2.2
  exact ⟨⟨by omega, by omega⟩, ⟨by omega, by omega⟩, by omega, by omega, by omega⟩
theorem rst_in30 {m d : Int} (h : RestOK m d) : In30 (rst m d) := by
  have := Pl.rest_bd m d h.2.2.1 h.2.2.2.2 h.2.2.2.1
  have c := h.1.2
  exact ⟨by unfold rst; omega, by unfold rst; omega⟩
theorem axis_ok (d q m : Int) (w : World) (h : AxOK d q m) :
    Calls Try.prog 25 #[.int .i64 d, .int .i64 q, .int .i64 m] w fun e w' => e = .returned (.tuple #[.int .i64 (cl d m), .int .i64 (axq d q m), .bool (cl d m != d || axq d q m != q), .nilIface]) ∧ Ext w w' := by
  have rok := ax_rest h
  have rin := rst_in30 rok
  have ⟨hd, hq, hm1, hm2⟩ := h
  have im : In30 m := ⟨by omega, by omega⟩
  unfold axq
  obtain ⟨u, hu⟩ : ∃ u, u = cl d m := ⟨_, rfl⟩
  rw [← hu] at rok rin ⊢
  obtain ⟨r, hr⟩ : ∃ r, r = rst m u := ⟨_, rfl⟩
  rw [← hr] at rin ⊢
  obtain ⟨v, hv⟩ : ∃ v, v = cl q r := ⟨_, rfl⟩
  rw [← hv]
  have HU := Lib.hid hu
  have HR := Lib.hid hr
  have HV := Lib.hid hv
  have ROK := Lib.hid rok
  clear hu hr hv rok
  by_cases hc : u = d
  · have b1 : (u != d) = false := by simp [hc]
    have HC := Lib.hid hc
    clear hc
    rw [b1, Bool.false_or]
    go_enter Try.func25, Try.ntmps25
    go_wp2_with fail
    refine (owithin_t _ _ _ _ hd.1 hd.2).mono ?_
    rintro e w0 ⟨rfl, rfl⟩
    go_wp2_with fail
    refine (owithin_t _ _ _ _ hq.1 hq.2).mono ?_
    rintro e w0 ⟨rfl, rfl⟩
    go_wp2_with fail
    refine (owithin_t _ _ _ _ hm1 hm2).mono ?_
    rintro e w0 ⟨rfl, rfl⟩
    go_wp2_with fail
    refine (oclip_any d m _ im).mono ?_
    rw [← HU.out]
    rintro e w1 ⟨rfl, rfl⟩
    go_wp2_with fail
    refine (rest_ok m u _ ROK.out).mono ?_
    rw [← HR.out]
    rintro e w2 ⟨rfl, hxw2⟩
    go_wp2_with fail
    refine (oclip_any q r _ rin).mono ?_
    rw [← HV.out]
    rintro e w3 ⟨rfl, rfl⟩
    go_wp2_with fail
    go_returns
    exact ⟨rfl, (by repeat (first | with_reducible exact Ext.refl _ | with_reducible assumption | (with_reducible refine Ext.drew ?_) | (with_reducible refine Ext.drewN ?_ _) | (with_reducible refine Ext.alloc ?_ _) | (with_reducible refine Ext.setCell ?_ ?_ _) | (with_reducible refine Ext.trans ?_ (by with_reducible assumption)) | omega | (focus (simp <;> omega))))⟩
  · have b1 : (u != d) = true := by simp [hc]
    clear hc
    rw [b1, Bool.true_or]
    go_enter Try.func25, Try.ntmps25
    go_wp2_with fail
    refine (owithin_t _ _ _ _ hd.1 hd.2).mono ?_
    rintro e w0 ⟨rfl, rfl⟩
    go_wp2_with fail
    refine (owithin_t _ _ _ _ hq.1 hq.2).mono ?_
    rintro e w0 ⟨rfl, rfl⟩
    go_wp2_with fail
    refine (owithin_t _ _ _ _ hm1 hm2).mono ?_
    rintro e w0 ⟨rfl, rfl⟩
    go_wp2_with fail
    refine (oclip_any d m _ im).mono ?_
    rw [← HU.out]
    rintro e w1 ⟨rfl, rfl⟩
    go_wp2_with fail
    refine (rest_ok m u _ ROK.out).mono ?_
    rw [← HR.out]
    rintro e w2 ⟨rfl, hxw2⟩
    go_wp2_with fail
    refine (oclip_any q r _ rin).mono ?_
    rw [← HV.out]
    rintro e w3 ⟨rfl, rfl⟩
    go_wp2_with fail
    go_returns
    exact ⟨rfl, (by repeat (first | with_reducible exact Ext.refl _ | with_reducible assumption | (with_reducible refine Ext.drew ?_) | (with_reducible refine Ext.drewN ?_ _) | (with_reducible refine Ext.alloc ?_ _) | (with_reducible refine Ext.setCell ?_ ?_ _) | (with_reducible refine Ext.trans ?_ (by with_reducible assumption)) | omega | (focus (simp <;> omega))))⟩

theorem axis_bad (d q m : Int) (w : World) (h : ¬ AxOK d q m) :
    Calls Try.prog 25 #[.int .i64 d, .int .i64 q, .int .i64 m] w fun e w' => e = .returned (.tuple #[.int .i64 0, .int .i64 0, .bool false, errv 3]) ∧ Ext w w' := by
  rw [errv_3]
  by_cases hd : In30 d
  · by_cases hq : In30 q
    · have H := Lib.hid (fun hm : 0 ≤ m ∧ m ≤ 1073741824 => h ⟨hd, hq, hm⟩)
      clear h
      go_enter Try.func25, Try.ntmps25
      go_wp2_with fail
      refine (owithin_t _ _ _ _ hd.1 hd.2).mono ?_
      rintro e w0 ⟨rfl, rfl⟩
      go_wp2_with fail
      refine (owithin_t _ _ _ _ hq.1 hq.2).mono ?_
      rintro e w0 ⟨rfl, rfl⟩
      go_wp2_with fail
      refine (owithin_f _ _ _ _ H.out).mono ?_
      rintro e w0 ⟨rfl, rfl⟩
      go_wp2_with fail
      go_returns
      exact ⟨rfl, (by repeat (first | with_reducible exact Ext.refl _ | with_reducible assumption | (with_reducible refine Ext.drew ?_) | (with_reducible refine Ext.drewN ?_ _) | (with_reducible refine Ext.alloc ?_ _) | (with_reducible refine Ext.setCell ?_ ?_ _) | (with_reducible refine Ext.trans ?_ (by with_reducible assumption)) | omega | (focus (simp <;> omega))))⟩
    · have H := Lib.hid hq
      clear h hq
      go_enter Try.func25, Try.ntmps25
      go_wp2_with fail
      refine (owithin_t _ _ _ _ hd.1 hd.2).mono ?_
      rintro e w0 ⟨rfl, rfl⟩
      go_wp2_with fail
      refine (owithin_f _ _ _ _ H.out).mono ?_
      rintro e w0 ⟨rfl, rfl⟩
      go_wp2_with fail
      go_returns
      exact ⟨rfl, (by repeat (first | with_reducible exact Ext.refl _ | with_reducible assumption | (with_reducible refine Ext.drew ?_) | (with_reducible refine Ext.drewN ?_ _) | (with_reducible refine Ext.alloc ?_ _) | (with_reducible refine Ext.setCell ?_ ?_ _) | (with_reducible refine Ext.trans ?_ (by with_reducible assumption)) | omega | (focus (simp <;> omega))))⟩
  · have H := Lib.hid hd
    clear h hd
    go_enter Try.func25, Try.ntmps25
    go_wp2_with fail
    refine (owithin_f _ _ _ _ H.out).mono ?_
    rintro e w0 ⟨rfl, rfl⟩
    go_wp2_with fail
    go_returns
    exact ⟨rfl, (by repeat (first | with_reducible exact Ext.refl _ | with_reducible assumption | (with_reducible refine Ext.drew ?_) | (with_reducible refine Ext.drewN ?_ _) | (with_reducible refine Ext.alloc ?_ _) | (with_reducible refine Ext.setCell ?_ ?_ _) | (with_reducible refine Ext.trans ?_ (by with_reducible assumption)) | omega | (focus (simp <;> omega))))⟩

/-- The length in thousandths of the radius. -/
def dep (x y l : Int) : Int := (1000 * Pl.isq (x * x + y * y)).tdiv (Pl.rad l)
theorem depth_ok (x y l : Int) (w : World) (h : OverOK x y l) :
    Calls Try.prog 23 #[.int .i64 x, .int .i64 y, .int .i64 l] w fun e w' => e = .returned (.tuple #[.int .i64 (dep x y l), .nilIface]) ∧ Ext w w' := by
  obtain ⟨r, hr⟩ : ∃ r, r = Pl.rad l := ⟨_, rfl⟩
  obtain ⟨n, hn⟩ : ∃ n, n = Pl.isq (x * x + y * y) := ⟨_, rfl⟩
  have rb := Pl.rad_bd l h.1.1 h.1.2
  have n0 := Pl.isq_nonneg (x * x + y * y)
  have n1 : Pl.isq (x * x + y * y) ≤ 1518500250 := by
    have a := in30_sq (volt_in30 h.2.1)
    have b := in30_sq (volt_in30 h.2.2)
    exact Pl.isq_le_of (by omega) (by omega)
  rw [← hr] at rb
  rw [← hn] at n0 n1
  unfold dep
  rw [← hr, ← hn]
  have tq := Pl.td_pos (a := 1000 * n) (d := r) (by omega) (by omega)
  have tq2 : (1000 * n).tdiv r ≤ 1000 * n := by
    have := Int.mul_le_mul_of_nonneg_right (show 1 ≤ r by omega) tq.1
    omega
  obtain ⟨tq1, _, _⟩ := tq
  obtain ⟨r1, r2, _, _⟩ := rb
  have HR := Lib.hid hr
  have HN := Lib.hid hn
  have H := Lib.hid h
  clear hr hn h
  go_enter Try.func23, Try.ntmps23
  go_wp2_with fail
  refine (check_ok _ _ _ _ H.out).mono ?_
  rintro e wc ⟨rfl, hxwc⟩
  go_wp2_with fail
  refine (radius_ok l _ H.out.1).mono ?_
  rw [← HR.out]
  rintro e wr ⟨rfl, hxwr⟩
  go_wp2_with fail
  refine (length_ok x y _ (volt_in30 H.out.2.1) (volt_in30 H.out.2.2)).mono ?_
  rw [← HN.out]
  rintro e wn ⟨rfl, hxwn⟩
  go_wp2_with fail
  go_ret2
  exact ⟨rfl, (by repeat (first | with_reducible exact Ext.refl _ | with_reducible assumption | (with_reducible refine Ext.drew ?_) | (with_reducible refine Ext.drewN ?_ _) | (with_reducible refine Ext.alloc ?_ _) | (with_reducible refine Ext.setCell ?_ ?_ _) | (with_reducible refine Ext.trans ?_ (by with_reducible assumption)) | omega | (focus (simp <;> omega))))⟩

theorem depth_bad (x y l : Int) (w : World) (h : ¬ OverOK x y l) :
    Calls Try.prog 23 #[.int .i64 x, .int .i64 y, .int .i64 l] w fun e w' => e = .returned (.tuple #[.int .i64 0, errv 3]) ∧ Ext w w' := by
  rw [errv_3]
  have H := Lib.hid h
  clear h
  go_enter Try.func23, Try.ntmps23
  go_wp2_with fail
  refine (check_bad _ _ _ _ H.out).mono ?_
  rw [errv_3]
  rintro e wc ⟨rfl, hxwc⟩
  go_wp2_with fail
  go_ret2
  exact ⟨rfl, (by repeat (first | with_reducible exact Ext.refl _ | with_reducible assumption | (with_reducible refine Ext.drew ?_) | (with_reducible refine Ext.drewN ?_ _) | (with_reducible refine Ext.alloc ?_ _) | (with_reducible refine Ext.setCell ?_ ?_ _) | (with_reducible refine Ext.trans ?_ (by with_reducible assumption)) | omega | (focus (simp <;> omega))))⟩


end Go.Proofs.Ytpeboabgcjbjcaa
