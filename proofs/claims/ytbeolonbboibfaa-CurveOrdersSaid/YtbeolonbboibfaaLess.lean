/- The contracts of curve.floor and of the reference's Less.
   Conditions: the bounds that each names. -/
import Derived.Test.YtbeolonbboibfaaCurveVal
import Derived.BigQuiet
import Derived.Deep.Cut
namespace Go.Proofs.Ytbeolonbboibfaa
open Go.ChangeShapes Go.WideShapes Go.ChangeAt Go.RowKit

theorem fl_cases (n d : Int) (hd : 0 < d) : ∃ q r, q = n / d ∧ r = n % d ∧ 0 ≤ r ∧ r < d ∧ n = q * d + r ∧ ((n.tdiv d = q ∧ n.tmod d = r) ∨ (n.tdiv d = q + 1 ∧ n.tmod d = r - d ∧ 0 < r)) := by
  have h1 := Int.emod_nonneg n (show d ≠ 0 by omega)
  have h2 := Int.emod_lt_of_pos n hd
  have h3 := Int.mul_ediv_add_emod n d
  rw [Int.mul_comm] at h3
  refine ⟨n / d, n % d, rfl, rfl, h1, h2, by omega, ?_⟩
  have t := Int.tmod_def n d
  have e := Int.tdiv_eq_ediv (a := n) (b := d)
  have sg : d.sign = 1 := Int.sign_eq_one_of_pos hd
  by_cases hc : 0 ≤ n ∨ d ∣ n
  · rw [if_pos hc, Int.add_zero] at e
    refine .inl ⟨e, ?_⟩
    rw [t, e, Int.mul_comm]; omega
  · rw [if_neg hc, sg] at e
    refine .inr ⟨e, ?_, ?_⟩
    · rw [t, e, Int.mul_add, Int.mul_comm]; omega
    · have : n % d ≠ 0 := fun h => hc (.inr (Int.dvd_of_emod_eq_zero h))
      omega
theorem q_bd {n d q r : Int} (h : ValBd n d) (r0 : 0 ≤ r) (r1 : r < d) (e : n = q * d + r) : -4611686018427387905 ≤ q ∧ q ≤ 4611686018427387904 := by
  obtain ⟨⟨n1, n2⟩, d1, d2⟩ := h
  constructor
  · apply Int.not_lt.1
    intro hq
    have := Int.mul_le_mul_of_nonneg_right (show q ≤ -4611686018427387906 by omega) (show 0 ≤ d by omega)
    have := Int.mul_le_mul_of_nonneg_left (show (1 : Int) ≤ d by omega) (show (0 : Int) ≤ 4611686018427387905 by omega)
    omega
  · apply Int.not_lt.1
    intro hq
    have := Int.mul_le_mul_of_nonneg_right (show 4611686018427387905 ≤ q by omega) (show 0 ≤ d by omega)
    have := Int.mul_le_mul_of_nonneg_left (show (1 : Int) ≤ d by omega) (show (0 : Int) ≤ 4611686018427387905 by omega)
    omega
theorem frac_lt {A B C D q r p s : Int} (r1 : r < B) (s0 : 0 ≤ s) (hB : 0 < B) (hD : 0 < D) (eA : A = q * B + r) (eC : C = p * D + s) (h : q < p) : A * D < C * B := by
  have h1 := Int.mul_lt_mul_of_pos_right r1 hD
  have h2 := Int.mul_nonneg s0 (Int.le_of_lt hB)
  have h3 := Int.mul_le_mul_of_nonneg_right (show 1 ≤ p - q by omega) (Int.le_of_lt (Int.mul_pos hB hD))
  have e1 : A * D = q * (B * D) + r * D := by rw [eA]; grind
  have e2 : C * B = p * (B * D) + s * B := by rw [eC]; grind
  rw [Int.sub_mul, Int.one_mul] at h3
  omega
theorem frac_eq {A B C D q r s : Int} (eA : A = q * B + r) (eC : C = q * D + s) : A * D - C * B = r * D - s * B := by rw [eA, eC]; grind
/-- The answer to A / B < C / D. -/
def LessIs (A B C D : Int) (R : Bool) : Prop := R = decide (A * D < C * B)
theorem less_lt {A B C D q r p s : Int} {R : Bool} (hR : LessIs A B C D R) (r1 : r < B) (s0 : 0 ≤ s) (hB : 0 < B) (hD : 0 < D) (eA : A = q * B + r) (eC : C = p * D + s) (h : q < p) : R = true := by
  rw [hR]; exact decide_eq_true (frac_lt r1 s0 hB hD eA eC h)
theorem less_gt {A B C D q r p s : Int} {R : Bool} (hR : LessIs A B C D R) (s1 : s < D) (r0 : 0 ≤ r) (hB : 0 < B) (hD : 0 < D) (eA : A = q * B + r) (eC : C = p * D + s) (h : p < q) : R = false := by
  have := frac_lt s1 r0 hD hB eC eA h
  rw [hR]; exact decide_eq_false (by omega)
theorem less_r0 {A B C D q s : Int} {R : Bool} (hR : LessIs A B C D R) (s0 : 0 ≤ s) (hB : 0 < B) (eA : A = q * B + 0) (eC : C = q * D + s) : R = decide (0 < s) := by
  have e := frac_eq eA eC
  rw [hR]
  rcases Int.lt_or_le 0 s with h | h
  · have := Int.mul_pos h hB
    rw [decide_eq_true h]; exact decide_eq_true (by omega)
  · obtain rfl : s = 0 := by omega
    rw [decide_eq_false (by omega : ¬ (0 : Int) < 0)]; exact decide_eq_false (by omega)
theorem less_s0 {A B C D q r : Int} {R : Bool} (hR : LessIs A B C D R) (r0 : 0 ≤ r) (hD : 0 < D) (eA : A = q * B + r) (eC : C = q * D + 0) : R = false := by
  have e := frac_eq eA eC
  have := Int.mul_nonneg r0 (Int.le_of_lt hD)
  rw [hR]; exact decide_eq_false (by omega)
theorem less_next {A B C D q r s : Int} {R : Bool} (hR : LessIs A B C D R) (eA : A = q * B + r) (eC : C = q * D + s) : LessIs D s B r R := by
  have e := frac_eq eA eC
  have e1 : D * r = r * D := Int.mul_comm _ _
  have e2 : B * s = s * B := Int.mul_comm _ _
  unfold LessIs
  rw [hR]
  by_cases h : A * D < C * B
  · rw [decide_eq_true h]; exact (decide_eq_true (by omega)).symm
  · rw [decide_eq_false h]; exact (decide_eq_false (by omega)).symm
set_option maxRecDepth 100000 in
set_option maxHeartbeats 1000000 in
theorem floor_any (n d : Int) (w : World) (h : ValBd n d) : Calls Try.prog 43 #[.int .i64 n, .int .i64 d] w fun e w' => e = .returned (.tuple #[.int .i64 (n / d), .int .i64 (n % d)]) ∧ Ext w w' := by
  obtain ⟨q, r, hq, hr, r0, r1, e, hh⟩ := fl_cases n d (by have := h.2.1; omega)
  have ⟨q1, q2⟩ := q_bd h r0 r1 e
  obtain ⟨⟨n1, n2⟩, d1, d2⟩ := h
  have d3 : ¬ d = 0 := by omega
  rw [← hq, ← hr]
  clear hq hr e
  rcases hh with ⟨dqT, drT⟩ | ⟨dqT, drT, rp⟩
  · skip
    have wtT : IntKind.i64.wrap q = q := by exact IntWalk.i64_in _ (by omega)
    have sT : 0 ≤ r := by omega
    go_enter Try.func43, Try.ntmps43
    go_wp2_with fail
    go_quiet (fail)
    go_wp2_with fail
    go_ret2
    exact ⟨rfl, (by repeat (first | with_reducible exact Ext.refl _ | with_reducible assumption | (with_reducible refine Ext.drew ?_) | (with_reducible refine Ext.drewN ?_ _) | (with_reducible refine Ext.alloc ?_ _) | (with_reducible refine Ext.setCell ?_ ?_ _) | (with_reducible refine Ext.trans ?_ (by with_reducible assumption)) | omega | (focus (simp <;> omega))))⟩
  · skip
    obtain ⟨T, hT⟩ : ∃ T, T = q + 1 := ⟨_, rfl⟩
    obtain ⟨R, hR⟩ : ∃ R, R = r - d := ⟨_, rfl⟩
    rw [← hT] at dqT
    rw [← hR] at drT
    have wtT : IntKind.i64.wrap T = T := by exact IntWalk.i64_in _ (by omega)
    have wsT : IntKind.i64.wrap (T - 1) = q := by rw [show T - 1 = q by omega]; exact IntWalk.i64_in _ (by omega)
    have wrT : IntKind.i64.wrap (R + d) = r := by rw [show R + d = r by omega]; exact IntWalk.i64_in _ (by omega)
    have sT : R < 0 := by omega
    clear hT hR
    go_enter Try.func43, Try.ntmps43
    go_wp2_with fail
    go_quiet (fail)
    go_wp2_with fail
    go_ret2
    exact ⟨rfl, (by repeat (first | with_reducible exact Ext.refl _ | with_reducible assumption | (with_reducible refine Ext.drew ?_) | (with_reducible refine Ext.drewN ?_ _) | (with_reducible refine Ext.alloc ?_ _) | (with_reducible refine Ext.setCell ?_ ?_ _) | (with_reducible refine Ext.trans ?_ (by with_reducible assumption)) | omega | (focus (simp <;> omega))))⟩
set_option linter.unusedSimpArgs false in
set_option maxRecDepth 100000 in
set_option maxHeartbeats 1000000 in
theorem less_any (A B C D : Int) (R : Bool) (w : World) (h1 : ValBd A B) (h2 : ValBd C D) (hR : LessIs A B C D R) : Calls Try.prog 44 #[.int .i64 A, .int .i64 B, .int .i64 C, .int .i64 D] w fun e w' => e = .returned (.bool R) ∧ Ext w w' := by
  go_enter Try.func44, Try.ntmps44
  go_wp2_with fail
  go_loopw [0, 1, 2, 3] (fun i0 i1 i2 i3 wr => ∃ A B C D : Int, i0 = .int .i64 A ∧ i1 = .int .i64 B ∧ i2 = .int .i64 C ∧ i3 = .int .i64 D ∧ ValBd A B ∧ ValBd C D ∧ LessIs A B C D R ∧ Ext w wr) (fun i0 i1 i2 i3 _ => (intOf i1 + intOf i3).toNat)
  case atStart => exact ⟨A, B, C, D, rfl, rfl, rfl, rfl, h1, h2, hR, (by repeat (first | with_reducible exact Ext.refl _ | with_reducible assumption | (with_reducible refine Ext.drew ?_) | (with_reducible refine Ext.drewN ?_ _) | (with_reducible refine Ext.alloc ?_ _) | (with_reducible refine Ext.setCell ?_ ?_ _) | (with_reducible refine Ext.trans ?_ (by with_reducible assumption)) | omega | (focus (simp <;> omega))))⟩
  case round =>
    clear h1 h2 hR A B C D
    obtain ⟨A, B, C, D, rfl, rfl, rfl, rfl, h1, h2, hR, hx⟩ := hrel
    obtain ⟨q, r, hq, hr, r0, r1, eA, ha⟩ := fl_cases A B (by have := h1.2.1; omega)
    obtain ⟨p, s, hp, hs, s0, s1, eC, hc⟩ := fl_cases C D (by have := h2.2.1; omega)
    have ⟨q1, q2⟩ := q_bd h1 r0 r1 eA
    have ⟨p1, p2⟩ := q_bd h2 s0 s1 eC
    obtain ⟨⟨A1, A2⟩, B1, B2⟩ := h1
    obtain ⟨⟨C1, C2⟩, D1, D2⟩ := h2
    have hB : 0 < B := by omega
    have hD : 0 < D := by omega
    have B3 : ¬ B = 0 := by omega
    have D3 : ¬ D = 0 := by omega
    have HL := Lib.hid hR
    have EA := Lib.hid eA
    have EC := Lib.hid eC
    clear hq hr hp hs eA eC hR
    rcases ha with ⟨dqT, drT⟩ | ⟨dqT, drT, rp⟩ <;> rcases hc with ⟨dqU, drU⟩ | ⟨dqU, drU, sp⟩
    · skip
      have wtT : IntKind.i64.wrap q = q := by exact IntWalk.i64_in _ (by omega)
      have sT : 0 ≤ r := by omega
      have wtU : IntKind.i64.wrap p = p := by exact IntWalk.i64_in _ (by omega)
      have sU : 0 ≤ s := by omega
      go_wp2_with fail
      go_quiet (fail)
      go_upto_region 4 with fail
      go_quiet (fail)
      go_upto_region 7 with fail
      rcases Int.lt_trichotomy q p with hqp | hqp | hqp
      · have hne : ¬ q = p := by omega
        have hd : decide (q < p) = true := decide_eq_true (by omega)
        obtain rfl := less_lt HL.out r1 s0 hB hD EA.out EC.out hqp
        go_wp2_with fail
        go_ret
        exact ⟨(by first | rfl | exact ret_true (by simp <;> omega)), (by repeat (first | with_reducible exact Ext.refl _ | with_reducible assumption | (with_reducible refine Ext.drew ?_) | (with_reducible refine Ext.drewN ?_ _) | (with_reducible refine Ext.alloc ?_ _) | (with_reducible refine Ext.setCell ?_ ?_ _) | (with_reducible refine Ext.trans ?_ (by with_reducible assumption)) | omega | (focus (simp <;> omega))))⟩
      · obtain rfl : q = p := hqp
        by_cases hr0 : r = 0
        · obtain rfl := less_r0 (s := s) HL.out s0 hB (by rw [EA.out, hr0]) EC.out
          subst hr0
          by_cases hs : 0 < s
          · go_wp2_with fail
            go_ret
            exact ⟨by first | rfl | simp [hs], (by repeat (first | with_reducible exact Ext.refl _ | with_reducible assumption | (with_reducible refine Ext.drew ?_) | (with_reducible refine Ext.drewN ?_ _) | (with_reducible refine Ext.alloc ?_ _) | (with_reducible refine Ext.setCell ?_ ?_ _) | (with_reducible refine Ext.trans ?_ (by with_reducible assumption)) | omega | (focus (simp <;> omega))))⟩
          · have hs' : s ≤ 0 := by omega
            go_wp2_with fail
            go_ret
            exact ⟨by first | rfl | simp [hs'], (by repeat (first | with_reducible exact Ext.refl _ | with_reducible assumption | (with_reducible refine Ext.drew ?_) | (with_reducible refine Ext.drewN ?_ _) | (with_reducible refine Ext.alloc ?_ _) | (with_reducible refine Ext.setCell ?_ ?_ _) | (with_reducible refine Ext.trans ?_ (by with_reducible assumption)) | omega | (focus (simp <;> omega))))⟩
        · by_cases hs0 : s = 0
          · obtain rfl := less_s0 (r := r) HL.out r0 hD EA.out (by rw [EC.out, hs0])
            subst hs0
            go_wp2_with fail
            go_ret
            exact ⟨(by first | rfl | exact ret_true (by simp <;> omega)), (by repeat (first | with_reducible exact Ext.refl _ | with_reducible assumption | (with_reducible refine Ext.drew ?_) | (with_reducible refine Ext.drewN ?_ _) | (with_reducible refine Ext.alloc ?_ _) | (with_reducible refine Ext.setCell ?_ ?_ _) | (with_reducible refine Ext.trans ?_ (by with_reducible assumption)) | omega | (focus (simp <;> omega))))⟩
          · have hn := less_next HL.out EA.out EC.out
            have hr1 : (r == 0) = false := by simpa using hr0
            have hs1 : (s == 0) = false := by simpa using hs0
            go_wp2_with fail
            exact ⟨⟨D, s, B, r, rfl, rfl, rfl, rfl, ⟨by omega, by omega⟩, ⟨by omega, by omega⟩, hn, (by repeat (first | with_reducible exact Ext.refl _ | with_reducible assumption | (with_reducible refine Ext.drew ?_) | (with_reducible refine Ext.drewN ?_ _) | (with_reducible refine Ext.alloc ?_ _) | (with_reducible refine Ext.setCell ?_ ?_ _) | (with_reducible refine Ext.trans ?_ (by with_reducible assumption)) | omega | (focus (simp <;> omega))))⟩, by simp [intOf]; omega⟩
      · have hne : ¬ q = p := by omega
        have hne2 : p ≤ q := by omega
        have hd : decide (q < p) = false := decide_eq_false (by omega)
        obtain rfl := less_gt HL.out s1 r0 hB hD EA.out EC.out hqp
        go_wp2_with fail
        go_ret
        exact ⟨(by first | rfl | exact ret_true (by simp <;> omega)), (by repeat (first | with_reducible exact Ext.refl _ | with_reducible assumption | (with_reducible refine Ext.drew ?_) | (with_reducible refine Ext.drewN ?_ _) | (with_reducible refine Ext.alloc ?_ _) | (with_reducible refine Ext.setCell ?_ ?_ _) | (with_reducible refine Ext.trans ?_ (by with_reducible assumption)) | omega | (focus (simp <;> omega))))⟩
    · skip
      have wtT : IntKind.i64.wrap q = q := by exact IntWalk.i64_in _ (by omega)
      have sT : 0 ≤ r := by omega
      obtain ⟨U, hU⟩ : ∃ U, U = p + 1 := ⟨_, rfl⟩
      obtain ⟨S1, hS1⟩ : ∃ S1, S1 = s - D := ⟨_, rfl⟩
      rw [← hU] at dqU
      rw [← hS1] at drU
      have wtU : IntKind.i64.wrap U = U := by exact IntWalk.i64_in _ (by omega)
      have wsU : IntKind.i64.wrap (U - 1) = p := by rw [show U - 1 = p by omega]; exact IntWalk.i64_in _ (by omega)
      have wrU : IntKind.i64.wrap (S1 + D) = s := by rw [show S1 + D = s by omega]; exact IntWalk.i64_in _ (by omega)
      have sU : S1 < 0 := by omega
      clear hU hS1
      go_wp2_with fail
      go_quiet (fail)
      go_upto_region 4 with fail
      go_quiet (fail)
      go_upto_region 7 with fail
      rcases Int.lt_trichotomy q p with hqp | hqp | hqp
      · have hne : ¬ q = p := by omega
        have hd : decide (q < p) = true := decide_eq_true (by omega)
        obtain rfl := less_lt HL.out r1 s0 hB hD EA.out EC.out hqp
        go_wp2_with fail
        go_ret
        exact ⟨(by first | rfl | exact ret_true (by simp <;> omega)), (by repeat (first | with_reducible exact Ext.refl _ | with_reducible assumption | (with_reducible refine Ext.drew ?_) | (with_reducible refine Ext.drewN ?_ _) | (with_reducible refine Ext.alloc ?_ _) | (with_reducible refine Ext.setCell ?_ ?_ _) | (with_reducible refine Ext.trans ?_ (by with_reducible assumption)) | omega | (focus (simp <;> omega))))⟩
      · obtain rfl : q = p := hqp
        by_cases hr0 : r = 0
        · obtain rfl := less_r0 (s := s) HL.out s0 hB (by rw [EA.out, hr0]) EC.out
          subst hr0
          by_cases hs : 0 < s
          · go_wp2_with fail
            go_ret
            exact ⟨by first | rfl | simp [hs], (by repeat (first | with_reducible exact Ext.refl _ | with_reducible assumption | (with_reducible refine Ext.drew ?_) | (with_reducible refine Ext.drewN ?_ _) | (with_reducible refine Ext.alloc ?_ _) | (with_reducible refine Ext.setCell ?_ ?_ _) | (with_reducible refine Ext.trans ?_ (by with_reducible assumption)) | omega | (focus (simp <;> omega))))⟩
          · have hs' : s ≤ 0 := by omega
            go_wp2_with fail
            go_ret
            exact ⟨by first | rfl | simp [hs'], (by repeat (first | with_reducible exact Ext.refl _ | with_reducible assumption | (with_reducible refine Ext.drew ?_) | (with_reducible refine Ext.drewN ?_ _) | (with_reducible refine Ext.alloc ?_ _) | (with_reducible refine Ext.setCell ?_ ?_ _) | (with_reducible refine Ext.trans ?_ (by with_reducible assumption)) | omega | (focus (simp <;> omega))))⟩
        · by_cases hs0 : s = 0
          · obtain rfl := less_s0 (r := r) HL.out r0 hD EA.out (by rw [EC.out, hs0])
            subst hs0
            go_wp2_with fail
            go_ret
            exact ⟨(by first | rfl | exact ret_true (by simp <;> omega)), (by repeat (first | with_reducible exact Ext.refl _ | with_reducible assumption | (with_reducible refine Ext.drew ?_) | (with_reducible refine Ext.drewN ?_ _) | (with_reducible refine Ext.alloc ?_ _) | (with_reducible refine Ext.setCell ?_ ?_ _) | (with_reducible refine Ext.trans ?_ (by with_reducible assumption)) | omega | (focus (simp <;> omega))))⟩
          · have hn := less_next HL.out EA.out EC.out
            have hr1 : (r == 0) = false := by simpa using hr0
            have hs1 : (s == 0) = false := by simpa using hs0
            go_wp2_with fail
            exact ⟨⟨D, s, B, r, rfl, rfl, rfl, rfl, ⟨by omega, by omega⟩, ⟨by omega, by omega⟩, hn, (by repeat (first | with_reducible exact Ext.refl _ | with_reducible assumption | (with_reducible refine Ext.drew ?_) | (with_reducible refine Ext.drewN ?_ _) | (with_reducible refine Ext.alloc ?_ _) | (with_reducible refine Ext.setCell ?_ ?_ _) | (with_reducible refine Ext.trans ?_ (by with_reducible assumption)) | omega | (focus (simp <;> omega))))⟩, by simp [intOf]; omega⟩
      · have hne : ¬ q = p := by omega
        have hne2 : p ≤ q := by omega
        have hd : decide (q < p) = false := decide_eq_false (by omega)
        obtain rfl := less_gt HL.out s1 r0 hB hD EA.out EC.out hqp
        go_wp2_with fail
        go_ret
        exact ⟨(by first | rfl | exact ret_true (by simp <;> omega)), (by repeat (first | with_reducible exact Ext.refl _ | with_reducible assumption | (with_reducible refine Ext.drew ?_) | (with_reducible refine Ext.drewN ?_ _) | (with_reducible refine Ext.alloc ?_ _) | (with_reducible refine Ext.setCell ?_ ?_ _) | (with_reducible refine Ext.trans ?_ (by with_reducible assumption)) | omega | (focus (simp <;> omega))))⟩
    · skip
      obtain ⟨T, hT⟩ : ∃ T, T = q + 1 := ⟨_, rfl⟩
      obtain ⟨R1, hR1⟩ : ∃ R1, R1 = r - B := ⟨_, rfl⟩
      rw [← hT] at dqT
      rw [← hR1] at drT
      have wtT : IntKind.i64.wrap T = T := by exact IntWalk.i64_in _ (by omega)
      have wsT : IntKind.i64.wrap (T - 1) = q := by rw [show T - 1 = q by omega]; exact IntWalk.i64_in _ (by omega)
      have wrT : IntKind.i64.wrap (R1 + B) = r := by rw [show R1 + B = r by omega]; exact IntWalk.i64_in _ (by omega)
      have sT : R1 < 0 := by omega
      clear hT hR1
      have wtU : IntKind.i64.wrap p = p := by exact IntWalk.i64_in _ (by omega)
      have sU : 0 ≤ s := by omega
      go_wp2_with fail
      go_quiet (fail)
      go_upto_region 4 with fail
      go_quiet (fail)
      go_upto_region 7 with fail
      rcases Int.lt_trichotomy q p with hqp | hqp | hqp
      · have hne : ¬ q = p := by omega
        have hd : decide (q < p) = true := decide_eq_true (by omega)
        obtain rfl := less_lt HL.out r1 s0 hB hD EA.out EC.out hqp
        go_wp2_with fail
        go_ret
        exact ⟨(by first | rfl | exact ret_true (by simp <;> omega)), (by repeat (first | with_reducible exact Ext.refl _ | with_reducible assumption | (with_reducible refine Ext.drew ?_) | (with_reducible refine Ext.drewN ?_ _) | (with_reducible refine Ext.alloc ?_ _) | (with_reducible refine Ext.setCell ?_ ?_ _) | (with_reducible refine Ext.trans ?_ (by with_reducible assumption)) | omega | (focus (simp <;> omega))))⟩
      · obtain rfl : q = p := hqp
        by_cases hr0 : r = 0
        · obtain rfl := less_r0 (s := s) HL.out s0 hB (by rw [EA.out, hr0]) EC.out
          subst hr0
          by_cases hs : 0 < s
          · go_wp2_with fail
            go_ret
            exact ⟨by first | rfl | simp [hs], (by repeat (first | with_reducible exact Ext.refl _ | with_reducible assumption | (with_reducible refine Ext.drew ?_) | (with_reducible refine Ext.drewN ?_ _) | (with_reducible refine Ext.alloc ?_ _) | (with_reducible refine Ext.setCell ?_ ?_ _) | (with_reducible refine Ext.trans ?_ (by with_reducible assumption)) | omega | (focus (simp <;> omega))))⟩
          · have hs' : s ≤ 0 := by omega
            go_wp2_with fail
            go_ret
            exact ⟨by first | rfl | simp [hs'], (by repeat (first | with_reducible exact Ext.refl _ | with_reducible assumption | (with_reducible refine Ext.drew ?_) | (with_reducible refine Ext.drewN ?_ _) | (with_reducible refine Ext.alloc ?_ _) | (with_reducible refine Ext.setCell ?_ ?_ _) | (with_reducible refine Ext.trans ?_ (by with_reducible assumption)) | omega | (focus (simp <;> omega))))⟩
        · by_cases hs0 : s = 0
          · obtain rfl := less_s0 (r := r) HL.out r0 hD EA.out (by rw [EC.out, hs0])
            subst hs0
            go_wp2_with fail
            go_ret
            exact ⟨(by first | rfl | exact ret_true (by simp <;> omega)), (by repeat (first | with_reducible exact Ext.refl _ | with_reducible assumption | (with_reducible refine Ext.drew ?_) | (with_reducible refine Ext.drewN ?_ _) | (with_reducible refine Ext.alloc ?_ _) | (with_reducible refine Ext.setCell ?_ ?_ _) | (with_reducible refine Ext.trans ?_ (by with_reducible assumption)) | omega | (focus (simp <;> omega))))⟩
          · have hn := less_next HL.out EA.out EC.out
            have hr1 : (r == 0) = false := by simpa using hr0
            have hs1 : (s == 0) = false := by simpa using hs0
            go_wp2_with fail
            exact ⟨⟨D, s, B, r, rfl, rfl, rfl, rfl, ⟨by omega, by omega⟩, ⟨by omega, by omega⟩, hn, (by repeat (first | with_reducible exact Ext.refl _ | with_reducible assumption | (with_reducible refine Ext.drew ?_) | (with_reducible refine Ext.drewN ?_ _) | (with_reducible refine Ext.alloc ?_ _) | (with_reducible refine Ext.setCell ?_ ?_ _) | (with_reducible refine Ext.trans ?_ (by with_reducible assumption)) | omega | (focus (simp <;> omega))))⟩, by simp [intOf]; omega⟩
      · have hne : ¬ q = p := by omega
        have hne2 : p ≤ q := by omega
        have hd : decide (q < p) = false := decide_eq_false (by omega)
        obtain rfl := less_gt HL.out s1 r0 hB hD EA.out EC.out hqp
        go_wp2_with fail
        go_ret
        exact ⟨(by first | rfl | exact ret_true (by simp <;> omega)), (by repeat (first | with_reducible exact Ext.refl _ | with_reducible assumption | (with_reducible refine Ext.drew ?_) | (with_reducible refine Ext.drewN ?_ _) | (with_reducible refine Ext.alloc ?_ _) | (with_reducible refine Ext.setCell ?_ ?_ _) | (with_reducible refine Ext.trans ?_ (by with_reducible assumption)) | omega | (focus (simp <;> omega))))⟩
    · skip
      obtain ⟨T, hT⟩ : ∃ T, T = q + 1 := ⟨_, rfl⟩
      obtain ⟨R1, hR1⟩ : ∃ R1, R1 = r - B := ⟨_, rfl⟩
      rw [← hT] at dqT
      rw [← hR1] at drT
      have wtT : IntKind.i64.wrap T = T := by exact IntWalk.i64_in _ (by omega)
      have wsT : IntKind.i64.wrap (T - 1) = q := by rw [show T - 1 = q by omega]; exact IntWalk.i64_in _ (by omega)
      have wrT : IntKind.i64.wrap (R1 + B) = r := by rw [show R1 + B = r by omega]; exact IntWalk.i64_in _ (by omega)
      have sT : R1 < 0 := by omega
      clear hT hR1
      obtain ⟨U, hU⟩ : ∃ U, U = p + 1 := ⟨_, rfl⟩
      obtain ⟨S1, hS1⟩ : ∃ S1, S1 = s - D := ⟨_, rfl⟩
      rw [← hU] at dqU
      rw [← hS1] at drU
      have wtU : IntKind.i64.wrap U = U := by exact IntWalk.i64_in _ (by omega)
      have wsU : IntKind.i64.wrap (U - 1) = p := by rw [show U - 1 = p by omega]; exact IntWalk.i64_in _ (by omega)
      have wrU : IntKind.i64.wrap (S1 + D) = s := by rw [show S1 + D = s by omega]; exact IntWalk.i64_in _ (by omega)
      have sU : S1 < 0 := by omega
      clear hU hS1
      go_wp2_with fail
      go_quiet (fail)
      go_upto_region 4 with fail
      go_quiet (fail)
      go_upto_region 7 with fail
      rcases Int.lt_trichotomy q p with hqp | hqp | hqp
      · have hne : ¬ q = p := by omega
        have hd : decide (q < p) = true := decide_eq_true (by omega)
        obtain rfl := less_lt HL.out r1 s0 hB hD EA.out EC.out hqp
        go_wp2_with fail
        go_ret
        exact ⟨(by first | rfl | exact ret_true (by simp <;> omega)), (by repeat (first | with_reducible exact Ext.refl _ | with_reducible assumption | (with_reducible refine Ext.drew ?_) | (with_reducible refine Ext.drewN ?_ _) | (with_reducible refine Ext.alloc ?_ _) | (with_reducible refine Ext.setCell ?_ ?_ _) | (with_reducible refine Ext.trans ?_ (by with_reducible assumption)) | omega | (focus (simp <;> omega))))⟩
      · obtain rfl : q = p := hqp
        by_cases hr0 : r = 0
        · obtain rfl := less_r0 (s := s) HL.out s0 hB (by rw [EA.out, hr0]) EC.out
          subst hr0
          by_cases hs : 0 < s
          · go_wp2_with fail
            go_ret
            exact ⟨by first | rfl | simp [hs], (by repeat (first | with_reducible exact Ext.refl _ | with_reducible assumption | (with_reducible refine Ext.drew ?_) | (with_reducible refine Ext.drewN ?_ _) | (with_reducible refine Ext.alloc ?_ _) | (with_reducible refine Ext.setCell ?_ ?_ _) | (with_reducible refine Ext.trans ?_ (by with_reducible assumption)) | omega | (focus (simp <;> omega))))⟩
          · have hs' : s ≤ 0 := by omega
            go_wp2_with fail
            go_ret
            exact ⟨by first | rfl | simp [hs'], (by repeat (first | with_reducible exact Ext.refl _ | with_reducible assumption | (with_reducible refine Ext.drew ?_) | (with_reducible refine Ext.drewN ?_ _) | (with_reducible refine Ext.alloc ?_ _) | (with_reducible refine Ext.setCell ?_ ?_ _) | (with_reducible refine Ext.trans ?_ (by with_reducible assumption)) | omega | (focus (simp <;> omega))))⟩
        · by_cases hs0 : s = 0
          · obtain rfl := less_s0 (r := r) HL.out r0 hD EA.out (by rw [EC.out, hs0])
            subst hs0
            go_wp2_with fail
            go_ret
            exact ⟨(by first | rfl | exact ret_true (by simp <;> omega)), (by repeat (first | with_reducible exact Ext.refl _ | with_reducible assumption | (with_reducible refine Ext.drew ?_) | (with_reducible refine Ext.drewN ?_ _) | (with_reducible refine Ext.alloc ?_ _) | (with_reducible refine Ext.setCell ?_ ?_ _) | (with_reducible refine Ext.trans ?_ (by with_reducible assumption)) | omega | (focus (simp <;> omega))))⟩
          · have hn := less_next HL.out EA.out EC.out
            have hr1 : (r == 0) = false := by simpa using hr0
            have hs1 : (s == 0) = false := by simpa using hs0
            go_wp2_with fail
            exact ⟨⟨D, s, B, r, rfl, rfl, rfl, rfl, ⟨by omega, by omega⟩, ⟨by omega, by omega⟩, hn, (by repeat (first | with_reducible exact Ext.refl _ | with_reducible assumption | (with_reducible refine Ext.drew ?_) | (with_reducible refine Ext.drewN ?_ _) | (with_reducible refine Ext.alloc ?_ _) | (with_reducible refine Ext.setCell ?_ ?_ _) | (with_reducible refine Ext.trans ?_ (by with_reducible assumption)) | omega | (focus (simp <;> omega))))⟩, by simp [intOf]; omega⟩
      · have hne : ¬ q = p := by omega
        have hne2 : p ≤ q := by omega
        have hd : decide (q < p) = false := decide_eq_false (by omega)
        obtain rfl := less_gt HL.out s1 r0 hB hD EA.out EC.out hqp
        go_wp2_with fail
        go_ret
        exact ⟨(by first | rfl | exact ret_true (by simp <;> omega)), (by repeat (first | with_reducible exact Ext.refl _ | with_reducible assumption | (with_reducible refine Ext.drew ?_) | (with_reducible refine Ext.drewN ?_ _) | (with_reducible refine Ext.alloc ?_ _) | (with_reducible refine Ext.setCell ?_ ?_ _) | (with_reducible refine Ext.trans ?_ (by with_reducible assumption)) | omega | (focus (simp <;> omega))))⟩

end Go.Proofs.Ytbeolonbboibfaa
