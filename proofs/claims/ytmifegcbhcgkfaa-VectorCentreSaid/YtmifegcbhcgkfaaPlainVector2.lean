/- Plain laws of duty counts (chapter 21): centring, order, opposites, there and back. No program in sight.
   Conditions: the bounds that each lemma names. -/
import Derived.Test.YtmifegcbhcgkfaaPlainVector
namespace Go.Proofs.Ytmifegcbhcgkfaa.Pl

/-- A quotient rounded down, by its bounds. -/
theorem ed (a b : Int) (hb : 0 < b) : b * (a / b) ≤ a ∧ a < b * (a / b) + b := by
  have h1 := Int.mul_ediv_add_emod a b
  have h2 := Int.emod_nonneg a (show b ≠ 0 by omega)
  have h3 := Int.emod_lt_of_pos a hb
  omega
theorem ed_mono {a c b : Int} (hb : 0 < b) (h : a ≤ c) : a / b ≤ c / b := Int.ediv_le_ediv hb h
theorem lt_of_ml {b x y : Int} (hb : 0 < b) (h : b * x < b * y) : x < y := Int.lt_of_mul_lt_mul_left h (Int.le_of_lt hb)
/-- Two dividends that make up T divisors. -/
theorem ed_pair {A B b T : Int} (hb : 0 < b) (h : A + B = b * T) : A / b + B / b = T ∨ A / b + B / b = T - 1 := by
  have ⟨h1, h2⟩ := ed A b hb
  have ⟨h3, h4⟩ := ed B b hb
  have e : b * (A / b + B / b) = b * (A / b) + b * (B / b) := Int.mul_add _ _ _
  have e2 : b * (A / b + B / b + 2) = b * (A / b) + b * (B / b) + b * 2 := by rw [Int.mul_add, e]
  have k1 : A / b + B / b < T + 1 := lt_of_ml hb (by rw [Int.mul_add b T 1, Int.mul_one]; omega)
  have k2 : T < A / b + B / b + 2 := lt_of_ml hb (by omega)
  omega

/-- The count of a phase ahead of its limits, as a function of L + 2 v - s. -/
def fz (T L z : Int) : Int := (T * z) / (2 * L)
theorem dn_fz (T L x s : Int) : dn T L x s = fz T L (L + 2 * x - s) := rfl
theorem fz_mono {T L z z' : Int} (hT : 0 ≤ T) (hL : 0 < L) (h : z ≤ z') : fz T L z ≤ fz T L z' :=
  ed_mono (by omega) (Int.mul_le_mul_of_nonneg_left h hT)
theorem fz_max {T L a b : Int} (hT : 0 ≤ T) (hL : 0 < L) : max (fz T L a) (fz T L b) = fz T L (max a b) := by
  rcases Int.le_total a b with h | h
  · have := fz_mono hT hL h
    rw [Int.max_eq_right h, Int.max_eq_right this]
  · have := fz_mono hT hL h
    rw [Int.max_eq_left h, Int.max_eq_left this]
theorem fz_min {T L a b : Int} (hT : 0 ≤ T) (hL : 0 < L) : min (fz T L a) (fz T L b) = fz T L (min a b) := by
  rcases Int.le_total a b with h | h
  · have := fz_mono hT hL h
    rw [Int.min_eq_left h, Int.min_eq_left this]
  · have := fz_mono hT hL h
    rw [Int.min_eq_right h, Int.min_eq_right this]
theorem fz_0 (T L : Int) : fz T L 0 = 0 := by unfold fz; rw [Int.mul_zero]; exact Int.zero_ediv _
theorem fz_2L (T L : Int) (hL : 0 < L) : fz T L (2 * L) = T := by unfold fz; exact Int.mul_ediv_cancel T (by omega)
theorem fz_in {T L z : Int} (hT : 0 ≤ T) (hL : 0 < L) (h0 : 0 ≤ z) (h1 : z ≤ 2 * L) : 0 ≤ fz T L z ∧ fz T L z ≤ T := by
  have a := fz_mono hT hL h0
  have b := fz_mono hT hL h1
  rw [fz_0] at a
  rw [fz_2L T L hL] at b
  exact ⟨a, b⟩
theorem fz_pair {T L z z' : Int} (hL : 0 < L) (h : z + z' = 2 * L) : fz T L z + fz T L z' = T ∨ fz T L z + fz T L z' = T - 1 := by
  unfold fz
  refine ed_pair (by omega) ?_
  rw [← Int.mul_add, h, Int.mul_comm]

theorem cn_in {T n : Int} (h0 : 0 ≤ n) (h1 : n ≤ T) : cn T n = n := by unfold cn; omega
theorem lm_in {T n : Int} (h0 : 0 ≤ n) (h1 : n ≤ T) : lm T n = false := by unfold lm; rw [cn_in h0 h1]; simp
theorem cn_bd {T n : Int} (hT : 0 ≤ T) : 0 ≤ cn T n ∧ cn T n ≤ T := by unfold cn; omega
theorem cn_mono {T n m : Int} (h : n ≤ m) : cn T n ≤ cn T m := by unfold cn; omega
theorem lm_false {T n : Int} (h : lm T n = false) : cn T n = n := by unfold lm at h; simpa using h

/-- Centring: of a vector inside no count is limited, and the greatest and the least make up the period, or one less. -/
theorem centre {T L a b c : Int} (hT : 0 ≤ T) (hL : 0 < L) (h : mx3 a b c - mn3 a b c ≤ L) :
    let s := ms a b c
    (lm T (dn T L a s) || lm T (dn T L b s) || lm T (dn T L c s)) = false ∧
    (max (cn T (dn T L a s)) (max (cn T (dn T L b s)) (cn T (dn T L c s))) + min (cn T (dn T L a s)) (min (cn T (dn T L b s)) (cn T (dn T L c s))) = T ∨
     max (cn T (dn T L a s)) (max (cn T (dn T L b s)) (cn T (dn T L c s))) + min (cn T (dn T L a s)) (min (cn T (dn T L b s)) (cn T (dn T L c s))) = T - 1) := by
  intro s
  have hs : s = mx3 a b c + mn3 a b c := rfl
  have ⟨m1, m2, m3, m4⟩ := mx3_ge a b c
  have ⟨n1, n2, n3, n4⟩ := mn3_le a b c
  obtain ⟨a0, a1⟩ := fz_in (z := L + 2 * a - s) hT hL (by omega) (by omega)
  obtain ⟨b0, b1⟩ := fz_in (z := L + 2 * b - s) hT hL (by omega) (by omega)
  obtain ⟨c0, c1⟩ := fz_in (z := L + 2 * c - s) hT hL (by omega) (by omega)
  rw [dn_fz, dn_fz, dn_fz, lm_in a0 a1, lm_in b0 b1, lm_in c0 c1, cn_in a0 a1, cn_in b0 b1, cn_in c0 c1]
  refine ⟨rfl, ?_⟩
  rw [fz_max hT hL, fz_max hT hL, fz_min hT hL, fz_min hT hL]
  refine fz_pair hL ?_
  have e1 : max (L + 2 * a - s) (max (L + 2 * b - s) (L + 2 * c - s)) = L + 2 * mx3 a b c - s := by unfold mx3; omega
  have e2 : min (L + 2 * a - s) (min (L + 2 * b - s) (L + 2 * c - s)) = L + 2 * mn3 a b c - s := by unfold mn3; omega
  rw [e1, e2]; omega

/-- Two counts that are not limited differ as the phases do, to within one. -/
theorem differ {T L x y s : Int} (hL : 0 < L) :
    (dn T L x s - dn T L y s) * L - (x - y) * T < L ∧ -L < (dn T L x s - dn T L y s) * L - (x - y) * T := by
  have ⟨h1, h2⟩ := ed (T * (L + 2 * x - s)) (2 * L) (by omega)
  have ⟨h3, h4⟩ := ed (T * (L + 2 * y - s)) (2 * L) (by omega)
  have hx : (T * (L + 2 * x - s)) / (2 * L) = dn T L x s := rfl
  have hy : (T * (L + 2 * y - s)) / (2 * L) = dn T L y s := rfl
  rw [hx] at h1 h2
  rw [hy] at h3 h4
  generalize dn T L x s = p at *
  generalize dn T L y s = q at *
  have e1 : 2 * L * p = 2 * (p * L) := by grind
  have e2 : 2 * L * q = 2 * (q * L) := by grind
  have e3 : T * (L + 2 * x - s) - T * (L + 2 * y - s) = 2 * ((x - y) * T) := by grind
  have e4 : (p - q) * L = p * L - q * L := Int.sub_mul _ _ _
  rw [e1] at h1 h2
  rw [e2] at h3 h4
  omega

/-- The vector 0. -/
theorem dn_zero {T L : Int} (hL : 0 < L) : dn T L 0 0 = T / 2 := by
  have e : L + 2 * 0 - 0 = L := by omega
  unfold dn
  rw [e]
  exact Int.mul_ediv_mul_of_pos_left T 2 hL

theorem pb_neg (x y : Int) : pb (-x) (-y) = -pb x y := by
  unfold pb; rw [← Int.neg_tdiv]; congr 1; omega
theorem ms_neg (a b c : Int) : ms (-a) (-b) (-c) = -ms a b c := by unfold ms; omega
/-- Opposite phases: the counts make up the period, or one less, where the one is not limited. -/
theorem opposite {T L x s : Int} (hT : 0 ≤ T) (hL : 0 < L) (h : lm T (dn T L x s) = false) :
    cn T (dn T L x s) + cn T (dn T L (-x) (-s)) = T ∨ cn T (dn T L x s) + cn T (dn T L (-x) (-s)) = T - 1 := by
  have hp := fz_pair (T := T) (L := L) (z := L + 2 * x - s) (z' := L + 2 * -x - -s) hL (by omega)
  have e := lm_false h
  rw [← dn_fz, ← dn_fz] at hp
  have hb := cn_bd (n := dn T L x s) hT
  rw [e] at hb ⊢
  unfold cn
  omega

end Go.Proofs.Ytmifegcbhcgkfaa.Pl
