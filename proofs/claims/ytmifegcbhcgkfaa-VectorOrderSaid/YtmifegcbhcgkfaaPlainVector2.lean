/- Plain laws of duty counts (chapter 21): centring, order, opposites, there and back. No program in sight.
   Conditions: the bounds that each lemma names. -/
import Derived.Test.YtmifegcbhcgkfaaPlainVector
namespace Go.Proofs.Ytmifegcbhcgkfaa.Pl

/-- A quotient rounded down, by its bounds. -/
theorem ed (a b : Int) (hb : 0 < b) : b * (a / b) ≤ a ∧ a < b * (a / b) + b := by
  have h1 := Int.mul_ediv_add_emod a b
  have h2 := Int.emod_nonneg a (show b ≠ 0 by omega)
  have h3 := Int.emod_lt_of_pos a hb
  omega
theorem ed_mono {a c b : Int} (hb : 0 < b) (h : a ≤ c) : a / b ≤ c / b := Int.ediv_le_ediv hb h
theorem lt_of_ml {b x y : Int} (hb : 0 < b) (h : b * x < b * y) : x < y := Int.lt_of_mul_lt_mul_left h (Int.le_of_lt hb)
/-- Two dividends that make up T divisors. -/
theorem ed_pair {A B b T : Int} (hb : 0 < b) (h : A + B = b * T) : A / b + B / b = T ∨ A / b + B / b = T - 1 := by
  have ⟨h1, h2⟩ := ed A b hb
  have ⟨h3, h4⟩ := ed B b hb
  have e : b * (A / b + B / b) = b * (A / b) + b * (B / b) := Int.mul_add _ _ _
  have e2 : b * (A / b + B / b + 2) = b * (A / b) + b * (B / b) + b * 2 := by rw [Int.mul_add, e]
  have k1 : A / b + B / b < T + 1 := lt_of_ml hb (by rw [Int.mul_add b T 1, Int.mul_one]; omega)
  have k2 : T < A / b + B / b + 2 := lt_of_ml hb (by omega)
  omega

/-- The count of a phase ahead of its limits, as a function of L + 2 v - s. -/
def fz (T L z : Int) : Int := (T * z) / (2 * L)
theorem dn_fz (T L x s : Int) : dn T L x s = fz T L (L + 2 * x - s) := rfl
theorem fz_mono {T L z z' : Int} (hT : 0 ≤ T) (hL : 0 < L) (h : z ≤ z') : fz T L z ≤ fz T L z' :=
  ed_mono (by omega) (Int.mul_le_mul_of_nonneg_left h hT)
theorem fz_max {T L a b : Int} (hT : 0 ≤ T) (hL : 0 < L) : max (fz T L a) (fz T L b) = fz T L (max a b) := by
  rcases Int.le_total a b with h | h
  · have := fz_mono hT hL h
    rw [Int.max_eq_right h, Int.max_eq_right this]
  · have := fz_mono hT hL h
    rw [Int.max_eq_left h, Int.max_eq_left this]
theorem fz_min {T L a b : Int} (hT : 0 ≤ T) (hL : 0 < L) : min (fz T L a) (fz T L b) = fz T L (min a b) := by
  rcases Int.le_total a b with h | h
  · have := fz_mono hT hL h
    rw [Int.min_eq_left h, Int.min_eq_left this]
  · have := fz_mono hT hL h
    rw [Int.min_eq_right h, Int.min_eq_right this]
theorem fz_0 (T L : Int) : fz T L 0 = 0 := by unfold fz; rw [Int.mul_zero]; exact Int.zero_ediv _
theorem fz_2L (T L : Int) (hL : 0 < L) : fz T L (2 * L) = T := by unfold fz; exact Int.mul_ediv_cancel T (by omega)
theorem fz_in {T L z : Int} (hT : 0 ≤ T) (hL : 0 < L) (h0 : 0 ≤ z) (h1 : z ≤ 2 * L) : 0 ≤ fz T L z ∧ fz T L z ≤ T := by
  have a := fz_mono hT hL h0
  have b := fz_mono hT hL h1
  rw [fz_0] at a
  rw [fz_2L T L hL] at b
  exact ⟨a, b⟩
theorem fz_pair {T L z z' : Int} (hL : 0 < L) (h : z + z' = 2 * L) : fz T L z + fz T L z' = T ∨ fz T L z + fz T L z' = T - 1 := by
  unfold fz
  refine ed_pair (by omega) ?_
  rw [← Int.mul_add, h, Int.mul_comm]

theorem cn_in {T n : Int} (h0 : 0 ≤ n) (h1 : n ≤ T) : cn T n = n := by unfold cn; omega
theorem lm_in {T n : Int} (h0 : 0 ≤ n) (h1 : n ≤ T) : lm T n = false := by unfold lm; rw [cn_in h0 h1]; simp
theorem cn_bd {T n : Int} (hT : 0 ≤ T) : 0 ≤ cn T n ∧ cn T n ≤ T := by unfold cn; omega
theorem cn_mono {T n m : Int} (h : n ≤ m) : cn T n ≤ cn T m := by unfold cn; omega
theorem lm_false {T n : Int} (h : lm T n = false) : cn T n = n := by unfold lm at h; simpa using h

/-- Centring: of a vector inside no count is limited, and the greatest and the least make up the period, or one less. -/
theorem centre {T L a b c : Int} (hT : 0 ≤ T) (hL : 0 < L) (h : mx3 a b c - mn3 a b c ≤ L) :
    let s := ms a b c
    (lm T (dn T L a s) || lm T (dn T L b s) || lm T (dn T L c s)) = false ∧
    (max (cn T (dn T L a s)) (max (cn T (dn T L b s)) (cn T (dn T L c s))) + min (cn T (dn T L a s)) (min (cn T (dn T L b s)) (cn T (dn T L c s))) = T ∨
     max (cn T (dn T L a s)) (max (cn T (dn T L b s)) (cn T (dn T L c s))) + min (cn T (dn T L a s)) (min (cn T (dn T L b s)) (cn T (dn T L c s))) = T - 1) := by
  intro s
  have hs : s = mx3 a b c + mn3 a b c := rfl
  have ⟨m1, m2, m3, m4⟩ := mx3_ge a b c
  have ⟨n1, n2, n3, n4⟩ := mn3_le a b c
  obtain ⟨a0, a1⟩ := fz_in (z := L + 2 * a - s) hT hL (by omega) (by omega)
  obtain ⟨b0, b1⟩ := fz_in (z := L + 2 * b - s) hT hL (by omega) (by omega)
  obtain ⟨c0, c1⟩ := fz_in (z := L + 2 * c - s) hT hL (by omega) (by omega)
  rw [dn_fz, dn_fz, dn_fz, lm_in a0 a1, lm_in b0 b1, lm_in c0 c1, cn_in a0 a1, cn_in b0 b1, cn_in c0 c1]
  refine ⟨rfl, ?_⟩
  rw [fz_max hT hL, fz_max hT hL, fz_min hT hL, fz_min hT hL]
  refine fz_pair hL ?_
  have e1 : max (L + 2 * a - s) (max (L + 2 * b - s) (L + 2 * c - s)) = L + 2 * mx3 a b c - s := by unfold mx3; omega
  have e2 : min (L + 2 * a - s) (min (L + 2 * b - s) (L + 2 * c - s)) = L + 2 * mn3 a b c - s := by unfold mn3; omega
  rw [e1, e2]; omega

/-- Two counts that are not limited differ as the phases do, to within one. -/
theorem differ {T L x y s : Int} (hL : 0 < L) :
    (dn T L x s - dn T L y s) * L - (x - y) * T < L ∧ -L < (dn T L x s - dn T L y s) * L - (x - y) * T := by
  have ⟨h1, h2⟩ := ed (T * (L + 2 * x - s)) (2 * L) (by omega)
  have ⟨h3, h4⟩ := ed (T * (L + 2 * y - s)) (2 * L) (by omega)
  have hx : (T * (L + 2 * x - s)) / (2 * L) = dn T L x s := rfl
  have hy : (T * (L + 2 * y - s)) / (2 * L) = dn T L y s := rfl
  rw [hx] at h1 h2
  rw [hy] at h3 h4
  generalize dn T L x s = p at *
  generalize dn T L y s = q at *
  have e1 : 2 * L * p = 2 * (p * L) := by grind
  have e2 : 2 * L * q = 2 * (q * L) := by grind
  have e3 : T * (L + 2 * x - s) - T * (L + 2 * y - s) = 2 * ((x - y) * T) := by grind
  have e4 : (p - q) * L = p * L - q * L := Int.sub_mul _ _ _
  rw [e1] at h1 h2
  rw [e2] at h3 h4
  omega

/-- The vector 0. -/
theorem dn_zero {T L : Int} (hL : 0 < L) : dn T L 0 0 = T / 2 := by
  have e : L + 2 * 0 - 0 = L := by omega
  unfold dn
  rw [e]
  exact Int.mul_ediv_mul_of_pos_left T 2 hL

theorem pb_neg (x y : Int) : pb (-x) (-y) = -pb x y := by
  unfold pb; rw [← Int.neg_tdiv]; congr 1; omega
theorem ms_neg (a b c : Int) : ms (-a) (-b) (-c) = -ms a b c := by unfold ms; omega
/-- Opposite phases: the counts make up the period, or one less, where the one is not limited. -/
theorem opposite {T L x s : Int} (hT : 0 ≤ T) (hL : 0 < L) (h : lm T (dn T L x s) = false) :
    cn T (dn T L x s) + cn T (dn T L (-x) (-s)) = T ∨ cn T (dn T L x s) + cn T (dn T L (-x) (-s)) = T - 1 := by
  have hp := fz_pair (T := T) (L := L) (z := L + 2 * x - s) (z' := L + 2 * -x - -s) hL (by omega)
  have e := lm_false h
  rw [← dn_fz, ← dn_fz] at hp
  have hb := cn_bd (n := dn T L x s) hT
  rw [e] at hb ⊢
  unfold cn
  omega

/-- Quotients of sums: the quotient of a part is there, and at most one more. -/
theorem ed_part {B m T : Int} (hT : 0 < T) : m / T ≤ (B + m) / T - B / T ∧ (B + m) / T - B / T ≤ m / T + 1 := by
  have ⟨h1, h2⟩ := ed (B + m) T hT
  have ⟨h3, h4⟩ := ed B T hT
  have ⟨h5, h6⟩ := ed m T hT
  have e1 : T * ((B + m) / T + 1) = T * ((B + m) / T) + T := by rw [Int.mul_add, Int.mul_one]
  have e2 : T * (B / T + m / T) = T * (B / T) + T * (m / T) := Int.mul_add _ _ _
  have e3 : T * (B / T + m / T + 2) = T * (B / T) + T * (m / T) + T * 2 := by rw [Int.mul_add, e2]
  have k1 : B / T + m / T < (B + m) / T + 1 := lt_of_ml hT (by omega)
  have k2 : (B + m) / T < B / T + m / T + 2 := lt_of_ml hT (by omega)
  omega

/-- The vectors of counts, and of counts less the least, are the same to within 3. -/
theorem flat_near (c0 c1 c2 m L T : Int) (hT : 0 < T) :
    let q := fun c => (c * L) / T
    let a := fa (q c0) (q c1) (q c2)
    let x := fa (q (c0 - m)) (q (c1 - m)) (q (c2 - m))
    let b := fb (q c1) (q c2)
    let y := fb (q (c1 - m)) (q (c2 - m))
    a - x ≤ 3 ∧ x - a ≤ 3 ∧ b - y ≤ 3 ∧ y - b ≤ 3 := by
  intro q a x b y
  have key : ∀ c, (m * L) / T ≤ q c - q (c - m) ∧ q c - q (c - m) ≤ (m * L) / T + 1 := by
    intro c
    have h := ed_part (B := (c - m) * L) (m := m * L) hT
    have e : (c - m) * L + m * L = c * L := by rw [Int.sub_mul]; omega
    rw [e] at h
    exact h
  have h0 := key c0
  have h1 := key c1
  have h2 := key c2
  have f1 := td (2 * q c0 - q c1 - q c2) 3 (by omega)
  have f2 := td (2 * q (c0 - m) - q (c1 - m) - q (c2 - m)) 3 (by omega)
  have f3 := td ((q c1 - q c2) * 37837) 65536 (by omega)
  have f4 := td ((q (c1 - m) - q (c2 - m)) * 37837) 65536 (by omega)
  have ea : a = (2 * q c0 - q c1 - q c2).tdiv 3 := rfl
  have ex : x = (2 * q (c0 - m) - q (c1 - m) - q (c2 - m)).tdiv 3 := rfl
  have eb : b = ((q c1 - q c2) * 37837).tdiv 65536 := rfl
  have ey : y = ((q (c1 - m) - q (c2 - m)) * 37837).tdiv 65536 := rfl
  omega

/-- There and back: from a vector inside, by its counts, to within one count's voltage, 5 and a 10000th. -/
theorem there_back {T L al be : Int} (hT : 0 < T) (hL : 0 < L) :
    let s := ms al (pb al be) (-al - pb al be)
    let q := fun v => (dn T L v s * L) / T
    let a := fa (q al) (q (pb al be)) (q (-al - pb al be))
    let b := fb (q (pb al be)) (q (-al - pb al be))
    (a - al ≤ L / T + 5 ∧ al - a ≤ L / T + 5) ∧
    (b - be ≤ L / T + 5 + (max be (-be)) / 10000 ∧ be - b ≤ L / T + 5 + (max be (-be)) / 10000) := by
  intro s q a b
  -- each quotient lies behind its ideal by less than a count's voltage and one
  have key : ∀ v, 2 * q v ≤ L + 2 * v - s ∧ L + 2 * v - s < 2 * q v + 2 * (L / T) + 4 := by
    intro v
    have ⟨h1, h2⟩ := ed (T * (L + 2 * v - s)) (2 * L) (by omega)
    have ⟨h3, h4⟩ := ed (dn T L v s * L) T hT
    have ⟨h5, h6⟩ := ed L T hT
    have hd : (T * (L + 2 * v - s)) / (2 * L) = dn T L v s := rfl
    rw [hd] at h1 h2
    have hq : (dn T L v s * L) / T = q v := rfl
    rw [hq] at h3 h4
    generalize q v = Q at *
    generalize dn T L v s = n at *
    generalize L / T = K at *
    have e1 : 2 * L * n = 2 * (n * L) := by grind
    rw [e1] at h1 h2
    have e2 : T * (2 * Q) = 2 * (T * Q) := by grind
    have e3 : T * (2 * Q + 2 * K + 4) = 2 * (T * Q) + 2 * (T * K) + 4 * T := by grind
    have k1 : 2 * Q < L + 2 * v - s + 1 := lt_of_ml hT (by rw [e2, Int.mul_add T (L + 2 * v - s) 1, Int.mul_one]; omega)
    have k2 : L + 2 * v - s < 2 * Q + 2 * K + 4 := lt_of_ml hT (by rw [e3]; omega)
    omega
  have h0 := key al
  have h1 := key (pb al be)
  have h2 := key (-al - pb al be)
  have f1 := td (2 * q al - q (pb al be) - q (-al - pb al be)) 3 (by omega)
  have f3 := td ((q (pb al be) - q (-al - pb al be)) * 37837) 65536 (by omega)
  have ea : a = (2 * q al - q (pb al be) - q (-al - pb al be)).tdiv 3 := rfl
  have eb : b = ((q (pb al be) - q (-al - pb al be)) * 37837).tdiv 65536 := rfl
  have p1 := td (113511 * be - 65536 * al) 131072 (by omega)
  have ep : pb al be = (113511 * be - 65536 * al).tdiv 131072 := rfl
  have hk : 0 ≤ L / T := Int.ediv_nonneg (by omega) (by omega)
  generalize q al = q0 at *
  generalize q (pb al be) = q1 at *
  generalize q (-al - pb al be) = q2 at *
  generalize L / T = K at *
  generalize pb al be = p at *
  refine ⟨by omega, ?_⟩
  rw [eb]
  generalize ((q1 - q2) * 37837).tdiv 65536 = B at *
  clear ea eb f1 h0
  omega

end Go.Proofs.Ytmifegcbhcgkfaa.Pl
