/- Plain arithmetic of roots and scaled vectors (chapter 8), without any program.
   Conditions: the bounds that each lemma names. -/
import Derived.Test.YtfignlcplkihpaaPlain
namespace Go.Proofs.Ytfignlcplkihpaa.Pl

theorem neg_sq (a : Int) : -a * -a = a * a := by rw [Int.neg_mul_neg]

/-- The square of a truncated quotient, times the divisor's, is at most the dividend's. -/
theorem td_sq (a l : Int) (hl : 0 < l) : (l * a.tdiv l) * (l * a.tdiv l) ≤ a * a := by
  rcases td a l hl with ⟨h0, h1, h2, _⟩ | ⟨h0, h1, h2, _⟩
  · exact sq_mono (Int.mul_nonneg (by omega) h1) h2
  · have h3 : l * a.tdiv l ≤ 0 := by
      have := Int.mul_le_mul_of_nonneg_left h1 (show 0 ≤ l by omega)
      rw [Int.mul_zero] at this; exact this
    have := sq_mono (a := -(l * a.tdiv l)) (b := -a) (by omega) (by omega)
    rw [neg_sq, neg_sq] at this; exact this

/-- A quotient x m / l with 0 ≤ m ≤ l is no greater than x, and has its sign. -/
theorem sc_bd (x m l : Int) (hm : 0 ≤ m) (hml : m ≤ l) (hl : 0 < l) :
    (0 ≤ x → 0 ≤ (x * m).tdiv l ∧ (x * m).tdiv l ≤ x) ∧ (x ≤ 0 → (x * m).tdiv l ≤ 0 ∧ x ≤ (x * m).tdiv l) := by
  refine ⟨fun hx => ?_, fun hx => ?_⟩
  · have h0 := Int.mul_nonneg hx hm
    have h := td_pos h0 hl
    refine ⟨h.1, ?_⟩
    have h1 := Int.mul_le_mul_of_nonneg_left hml hx
    have h2 : l * (x * m).tdiv l ≤ l * x := by rw [Int.mul_comm l x]; omega
    exact Int.le_of_mul_le_mul_left h2 hl
  · have h0 : x * m ≤ 0 := by
      have := Int.mul_le_mul_of_nonneg_right hx hm
      rw [Int.zero_mul] at this; exact this
    have h := td_neg h0 hl
    refine ⟨h.1, ?_⟩
    have h1 := Int.mul_le_mul_of_nonneg_left hml (show 0 ≤ -x by omega)
    have h2 : l * x ≤ l * (x * m).tdiv l := by
      rw [Int.mul_comm l x]
      rw [Int.neg_mul, Int.neg_mul] at h1
      omega
    exact Int.le_of_mul_le_mul_left h2 hl

theorem mul_sign {u x : Int} (h : (0 ≤ x → 0 ≤ u) ∧ (x ≤ 0 → u ≤ 0)) : 0 ≤ u * x := by
  rcases Int.le_total 0 x with hx | hx
  · exact Int.mul_nonneg (h.1 hx) hx
  · exact Int.mul_nonneg_of_nonpos_of_nonpos (h.2 hx) hx

/-- A scaled vector is within the length. -/
theorem sc_in (x y m l : Int) (hl : 0 < l) (h : x * x + y * y ≤ l * l) :
    (x * m).tdiv l * (x * m).tdiv l + (y * m).tdiv l * (y * m).tdiv l ≤ m * m := by
  have h1 := td_sq (x * m) l hl
  have h2 := td_sq (y * m) l hl
  obtain ⟨u, hu⟩ : ∃ u, u = (x * m).tdiv l := ⟨_, rfl⟩
  obtain ⟨v, hv⟩ : ∃ v, v = (y * m).tdiv l := ⟨_, rfl⟩
  rw [← hu] at h1 ⊢
  rw [← hv] at h2 ⊢
  have hmm : 0 ≤ m * m := by
    rcases Int.le_total 0 m with q | q
    · exact Int.mul_nonneg q q
    · exact Int.mul_nonneg_of_nonpos_of_nonpos q q
  have h3 := Int.mul_le_mul_of_nonneg_left h hmm
  have hll : 0 < l * l := Int.mul_pos hl hl
  refine Int.le_of_mul_le_mul_left (a := l * l) ?_ hll
  grind

/-- A vector that was cut is longer than the length less 3. -/
theorem sc_long (x y m l : Int) (hm : 3 ≤ m) (hml : m ≤ l - 1) (hlow : (l - 1) * (l - 1) < x * x + y * y) :
    (m - 3) * (m - 3) < (x * m).tdiv l * (x * m).tdiv l + (y * m).tdiv l * (y * m).tdiv l := by
  have key : ∀ z : Int, ∃ U : Int, 0 ≤ U ∧ U * U = (z * m).tdiv l * (z * m).tdiv l ∧ (z * m) * (z * m) ≤ (l * (U + 1)) * (l * (U + 1)) := by
    intro z
    rcases td (z * m) l (by omega) with ⟨h0, h1, _, h3⟩ | ⟨h0, h1, _, h3⟩
    · refine ⟨(z * m).tdiv l, h1, rfl, sq_mono h0 ?_⟩
      rw [Int.mul_add, Int.mul_one]; omega
    · refine ⟨-(z * m).tdiv l, by omega, neg_sq _, ?_⟩
      have := sq_mono (a := -(z * m)) (b := l * (-(z * m).tdiv l + 1)) (by omega) (by rw [Int.mul_add, Int.mul_one, Int.mul_neg]; omega)
      rw [neg_sq] at this; exact this
  obtain ⟨U, hU0, hU1, hU2⟩ := key x
  obtain ⟨V, hV0, hV1, hV2⟩ := key y
  rw [← hU1, ← hV1]
  rcases Int.lt_or_le ((m - 3) * (m - 3)) (U * U + V * V) with hgoal | hbad
  · exact hgoal
  exfalso
  have hUU := Int.mul_nonneg hU0 hU0
  have hVV := Int.mul_nonneg hV0 hV0
  have hUm : U ≤ m - 3 := le_of_sq (by omega) (by omega)
  have hVm : V ≤ m - 3 := le_of_sq (by omega) (by omega)
  have hmm : 0 < m * m := Int.mul_pos (by omega) (by omega)
  have h4 := Int.mul_lt_mul_of_pos_left hlow hmm
  have h5 : l * (m - 1) ≤ m * (l - 1) := by
    rw [Int.mul_sub, Int.mul_sub, Int.mul_comm l m]; omega
  have h6 := sq_mono (a := l * (m - 1)) (Int.mul_nonneg (by omega) (by omega)) h5
  have hll : 0 < l * l := Int.mul_pos (by omega) (by omega)
  have h7 : (U + 1) * (U + 1) + (V + 1) * (V + 1) ≤ (m - 1) * (m - 1) - 2 := by grind
  have h8 := Int.mul_le_mul_of_nonneg_left h7 (Int.le_of_lt hll)
  grind

/-- What Rest leaves. -/
theorem rest_bd (m d : Int) (hm : 0 ≤ m) (h1 : -m ≤ d) (h2 : d ≤ m) :
    0 ≤ m * m - d * d ∧ 0 ≤ isq (m * m - d * d) ∧ isq (m * m - d * d) ≤ m ∧ isq (m * m - d * d) * isq (m * m - d * d) + d * d ≤ m * m ∧
    m * m < (isq (m * m - d * d) + 1) * (isq (m * m - d * d) + 1) + d * d := by
  have hd : d * d ≤ m * m := by
    rcases Int.le_total 0 d with q | q
    · exact sq_mono q h2
    · have := sq_mono (a := -d) (b := m) (by omega) (by omega)
      rw [neg_sq] at this; exact this
  have hdd : 0 ≤ d * d := by
    rcases Int.le_total 0 d with q | q
    · exact Int.mul_nonneg q q
    · exact Int.mul_nonneg_of_nonpos_of_nonpos q q
  have a := isq_le (n := m * m - d * d) (by omega)
  have b := isq_lt (m * m - d * d)
  have c := isq_nonneg (m * m - d * d)
  exact ⟨by omega, c, isq_le_of hm (by omega), by omega, by omega⟩

theorem sq_nonneg (d : Int) : 0 ≤ d * d := by
  rcases Int.le_total 0 d with q | q
  · exact Int.mul_nonneg q q
  · exact Int.mul_nonneg_of_nonpos_of_nonpos q q

theorem sq_le (d m : Int) (h1 : -m ≤ d) (h2 : d ≤ m) : d * d ≤ m * m := by
  rcases Int.le_total 0 d with q | q
  · exact sq_mono q h2
  · have := sq_mono (a := -d) (b := m) (by omega) (by omega)
    rw [neg_sq] at this; exact this

/-- The triangle inequality of rounded lengths. -/
theorem triangle (a0 a1 b0 b1 : Int) : isq ((a0 + b0) * (a0 + b0) + (a1 + b1) * (a1 + b1)) ≤ upq (a0 * a0 + a1 * a1) + upq (b0 * b0 + b1 * b1) := by
  have hx := upq_ge (a0 * a0 + a1 * a1)
  have hy := upq_ge (b0 * b0 + b1 * b1)
  have hx0 := upq_nonneg (a0 * a0 + a1 * a1)
  have hy0 := upq_nonneg (b0 * b0 + b1 * b1)
  obtain ⟨x, ex⟩ : ∃ x, x = upq (a0 * a0 + a1 * a1) := ⟨_, rfl⟩
  obtain ⟨y, ey⟩ : ∃ y, y = upq (b0 * b0 + b1 * b1) := ⟨_, rfl⟩
  rw [← ex] at hx hx0 ⊢
  rw [← ey] at hy hy0 ⊢
  have hA : 0 ≤ a0 * a0 + a1 * a1 := by have := sq_nonneg a0; have := sq_nonneg a1; omega
  have hB : 0 ≤ b0 * b0 + b1 * b1 := by have := sq_nonneg b0; have := sq_nonneg b1; omega
  have hAB := Int.mul_le_mul hx hy hB (sq_nonneg x)
  have hc := sq_nonneg (a0 * b1 - a1 * b0)
  have hdot : a0 * b0 + a1 * b1 ≤ x * y := by
    refine le_of_sq (Int.mul_nonneg hx0 hy0) ?_
    grind
  refine isq_le_of (by omega) ?_
  grind

end Go.Proofs.Ytfignlcplkihpaa.Pl
