/- Plain arithmetic for the fixed-point laws: truncated division, integer square roots, vectors. No program in sight.
   Conditions: none beyond each lemma's own. -/
namespace Go.Proofs.Ytfignlcplkihpaa.Pl

theorem td_pos {a d : Int} (ha : 0 ≤ a) (hd : 0 < d) : 0 ≤ a.tdiv d ∧ d * a.tdiv d ≤ a ∧ a < d * a.tdiv d + d := by
  rw [Int.tdiv_eq_ediv_of_nonneg ha]
  have h1 := Int.mul_ediv_add_emod a d
  have h2 := Int.emod_nonneg a (show d ≠ 0 by omega)
  have h3 := Int.emod_lt_of_pos a hd
  have h4 := Int.ediv_nonneg ha (show 0 ≤ d by omega)
  omega

theorem td_neg {a d : Int} (ha : a ≤ 0) (hd : 0 < d) : a.tdiv d ≤ 0 ∧ a ≤ d * a.tdiv d ∧ d * a.tdiv d < a + d := by
  have h := td_pos (a := -a) (d := d) (by omega) hd
  rw [Int.neg_tdiv] at h
  have e : d * -(a.tdiv d) = -(d * a.tdiv d) := by rw [Int.mul_neg]
  rw [e] at h
  omega

/-- Truncation toward nought, at one go: the quotient by its remainder's bounds. -/
theorem td (a d : Int) (hd : 0 < d) : (0 ≤ a ∧ 0 ≤ a.tdiv d ∧ d * a.tdiv d ≤ a ∧ a < d * a.tdiv d + d) ∨ (a < 0 ∧ a.tdiv d ≤ 0 ∧ a ≤ d * a.tdiv d ∧ d * a.tdiv d < a + d) := by
  rcases Int.lt_or_le a 0 with h | h
  · exact Or.inr ⟨h, td_neg (by omega) hd⟩
  · exact Or.inl ⟨h, td_pos h hd⟩

/-! Integer square roots -/
def isqN : Nat → Nat
  | 0 => 0
  | n + 1 => if (isqN n + 1) * (isqN n + 1) ≤ n + 1 then isqN n + 1 else isqN n

theorem isqN_spec (n : Nat) : isqN n * isqN n ≤ n ∧ n < (isqN n + 1) * (isqN n + 1) := by
  induction n with
  | zero => simp [isqN]
  | succ n ih =>
    obtain ⟨h1, h2⟩ := ih
    unfold isqN
    split
    · rename_i h
      refine ⟨h, ?_⟩
      have : (isqN n + 1 + 1) * (isqN n + 1 + 1) = (isqN n + 1) * (isqN n + 1) + 2 * (isqN n + 1) + 1 := by grind
      omega
    · rename_i h
      exact ⟨by omega, by omega⟩

/-- The root, rounded down; 0 of a number below 0. -/
def isq (n : Int) : Int := ((isqN n.toNat : Nat) : Int)

theorem isq_nonneg (n : Int) : 0 ≤ isq n := by unfold isq; omega

theorem isq_le {n : Int} (h : 0 ≤ n) : isq n * isq n ≤ n := by
  have h1 := (isqN_spec n.toNat).1
  unfold isq
  have : ((isqN n.toNat * isqN n.toNat : Nat) : Int) ≤ ((n.toNat : Nat) : Int) := by exact_mod_cast h1
  rw [Int.natCast_mul] at this
  omega

theorem isq_lt (n : Int) : n < (isq n + 1) * (isq n + 1) := by
  have h1 := (isqN_spec n.toNat).2
  unfold isq
  have : ((n.toNat : Nat) : Int) < (((isqN n.toNat + 1) * (isqN n.toNat + 1) : Nat) : Int) := by exact_mod_cast h1
  rw [Int.natCast_mul, Int.natCast_add] at this
  have e : ((1 : Nat) : Int) = 1 := rfl
  rw [e] at this
  omega

theorem isq_neg {n : Int} (h : n ≤ 0) : isq n = 0 := by
  have : n.toNat = 0 := by omega
  unfold isq
  rw [this]
  rfl

/-- Of two numbers of at least 0 the one with the lesser square is the lesser one. -/
theorem lt_of_sq {a b : Int} (hb : 0 ≤ b) (h : a * a < b * b) : a < b := by
  rcases Int.lt_or_le a b with h1 | h1
  · exact h1
  · have := Int.mul_le_mul h1 h1 hb (by omega)
    omega

theorem le_of_sq {a b : Int} (hb : 0 ≤ b) (h : a * a ≤ b * b) : a ≤ b := by
  rcases Int.lt_or_le b a with h1 | h1
  · have h2 := Int.mul_lt_mul_of_pos_left h1 (show 0 < a by omega)
    have h3 := Int.mul_le_mul_of_nonneg_right (Int.le_of_lt h1) hb
    omega
  · exact h1

theorem sq_mono {a b : Int} (ha : 0 ≤ a) (h : a ≤ b) : a * a ≤ b * b := Int.mul_le_mul h h ha (by omega)

theorem isq_unique {n r : Int} (h0 : 0 ≤ n) (hr : 0 ≤ r) (h1 : r * r ≤ n) (h2 : n < (r + 1) * (r + 1)) : r = isq n := by
  have a := lt_of_sq (a := r) (b := isq n + 1) (by have := isq_nonneg n; omega) (by have := isq_lt n; omega)
  have b := lt_of_sq (a := isq n) (b := r + 1) (by omega) (by have := isq_le h0; omega)
  omega

theorem isq_mono {n m : Int} (h : n ≤ m) : isq n ≤ isq m := by
  rcases Int.lt_or_le n 0 with h0 | h0
  · rw [isq_neg (by omega)]; exact isq_nonneg m
  · have := lt_of_sq (a := isq n) (b := isq m + 1) (by have := isq_nonneg m; omega) (by have := isq_le h0; have := isq_lt m; omega)
    omega

/-- A bound on a root by a square. -/
theorem isq_le_of {n b : Int} (hb : 0 ≤ b) (h : n ≤ b * b) : isq n ≤ b := by
  rcases Int.lt_or_le n 0 with h0 | h0
  · rw [isq_neg (by omega)]; exact hb
  · exact le_of_sq hb (by have := isq_le h0; omega)

/-- The root, rounded up. -/
def upq (n : Int) : Int := if 0 < n ∧ isq n * isq n < n then isq n + 1 else isq n

theorem upq_nonneg (n : Int) : 0 ≤ upq n := by
  have := isq_nonneg n
  unfold upq
  split <;> omega

theorem upq_ge (n : Int) : n ≤ upq n * upq n := by
  have h1 := isq_lt n
  have h0 := isq_nonneg n
  unfold upq
  split
  · omega
  · rename_i h
    rcases Int.lt_or_le 0 n with hn | hn
    · have : ¬ isq n * isq n < n := fun hh => h ⟨hn, hh⟩
      omega
    · have := Int.mul_nonneg h0 h0
      omega

/-- What is a step shorter than the root rounded up is below the root. -/
theorem upq_lt {n : Int} (h : 0 < n) : 0 < upq n ∧ (upq n - 1) * (upq n - 1) < n := by
  have h1 := isq_lt n
  have h2 := isq_le (Int.le_of_lt h)
  have h0 := isq_nonneg n
  unfold upq
  split
  · rename_i hh
    refine ⟨by omega, ?_⟩
    have : isq n + 1 - 1 = isq n := by omega
    rw [this]; exact hh.2
  · rename_i hh
    have e : isq n * isq n = n := by
      have : ¬ isq n * isq n < n := fun q => hh ⟨h, q⟩
      omega
    have hp : 0 < isq n := by
      rcases Int.lt_or_le 0 (isq n) with q | q
      · exact q
      · have : isq n = 0 := by omega
        rw [this] at e; omega
    refine ⟨hp, ?_⟩
    have : (isq n - 1) * (isq n - 1) = isq n * isq n - 2 * isq n + 1 := by grind
    omega

theorem upq_le_of {n b : Int} (hb : 0 ≤ b) (h : n ≤ b * b) : upq n ≤ b := by
  rcases Int.lt_or_le 0 n with hn | hn
  · have h1 := upq_lt hn
    have := lt_of_sq (a := upq n - 1) (b := b) hb (by omega)
    omega
  · unfold upq
    rw [if_neg (by omega), isq_neg hn]; exact hb

end Go.Proofs.Ytfignlcplkihpaa.Pl
