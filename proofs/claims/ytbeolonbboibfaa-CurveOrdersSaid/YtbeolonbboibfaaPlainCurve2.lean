/- Plain arithmetic of curves (chapter 9): slopes, inverses, odd curves, comparisons; without any program.
   Conditions: the bounds that each lemma names. -/
import Derived.Test.YtbeolonbboibfaaPlainCurve
namespace Go.Proofs.Ytbeolonbboibfaa.Pl

/-- m times a segment's slope, rounded up. -/
def ce (c : Cv) (m : Int) (i : Nat) : Int := (m * dy c i + dx c i - 1) / dx c i
/-- The greatest of the segments ahead of point k. -/
def stp (c : Cv) (m : Int) : Nat → Int
  | 0 => 0
  | k + 1 => if k = 0 then 0 else max (stp c m k) (ce c m k)
theorem stp_succ (c : Cv) (m : Int) {k : Nat} (h : 0 < k) : stp c m (k + 1) = max (stp c m k) (ce c m k) := by
  show (if k = 0 then 0 else max (stp c m k) (ce c m k)) = _
  rw [if_neg (by omega)]
theorem stp_one (c : Cv) (m : Int) : stp c m 1 = 0 := rfl
theorem stp_nonneg (c : Cv) (m : Int) (k : Nat) : 0 ≤ stp c m k := by
  induction k with
  | zero => exact Int.le_refl _
  | succ k ih => unfold stp; split <;> omega
theorem stp_ge (c : Cv) (m : Int) (k i : Nat) (h0 : 0 < i) (h : i < k) : ce c m i ≤ stp c m k := by
  induction k with
  | zero => omega
  | succ k ih =>
    rw [stp_succ c m (by omega)]
    rcases Nat.eq_or_lt_of_le (show i ≤ k by omega) with e | e
    · subst e; omega
    · have := ih e; omega

/-- Rounding up, in two ways. -/
theorem ceil_two (a d : Int) (hd : 0 < d) : (if a % d > 0 then a / d + 1 else a / d) = (a + d - 1) / d := by
  have h1 := Int.mul_ediv_add_emod a d
  have h2 := Int.emod_nonneg a (show d ≠ 0 by omega)
  have h3 := Int.emod_lt_of_pos a hd
  split
  · rename_i h
    symm
    have e : a + d - 1 = (a % d - 1) + (a / d + 1) * d := by rw [Int.add_mul, Int.one_mul, Int.mul_comm (a / d)]; omega
    rw [e, Int.add_mul_ediv_right _ _ (by omega), Int.ediv_eq_zero_of_lt (by omega) (by omega)]
    omega
  · rename_i h
    symm
    have e : a + d - 1 = (d - 1) + (a / d) * d := by rw [Int.mul_comm (a / d)]; omega
    rw [e, Int.add_mul_ediv_right _ _ (by omega), Int.ediv_eq_zero_of_lt (by omega) (by omega)]
    omega
theorem ce_bd {c : Cv} (g : Good c) {m : Int} (m0 : 0 ≤ m) (m1 : m ≤ 2147483648) {i : Nat} (h0 : 0 < i) (hi : i < c.nx) :
    (0 ≤ m * dy c i ∧ m * dy c i ≤ 4611686018427387904) ∧ 0 ≤ ce c m i ∧ ce c m i ≤ 4611686020574871551 ∧ m * dy c i ≤ ce c m i * dx c i := by
  have ⟨⟨d0, d1⟩, ⟨y0, y1⟩, _⟩ := seg_bd g h0 hi (q := c.x i) (Int.le_of_lt (g.up i h0 hi).1) (Int.le_refl _)
  have k := Int.mul_le_mul m1 y1 y0 (by omega)
  have k0 := Int.mul_nonneg m0 y0
  have e0 : 0 ≤ ce c m i := Int.ediv_nonneg (by omega) (by omega)
  have e1 : ce c m i ≤ m * dy c i + dx c i - 1 := Int.ediv_le_self _ (by omega)
  have q1 := Int.mul_ediv_add_emod (m * dy c i + dx c i - 1) (dx c i)
  have q2 := Int.emod_lt_of_pos (m * dy c i + dx c i - 1) d0
  have e2 : ce c m i * dx c i = dx c i * ((m * dy c i + dx c i - 1) / dx c i) := Int.mul_comm _ _
  exact ⟨⟨k0, by omega⟩, e0, by omega, by omega⟩
theorem stp_le {c : Cv} (g : Good c) {m : Int} (m0 : 0 ≤ m) (m1 : m ≤ 2147483648) : ∀ k, k ≤ c.nx → stp c m k ≤ 4611686020574871551 := by
  intro k
  induction k with
  | zero => intro _; show (0 : Int) ≤ _; omega
  | succ k ih =>
    intro h
    have a := ih (by omega)
    unfold stp
    split
    · omega
    · have := (ce_bd g m0 m1 (i := k) (by omega) (by omega)).2.2.1
      omega

/-- Between two points the curve rises by at most N / m. -/
theorem rise_pts {c : Cv} {m N : Int} (hN : ∀ i, 0 < i → i < c.nx → m * dy c i ≤ N * dx c i) : ∀ j i, i ≤ j → j < c.nx → m * (c.y j - c.y i) ≤ N * (c.x j - c.x i) := by
  intro j
  induction j with
  | zero => intro i h _; have : i = 0 := by omega
            subst this; simp
  | succ j ih =>
    intro i h hj
    rcases Nat.eq_or_lt_of_le h with e | e
    · subst e; simp
    · have a := ih i (by omega) (by omega)
      have b := hN (j + 1) (by omega) hj
      unfold dx dy at b
      simp only [Nat.add_sub_cancel] at b
      have e1 : c.y (j + 1) - c.y i = (c.y (j + 1) - c.y j) + (c.y j - c.y i) := by omega
      have e2 : c.x (j + 1) - c.x i = (c.x (j + 1) - c.x j) + (c.x j - c.x i) := by omega
      rw [e1, e2, Int.mul_add, Int.mul_add]
      omega

theorem rise_seg {c : Cv} (g : Good c) {m N : Int} (hm : 0 ≤ m) (hN : ∀ i, 0 < i → i < c.nx → m * dy c i ≤ N * dx c i) {i j : Nat} {t t' : Int} (i0 : 0 < i) (hi : i < c.nx) (j0 : 0 < j) (hj : j < c.nx)
    (h1 : c.x (i - 1) ≤ t) (h2 : t ≤ c.x i) (h3 : c.x (j - 1) ≤ t') (h4 : t' ≤ c.x j) (h : t ≤ t') : m * (sg c j t' * dx c i - sg c i t * dx c j) ≤ N * (t' - t) * (dx c i * dx c j) := by
  have pi := dx_pos g i0 hi
  have pj := dx_pos g j0 hj
  rcases Nat.lt_trichotomy i j with e | e | e
  · have a := Int.mul_le_mul_of_nonneg_right (hN j j0 hj) (show 0 ≤ t' - c.x (j - 1) by omega)
    have b := Int.mul_le_mul_of_nonneg_right (hN i i0 hi) (show 0 ≤ c.x i - t by omega)
    have r := rise_pts hN (j - 1) i (by omega) (by omega)
    have a' := Int.mul_le_mul_of_nonneg_right a (Int.le_of_lt pi)
    have b' := Int.mul_le_mul_of_nonneg_right b (Int.le_of_lt pj)
    have r' := Int.mul_le_mul_of_nonneg_right r (Int.le_of_lt (Int.mul_pos pi pj))
    have e1 : sg c i t = c.y i * dx c i - dy c i * (c.x i - t) := by unfold sg dy dx; grind
    have e2 : sg c j t' = c.y (j - 1) * dx c j + dy c j * (t' - c.x (j - 1)) := rfl
    rw [e1, e2]
    have e3 : t' - t = (t' - c.x (j - 1)) + (c.x (j - 1) - c.x i) + (c.x i - t) := by omega
    rw [e3]
    generalize dx c i = p at *
    generalize dx c j = q at *
    generalize t' - c.x (j - 1) = u at *
    generalize c.x i - t = v at *
    grind
  · subst e
    have a := Int.mul_le_mul_of_nonneg_right (hN i i0 hi) (show 0 ≤ t' - t by omega)
    have b := Int.mul_le_mul_of_nonneg_right a (Int.le_of_lt pi)
    have e1 : sg c i t' * dx c i - sg c i t * dx c i = dy c i * (t' - t) * dx c i := by unfold sg; grind
    rw [e1]
    grind
  · have m' := up_le g (i - 1) j (by omega) (by omega)
    have e1 : t' = t := by omega
    have s := seg_mono g j0 hj i0 hi h3 h4 h1 h2 (by omega)
    have k := Int.mul_le_mul_of_nonneg_left (show sg c j t' * dx c i - sg c i t * dx c j ≤ 0 by omega) hm
    rw [e1] at k ⊢
    rw [Int.mul_zero] at k
    simp
    exact k

theorem td_diff {n d n' d' N : Int} (hd : 0 < d) (hd' : 0 < d') (hN : 0 ≤ N) (h : n' * d - n * d' ≤ N * (d * d')) : n'.tdiv d' ≤ n.tdiv d + N := by
  have a : n'.tdiv d' ≤ (n + N * d).tdiv d := td_cross hd' hd (by rw [Int.add_mul, Int.mul_assoc]; omega)
  have b : (n + N * d).tdiv d ≤ n.tdiv d + N := by
    have k := Int.mul_nonneg hN (Int.le_of_lt hd)
    have t1 := td n d hd
    have t2 := td (n + N * d) d hd
    rcases Int.lt_or_le (n.tdiv d + N) ((n + N * d).tdiv d) with q | q
    · exfalso
      generalize n.tdiv d = p at *
      generalize (n + N * d).tdiv d = p' at *
      have q' := Int.mul_le_mul_of_nonneg_left (show p + N + 1 ≤ p' by omega) (Int.le_of_lt hd)
      have e : d * (p + N + 1) = d * p + N * d + d := by grind
      rcases t1 with ⟨a1, a2, a3, a4⟩ | ⟨a1, a2, a3, a4⟩ <;> rcases t2 with ⟨b1, b2, b3, b4⟩ | ⟨b1, b2, b3, b4⟩ <;> omega
    · exact q
  omega

/-- At rises by at most Steepest of the distance. -/
theorem atv_rise {c : Cv} (g : Good c) {q q' m : Int} (h : q ≤ q') (m0 : 0 ≤ m) (m1 : m ≤ 2147483648) (hm : m = q' - q ∨ (2147483648 ≤ q' - q ∧ m = 2147483648)) : atv c q' - atv c q ≤ stp c m c.nx := by
  have v := val_on g (vr_val g q)
  have v' := val_on g (vr_val g q')
  have N0 := stp_nonneg c m c.nx
  have hN : ∀ i, 0 < i → i < c.nx → m * dy c i ≤ stp c m c.nx * dx c i := fun i i0 hi => by
    have a := (ce_bd g m0 m1 i0 hi).2.2.2
    have b := Int.mul_le_mul_of_nonneg_right (stp_ge c m c.nx i i0 hi) (Int.le_of_lt (dx_pos g i0 hi))
    omega
  have g2 := g.two
  have x0 := g.inx 0 (by omega)
  have x1 := g.inx (c.nx - 1) (by omega)
  have hl : 0 ≤ cla c q' - cla c q ∧ cla c q' - cla c q ≤ m := by unfold cla; omega
  generalize stp c m c.nx = N at *
  generalize cla c q = t at *
  generalize cla c q' = t' at *
  obtain ⟨hd, i, i0, hi, a1, a2, a3⟩ := v
  obtain ⟨hd', j, j0, hj, b1, b2, b3⟩ := v'
  have r := rise_seg g m0 hN i0 hi j0 hj a1 a2 b1 b2 (by omega)
  have pi := dx_pos g i0 hi
  have pj := dx_pos g j0 hj
  have mono := seg_mono g j0 hj i0 hi b1 b2 a1 a2
  unfold atv
  generalize (vr c q).1 = n at *
  generalize (vr c q).2 = d at *
  generalize (vr c q').1 = n' at *
  generalize (vr c q').2 = d' at *
  have key : n' * d - n * d' ≤ N * (d * d') := by
    have dd := Int.mul_pos hd hd'
    have pp := Int.mul_pos pi pj
    have k := Int.mul_le_mul_of_nonneg_right r (Int.le_of_lt dd)
    have e1 : (sg c j t' * dx c i - sg c i t * dx c j) * (d * d') = (n' * d - n * d') * (dx c i * dx c j) := by
      have u : sg c j t' * dx c i * (d * d') = (n' * dx c j) * (dx c i * d) := by rw [b3]; grind
      have v : sg c i t * dx c j * (d * d') = (n * dx c i) * (dx c j * d') := by rw [a3]; grind
      rw [Int.sub_mul, u, v]; grind
    have hz : m * ((n' * d - n * d') * (dx c i * dx c j)) ≤ N * (t' - t) * (dx c i * dx c j) * (d * d') := by
      rw [← e1, ← Int.mul_assoc]; exact k
    have hw := Int.mul_le_mul_of_nonneg_left hl.2 (Int.mul_nonneg N0 (Int.mul_nonneg (Int.le_of_lt pp) (Int.le_of_lt dd)))
    have e2 : N * (dx c i * dx c j * (d * d')) * (t' - t) = N * (t' - t) * (dx c i * dx c j) * (d * d') := by grind
    rw [e2] at hw
    rcases Int.lt_or_le 0 m with mp | mz
    · refine Int.le_of_mul_le_mul_left (a := m * (dx c i * dx c j)) ?_ (Int.mul_pos mp pp)
      have e3 : m * (dx c i * dx c j) * (n' * d - n * d') = m * ((n' * d - n * d') * (dx c i * dx c j)) := by grind
      have e4 : m * (dx c i * dx c j) * (N * (d * d')) = N * (dx c i * dx c j * (d * d')) * m := by grind
      rw [e3, e4]; omega
    · have et : t' = t := by omega
      have s := mono (by omega)
      have z : (n' * d - n * d') * (dx c i * dx c j) ≤ 0 := by
        rw [← e1]
        have := Int.mul_le_mul_of_nonneg_right (show sg c j t' * dx c i - sg c i t * dx c j ≤ 0 by omega) (Int.le_of_lt dd)
        rw [Int.zero_mul] at this; exact this
      have z2 : n' * d - n * d' ≤ 0 := by
        rcases Int.lt_or_le 0 (n' * d - n * d') with q | q
        · have := Int.mul_pos q pp; omega
        · exact q
      have := Int.mul_nonneg N0 (Int.le_of_lt dd)
      omega
  have := td_diff hd hd' N0 key
  omega

/-! Inverses -/
def Least (c : Cv) (y r : Int) : Prop := c.x 0 ≤ r ∧ r ≤ c.x (c.nx - 1) ∧ y ≤ atv c r ∧ ∀ t, c.x 0 ≤ t → t < r → atv c t < y
theorem least_eq {c : Cv} {y r s : Int} (h : Least c y r) (k : Least c y s) : r = s := by
  obtain ⟨a1, _, a3, a4⟩ := h
  obtain ⟨b1, _, b3, b4⟩ := k
  rcases Int.lt_trichotomy r s with q | q | q
  · have := b4 r a1 q; omega
  · exact q
  · have := a4 s b1 q; omega
theorem least_iff {c : Cv} (g : Good c) {y r q : Int} (h : Least c y r) (hq : c.x 0 ≤ q) : y ≤ atv c q ↔ r ≤ q := by
  obtain ⟨_, _, a3, a4⟩ := h
  constructor
  · intro k
    rcases Int.lt_or_le q r with z | z
    · have := a4 q hq z; omega
    · exact z
  · intro k
    have := atv_mono g k; omega

/-! Odd curves -/
def mir (n : Nat) (z : Nat → Int) (i : Nat) : Int := if i < n then -z (n - 1 - i) else if i = n then 0 else z (i - n - 1)
theorem mir_neg (n : Nat) (z : Nat → Int) (i : Nat) (h : i ≤ 2 * n) : mir n z (2 * n - i) = -mir n z i := by
  unfold mir
  rcases Nat.lt_trichotomy i n with e | e | e
  · rw [if_neg (by omega), if_neg (by omega), if_pos e]
    have : 2 * n - i - n - 1 = n - 1 - i := by omega
    rw [this]; omega
  · rw [if_neg (by omega), if_pos (by omega), if_neg (by omega), if_pos (by omega)]; rfl
  · rw [if_pos (by omega), if_neg (by omega), if_neg (by omega)]
    have : n - 1 - (2 * n - i) = i - n - 1 := by omega
    rw [this]
/-- A curve that is its own mirror image. -/
def Mirror (c : Cv) (n : Nat) : Prop := c.nx = 2 * n + 1 ∧ (∀ i, i ≤ 2 * n → c.x (2 * n - i) = -c.x i) ∧ (∀ i, i ≤ 2 * n → c.y (2 * n - i) = -c.y i)
theorem On_neg {c : Cv} {n : Nat} (hm : Mirror c n) {t num den : Int} (h : On c t num den) : On c (-t) (-num) den := by
  obtain ⟨e, mx, my⟩ := hm
  obtain ⟨hd, i, i0, hi, h1, h2, h3⟩ := h
  have x1 := mx i (by omega)
  have x2 := mx (i - 1) (by omega)
  have y1 := my i (by omega)
  have y2 := my (i - 1) (by omega)
  have k1 : 2 * n + 1 - i - 1 = 2 * n - i := by omega
  have k2 : 2 * n - (i - 1) = 2 * n + 1 - i := by omega
  rw [k2] at x2 y2
  have ed : dx c (2 * n + 1 - i) = dx c i := by unfold dx; rw [k1, x1, x2]; omega
  have ey : dy c (2 * n + 1 - i) = dy c i := by unfold dy; rw [k1, y1, y2]; omega
  have es : sg c (2 * n + 1 - i) (-t) = -sg c i t := by
    unfold sg
    rw [ed, ey, k1, x1, y1]
    have : c.y i = c.y (i - 1) + dy c i := by unfold dy; omega
    have : c.x i = c.x (i - 1) + dx c i := by unfold dx; omega
    grind
  refine ⟨hd, 2 * n + 1 - i, by omega, by omega, by rw [k1, x1]; omega, by rw [x2]; omega, ?_⟩
  rw [ed, es, Int.neg_mul, Int.neg_mul, h3]
theorem atv_odd {c : Cv} (g : Good c) {n : Nat} (hm : Mirror c n) (q : Int) : atv c q = -atv c (-q) := by
  have e := hm.1
  have x0 := hm.2.1 0 (by omega)
  have k : 2 * n - 0 = c.nx - 1 := by omega
  rw [k] at x0
  have ec : cla c (-q) = -cla c q := by
    have m := (up_le g (c.nx - 1) 0 (by omega) (by omega)).1
    unfold cla; omega
  have v := On_neg hm (val_on g (vr_val g (-q)))
  rw [ec, Int.neg_neg] at v
  have v' := val_on g (vr_val g q)
  unfold atv
  rw [← Int.neg_tdiv]
  exact Int.le_antisymm (td_cross v'.1 v.1 (On_mono g v' v (Int.le_refl _))) (td_cross v.1 v'.1 (On_mono g v v' (Int.le_refl _)))

/-! Comparisons -/
def leb (a b : Cv) (q : Int) : Bool := decide ((vr a q).1 * (vr b q).2 ≤ (vr b q).1 * (vr a q).2)
theorem leb_iff {a b : Cv} (ga : Good a) (gb : Good b) {q n d m e : Int} (h : IsVal a q n d) (k : IsVal b q m e) : leb a b q = true ↔ n * e ≤ m * d := by
  have h' := vr_val ga q
  have k' := vr_val gb q
  have e1 := val_eq ga h h'
  have e2 := val_eq gb k k'
  unfold leb
  rw [decide_eq_true_iff]
  obtain ⟨hd, _⟩ := h
  obtain ⟨he, _⟩ := k
  obtain ⟨hD, _⟩ := h'
  obtain ⟨hE, _⟩ := k'
  generalize (vr a q).1 = N at *
  generalize (vr a q).2 = D at *
  generalize (vr b q).1 = M at *
  generalize (vr b q).2 = E at *
  have f1 : (n * e) * (D * E) = (N * E) * (d * e) := by
    have : (n * e) * (D * E) = (n * D) * (e * E) := by grind
    rw [this, e1]; grind
  have f2 : (m * d) * (D * E) = (M * D) * (d * e) := by
    have : (m * d) * (D * E) = (m * E) * (d * D) := by grind
    rw [this, e2]; grind
  have DE := Int.mul_pos hD hE
  have de := Int.mul_pos hd he
  constructor
  · intro q
    refine Int.le_of_mul_le_mul_right (a := D * E) ?_ DE
    rw [f1, f2]
    exact Int.mul_le_mul_of_nonneg_right q (Int.le_of_lt de)
  · intro q
    refine Int.le_of_mul_le_mul_right (a := d * e) ?_ de
    rw [← f1, ← f2]
    exact Int.mul_le_mul_of_nonneg_right q (Int.le_of_lt DE)

theorem val_cases {c : Cv} (g : Good c) (q : Int) : IsVal c q (c.y 0) 1 ∧ q ≤ c.x 0 ∨ IsVal c q (c.y (c.nx - 1)) 1 ∧ c.x (c.nx - 1) ≤ q ∨ ∃ i, 0 < i ∧ i < c.nx ∧ c.x (i - 1) ≤ q ∧ q ≤ c.x i ∧ IsVal c q (sg c i q) (dx c i) := by
  obtain ⟨hd, h⟩ := vr_val g q
  rcases h with ⟨h1, _, _⟩ | ⟨h1, _, _⟩ | ⟨i, i0, hi, h1, h2, _, _⟩
  · exact .inl ⟨⟨Int.one_pos, .inl ⟨h1, rfl, rfl⟩⟩, h1⟩
  · exact .inr (.inl ⟨⟨Int.one_pos, .inr (.inl ⟨h1, rfl, rfl⟩)⟩, h1⟩)
  · exact .inr (.inr ⟨i, i0, hi, h1, h2, ⟨dx_pos g i0 hi, .inr (.inr ⟨i, i0, hi, h1, h2, rfl, rfl⟩)⟩⟩)
theorem val_first {c : Cv} {q : Int} (h : q ≤ c.x 0) : IsVal c q (c.y 0) 1 := ⟨Int.one_pos, .inl ⟨h, rfl, rfl⟩⟩
theorem val_last {c : Cv} {q : Int} (h : c.x (c.nx - 1) ≤ q) : IsVal c q (c.y (c.nx - 1)) 1 := ⟨Int.one_pos, .inr (.inl ⟨h, rfl, rfl⟩)⟩
theorem val_seg {c : Cv} (g : Good c) {i : Nat} (i0 : 0 < i) (hi : i < c.nx) {q : Int} (h1 : c.x (i - 1) ≤ q) (h2 : q ≤ c.x i) : IsVal c q (sg c i q) (dx c i) :=
  ⟨dx_pos g i0 hi, .inr (.inr ⟨i, i0, hi, h1, h2, rfl, rfl⟩)⟩
theorem val_any {c : Cv} (g : Good c) (q : Int) : ∃ n d, IsVal c q n d := ⟨_, _, vr_val g q⟩

/-- What holds at one place holds at another where a is no greater and b no less. -/
theorem leb_move {a b : Cv} (ga : Good a) (gb : Good b) {p q : Int} (h : leb a b p = true) (ha : ∀ n d n' d', IsVal a q n d → IsVal a p n' d' → n * d' ≤ n' * d) (hb : ∀ n d n' d', IsVal b p n d → IsVal b q n' d' → n * d' ≤ n' * d) : leb a b q = true := by
  obtain ⟨n, d, v1⟩ := val_any ga q
  obtain ⟨n', d', v2⟩ := val_any ga p
  obtain ⟨m, e, w1⟩ := val_any gb q
  obtain ⟨m', e', w2⟩ := val_any gb p
  rw [leb_iff ga gb v1 w1]
  rw [leb_iff ga gb v2 w2] at h
  have h1 := ha _ _ _ _ v1 v2
  have h2 := hb _ _ _ _ w2 w1
  have d1 := v1.1
  have d2 := v2.1
  have d3 := w1.1
  have d4 := w2.1
  -- n/d ≤ n'/d' ≤ m'/e' ≤ m/e
  have k1 := Int.mul_le_mul_of_nonneg_right h1 (Int.le_of_lt (Int.mul_pos d4 d3))
  have k2 := Int.mul_le_mul_of_nonneg_right h (Int.le_of_lt (Int.mul_pos d1 d3))
  have k3 := Int.mul_le_mul_of_nonneg_right h2 (Int.le_of_lt (Int.mul_pos d1 d2))
  refine Int.le_of_mul_le_mul_right (a := d' * e') ?_ (Int.mul_pos d2 d4)
  have z1 : n * e * (d' * e') = n * d' * (e' * e) := by grind
  have z2 : n' * d * (e' * e) = n' * e' * (d * e) := by grind
  have z3 : m' * d' * (d * e) = m' * e * (d * d') := by grind
  have z4 : m * e' * (d * d') = m * d * (d' * e') := by grind
  omega

/-- A curve that is below another one at the points of both is below it everywhere. -/
theorem below_all {a b : Cv} (ga : Good a) (gb : Good b) (ha : ∀ i, i < a.nx → leb a b (a.x i) = true) (hb : ∀ j, j < b.nx → leb a b (b.x j) = true) (q : Int) : leb a b q = true := by
  have a2 := ga.two
  have b2 := gb.two
  have mono_a : ∀ p p', p ≤ p' → ∀ n d n' d', IsVal a p n d → IsVal a p' n' d' → n * d' ≤ n' * d := fun p p' h n d n' d' v v' => val_cross ga v v' h
  have mono_b : ∀ p p', p ≤ p' → ∀ n d n' d', IsVal b p n d → IsVal b p' n' d' → n * d' ≤ n' * d := fun p p' h n d n' d' v v' => val_cross gb v v' h
  have same_a : ∀ p p', cla a p ≤ cla a p' → ∀ n d n' d', IsVal a p n d → IsVal a p' n' d' → n * d' ≤ n' * d := fun p p' h n d n' d' v v' => On_mono ga (val_on ga v) (val_on ga v') h
  have same_b : ∀ p p', cla b p ≤ cla b p' → ∀ n d n' d', IsVal b p n d → IsVal b p' n' d' → n * d' ≤ n' * d := fun p p' h n d n' d' v v' => On_mono gb (val_on gb v) (val_on gb v') h
  have ma := (up_le ga (a.nx - 1) 0 (by omega) (by omega)).1
  have mb := (up_le gb (b.nx - 1) 0 (by omega) (by omega)).1
  have pa := ha 0 (by omega)
  have pa' := ha (a.nx - 1) (by omega)
  have pb := hb 0 (by omega)
  have pb' := hb (b.nx - 1) (by omega)
  rcases val_cases ga q with ⟨_, h1⟩ | ⟨_, h1⟩ | ⟨i, i0, hi, h1, h2, va⟩ <;> rcases val_cases gb q with ⟨_, k1⟩ | ⟨_, k1⟩ | ⟨j, j0, hj, k1, k2, vb⟩
  · rcases Int.le_total (a.x 0) (b.x 0) with z | z
    · exact leb_move ga gb pa (same_a _ _ (by unfold cla; omega)) (same_b _ _ (by unfold cla; omega))
    · exact leb_move ga gb pb (same_a _ _ (by unfold cla; omega)) (same_b _ _ (by unfold cla; omega))
  · exact leb_move ga gb pa (same_a _ _ (by unfold cla; omega)) (same_b _ _ (by unfold cla; omega))
  · exact leb_move ga gb (hb (j - 1) (by omega)) (same_a _ _ (by unfold cla; omega)) (mono_b _ _ k1)
  · exact leb_move ga gb pb (same_a _ _ (by unfold cla; omega)) (same_b _ _ (by unfold cla; omega))
  · rcases Int.le_total (a.x (a.nx - 1)) (b.x (b.nx - 1)) with z | z
    · exact leb_move ga gb pb' (same_a _ _ (by unfold cla; omega)) (same_b _ _ (by unfold cla; omega))
    · exact leb_move ga gb pa' (same_a _ _ (by unfold cla; omega)) (same_b _ _ (by unfold cla; omega))
  · rcases Int.le_total (a.x (a.nx - 1)) (b.x (j - 1)) with z | z
    · exact leb_move ga gb (hb (j - 1) (by omega)) (same_a _ _ (by unfold cla; omega)) (mono_b _ _ k1)
    · exact leb_move ga gb pa' (same_a _ _ (by unfold cla; omega)) (mono_b _ _ h1)
  · rcases Int.le_total (a.x i) (b.x 0) with z | z
    · exact leb_move ga gb (ha i hi) (mono_a _ _ h2) (same_b _ _ (by unfold cla; omega))
    · exact leb_move ga gb pb (mono_a _ _ k1) (same_b _ _ (by unfold cla; omega))
  · exact leb_move ga gb (ha i hi) (mono_a _ _ h2) (same_b _ _ (by unfold cla; omega))
  · rw [leb_iff ga gb va vb]
    -- the difference is straight between L and R
    have da := dx_pos ga i0 hi
    have db := dx_pos gb j0 hj
    have lin : ∀ p, sg a i p * dx b j - sg b j p * dx a i = (sg a i q * dx b j - sg b j q * dx a i) + (dy a i * dx b j - dy b j * dx a i) * (p - q) := by
      intro p; unfold sg; grind
    have at_ : ∀ p, a.x (i - 1) ≤ p → p ≤ a.x i → b.x (j - 1) ≤ p → p ≤ b.x j → leb a b p = true → sg a i p * dx b j - sg b j p * dx a i ≤ 0 := by
      intro p p1 p2 p3 p4 hl
      rw [leb_iff ga gb (val_seg ga i0 hi p1 p2) (val_seg gb j0 hj p3 p4)] at hl
      omega
    have hL : ∃ p, p ≤ q ∧ sg a i p * dx b j - sg b j p * dx a i ≤ 0 := by
      rcases Int.le_total (a.x (i - 1)) (b.x (j - 1)) with z | z
      · exact ⟨b.x (j - 1), k1, at_ _ z (by omega) (Int.le_refl _) (by omega) (hb (j - 1) (by omega))⟩
      · exact ⟨a.x (i - 1), h1, at_ _ (Int.le_refl _) (by omega) z (by omega) (ha (i - 1) (by omega))⟩
    have hR : ∃ p, q ≤ p ∧ sg a i p * dx b j - sg b j p * dx a i ≤ 0 := by
      rcases Int.le_total (a.x i) (b.x j) with z | z
      · exact ⟨a.x i, h2, at_ _ (by omega) (Int.le_refl _) (by omega) z (ha i hi)⟩
      · exact ⟨b.x j, k2, at_ _ (by omega) z (by omega) (Int.le_refl _) (hb j hj)⟩
    obtain ⟨l, l1, l2⟩ := hL
    obtain ⟨r, r1, r2⟩ := hR
    rw [lin l] at l2
    rw [lin r] at r2
    rcases Int.le_total 0 (dy a i * dx b j - dy b j * dx a i) with s | s
    · have := Int.mul_nonneg s (show 0 ≤ r - q by omega)
      omega
    · have := Int.mul_nonneg_of_nonpos_of_nonpos s (show l - q ≤ 0 by omega)
      omega

end Go.Proofs.Ytbeolonbboibfaa.Pl
