/- Plain arithmetic of monotone piecewise linear curves (chapter 9), without any program.
   Conditions: the bounds that each lemma names. -/
import Derived.Test.YtbeolonbboibfaaPlain
namespace Go.Proofs.Ytbeolonbboibfaa.Pl

/-- A curve: two lists of numbers. -/
structure Cv where
  nx : Nat
  ny : Nat
  x : Nat → Int
  y : Nat → Int

def far (a : Int) : Bool := decide (a < -1073741824) || decide (1073741824 < a)
theorem far_false {a : Int} (h : far a = false) : -1073741824 ≤ a ∧ a ≤ 1073741824 := by
  unfold far at h
  simp only [Bool.or_eq_false_iff, decide_eq_false_iff_not] at h
  omega

/-- The first error of the points from i on (f of them). -/
def chkF (c : Cv) : Nat → Nat → Int
  | 0, _ => 0
  | f + 1, i => if far (c.x i) || far (c.y i) then 3 else if decide (0 < i) && (decide (c.x i ≤ c.x (i - 1)) || decide (c.y i < c.y (i - 1))) then 26 else chkF c f (i + 1)
/-- The number of a curve's first error. -/
def chk (c : Cv) : Int := if c.nx ≠ c.ny then 11 else if 32 < c.nx then 4 else if c.nx < 2 then 11 else chkF c c.nx 0

structure Good (c : Cv) : Prop where
  same : c.nx = c.ny
  two : 2 ≤ c.nx
  few : c.nx ≤ 32
  inx : ∀ i, i < c.nx → -1073741824 ≤ c.x i ∧ c.x i ≤ 1073741824
  iny : ∀ i, i < c.nx → -1073741824 ≤ c.y i ∧ c.y i ≤ 1073741824
  up : ∀ i, 0 < i → i < c.nx → c.x (i - 1) < c.x i ∧ c.y (i - 1) ≤ c.y i

theorem chkF_good (c : Cv) : ∀ f i, chkF c f i = 0 → ∀ j, i ≤ j → j < i + f →
    (-1073741824 ≤ c.x j ∧ c.x j ≤ 1073741824) ∧ (-1073741824 ≤ c.y j ∧ c.y j ≤ 1073741824) ∧ (0 < j → c.x (j - 1) < c.x j ∧ c.y (j - 1) ≤ c.y j) := by
  intro f
  induction f with
  | zero => intro i _ j h1 h2; omega
  | succ f ih =>
    intro i h j h1 h2
    unfold chkF at h
    split at h
    · omega
    · rename_i hb
      split at h
      · omega
      · rename_i ho
        rcases Nat.eq_or_lt_of_le h1 with e | e
        · subst e
          have hb : (far (c.x i) || far (c.y i)) = false := by simpa using hb
          rw [Bool.or_eq_false_iff] at hb
          refine ⟨far_false hb.1, far_false hb.2, fun h0 => ?_⟩
          have ho : (decide (0 < i) && (decide (c.x i ≤ c.x (i - 1)) || decide (c.y i < c.y (i - 1)))) = false := by simpa using ho
          rw [decide_eq_true h0, Bool.true_and, Bool.or_eq_false_iff, decide_eq_false_iff_not, decide_eq_false_iff_not] at ho
          omega
        · exact ih (i + 1) h j (by omega) (by omega)

theorem good_of (c : Cv) (h : chk c = 0) : Good c := by
  unfold chk at h
  split at h
  · omega
  · rename_i h1
    split at h
    · omega
    · rename_i h2
      split at h
      · omega
      · rename_i h3
        have k := chkF_good c c.nx 0 h
        exact ⟨by omega, by omega, by omega, fun i hi => (k i (by omega) (by omega)).1, fun i hi => (k i (by omega) (by omega)).2.1, fun i h0 hi => (k i (by omega) (by omega)).2.2 h0⟩

theorem chk_nonneg (c : Cv) : 0 ≤ chk c := by
  have k : ∀ f i, 0 ≤ chkF c f i := by
    intro f
    induction f with
    | zero => intro i; exact Int.le_refl _
    | succ f ih => intro i; unfold chkF; split; omega; split; omega; exact ih _
  unfold chk
  split; omega; split; omega; split; omega; exact k _ _

theorem up_le {c : Cv} (g : Good c) : ∀ j i, i ≤ j → j < c.nx → c.x i ≤ c.x j ∧ c.y i ≤ c.y j := by
  intro j
  induction j with
  | zero => intro i h _; have : i = 0 := by omega
            subst this; exact ⟨Int.le_refl _, Int.le_refl _⟩
  | succ j ih =>
    intro i h hj
    rcases Nat.eq_or_lt_of_le h with e | e
    · subst e; exact ⟨Int.le_refl _, Int.le_refl _⟩
    · have a := ih i (by omega) (by omega)
      have b := g.up (j + 1) (by omega) hj
      simp only [Nat.add_sub_cancel] at b
      omega
theorem up_lt {c : Cv} (g : Good c) (i j : Nat) (h : i < j) (hj : j < c.nx) : c.x i < c.x j := by
  have a := up_le g (j - 1) i (by omega) (by omega)
  have b := g.up j (by omega) hj
  omega

/-- The length of a segment; its value (times the length) at t. -/
def dx (c : Cv) (i : Nat) : Int := c.x i - c.x (i - 1)
def dy (c : Cv) (i : Nat) : Int := c.y i - c.y (i - 1)
def sg (c : Cv) (i : Nat) (t : Int) : Int := c.y (i - 1) * dx c i + dy c i * (t - c.x (i - 1))

/-- num / den is the curve's value at t, t between the first and the last point. -/
def On (c : Cv) (t num den : Int) : Prop := 0 < den ∧ ∃ i, 0 < i ∧ i < c.nx ∧ c.x (i - 1) ≤ t ∧ t ≤ c.x i ∧ num * dx c i = sg c i t * den
/-- t moved between the first and the last point. -/
def cla (c : Cv) (q : Int) : Int := max (c.x 0) (min q (c.x (c.nx - 1)))

theorem dx_pos {c : Cv} (g : Good c) {i : Nat} (h0 : 0 < i) (hi : i < c.nx) : 0 < dx c i := by
  have := g.up i h0 hi
  unfold dx; omega
theorem dy_nonneg {c : Cv} (g : Good c) {i : Nat} (h0 : 0 < i) (hi : i < c.nx) : 0 ≤ dy c i := by
  have := g.up i h0 hi
  unfold dy; omega

theorem sg_lo {c : Cv} (g : Good c) {i : Nat} (h0 : 0 < i) (hi : i < c.nx) {t : Int} (h : c.x (i - 1) ≤ t) : c.y (i - 1) * dx c i ≤ sg c i t := by
  have := Int.mul_nonneg (dy_nonneg g h0 hi) (show 0 ≤ t - c.x (i - 1) by omega)
  unfold sg; omega
theorem sg_hi {c : Cv} (g : Good c) {i : Nat} (h0 : 0 < i) (hi : i < c.nx) {t : Int} (h : t ≤ c.x i) : sg c i t ≤ c.y i * dx c i := by
  have a := Int.mul_le_mul_of_nonneg_left (show t - c.x (i - 1) ≤ dx c i by unfold dx; omega) (dy_nonneg g h0 hi)
  have e : c.y i * dx c i = c.y (i - 1) * dx c i + dy c i * dx c i := by unfold dy; rw [Int.sub_mul]; omega
  unfold sg; omega

/-- Values of segments do not descend. -/
theorem seg_mono {c : Cv} (g : Good c) {i j : Nat} {t t' : Int} (i0 : 0 < i) (hi : i < c.nx) (j0 : 0 < j) (hj : j < c.nx)
    (h1 : c.x (i - 1) ≤ t) (h2 : t ≤ c.x i) (h3 : c.x (j - 1) ≤ t') (h4 : t' ≤ c.x j) (h : t ≤ t') : sg c i t * dx c j ≤ sg c j t' * dx c i := by
  have pi := dx_pos g i0 hi
  have pj := dx_pos g j0 hj
  rcases Nat.lt_trichotomy i j with e | e | e
  · have a := Int.mul_le_mul_of_nonneg_right (sg_hi g i0 hi h2) (Int.le_of_lt pj)
    have b := Int.mul_le_mul_of_nonneg_right (sg_lo g j0 hj h3) (Int.le_of_lt pi)
    have m := (up_le g (j - 1) i (by omega) (by omega)).2
    have k := Int.mul_le_mul_of_nonneg_right m (Int.le_of_lt (Int.mul_pos pi pj))
    have e1 : c.y i * dx c i * dx c j = c.y i * (dx c i * dx c j) := Int.mul_assoc _ _ _
    have e2 : c.y (j - 1) * dx c j * dx c i = c.y (j - 1) * (dx c i * dx c j) := by rw [Int.mul_assoc, Int.mul_comm (dx c j)]
    omega
  · subst e
    have a := Int.mul_le_mul_of_nonneg_left (show t - c.x (i - 1) ≤ t' - c.x (i - 1) by omega) (dy_nonneg g i0 hi)
    exact Int.mul_le_mul_of_nonneg_right (by unfold sg; omega) (Int.le_of_lt pi)
  · have m := up_le g (i - 1) j (by omega) (by omega)
    have e1 : t = c.x (i - 1) := by omega
    have e2 : t' = c.x j := by omega
    have e3 : c.x j = c.x (i - 1) := by omega
    have e4 : j = i - 1 := by
      rcases Nat.eq_or_lt_of_le (show j ≤ i - 1 by omega) with q | q
      · exact q
      · have := up_lt g j (i - 1) q (by omega); omega
    have s1 : sg c i t = c.y (i - 1) * dx c i := by unfold sg; rw [e1]; simp
    have s2 : sg c j t' = c.y j * dx c j := by
      have e5 : t' - c.x (j - 1) = dx c j := by unfold dx; omega
      unfold sg; rw [e5]; unfold dy; rw [Int.sub_mul]; omega
    rw [s1, s2, e4, Int.mul_assoc, Int.mul_assoc, Int.mul_comm (dx c i)]
    exact Int.le_refl _

theorem On_mono {c : Cv} (g : Good c) {t t' n d n' d' : Int} (h : On c t n d) (h' : On c t' n' d') (ht : t ≤ t') : n * d' ≤ n' * d := by
  obtain ⟨hd, i, i0, hi, a1, a2, a3⟩ := h
  obtain ⟨hd', j, j0, hj, b1, b2, b3⟩ := h'
  have m := seg_mono g i0 hi j0 hj a1 a2 b1 b2 ht
  have pi := dx_pos g i0 hi
  have pj := dx_pos g j0 hj
  have k := Int.mul_le_mul_of_nonneg_right m (Int.le_of_lt (Int.mul_pos hd hd'))
  refine Int.le_of_mul_le_mul_left (a := dx c i * dx c j) ?_ (Int.mul_pos pi pj)
  have e1 : dx c i * dx c j * (n * d') = (n * dx c i) * (dx c j * d') := by grind
  have e2 : dx c i * dx c j * (n' * d) = (n' * dx c j) * (dx c i * d) := by grind
  rw [e1, e2, a3, b3]
  grind

/-- Quotients of ordered fractions are ordered. -/
theorem td_cross {n d n' d' : Int} (hd : 0 < d) (hd' : 0 < d') (h : n * d' ≤ n' * d) : n.tdiv d ≤ n'.tdiv d' := by
  rcases Int.lt_or_le (n'.tdiv d') (n.tdiv d) with q | q
  · exfalso
    have t := td n d hd
    have t' := td n' d' hd'
    generalize n.tdiv d = p at *
    generalize n'.tdiv d' = p' at *
    rcases t with ⟨a1, a2, a3, a4⟩ | ⟨a1, a2, a3, a4⟩ <;> rcases t' with ⟨b1, b2, b3, b4⟩ | ⟨b1, b2, b3, b4⟩
    · -- n' < d' (p' + 1) ≤ d' p, d p ≤ n
      have k1 := Int.mul_le_mul_of_nonneg_left (show p' + 1 ≤ p by omega) (Int.le_of_lt hd')
      have k2 := Int.mul_lt_mul_of_pos_right (show n' < d' * p by rw [Int.mul_add] at k1; omega) hd
      have k3 := Int.mul_le_mul_of_nonneg_right a3 (Int.le_of_lt hd')
      have e : d' * p * d = d * p * d' := by grind
      omega
    · have k1 := Int.mul_nonneg a1 (Int.le_of_lt hd')
      have k2 := Int.mul_lt_mul_of_pos_right b1 hd
      omega
    · omega
    · have k1 := Int.mul_le_mul_of_nonneg_left (show p' ≤ p - 1 by omega) (Int.le_of_lt hd')
      have k2 := Int.mul_le_mul_of_nonneg_right (show n' ≤ d' * (p - 1) by omega) (Int.le_of_lt hd)
      have k3 := Int.mul_lt_mul_of_pos_right (show d * (p - 1) < n by rw [Int.mul_sub]; omega) hd'
      have e : d' * (p - 1) * d = d * (p - 1) * d' := by grind
      omega
  · exact q

/-- num / den is what the curve's text makes of q. -/
def IsVal (c : Cv) (q num den : Int) : Prop :=
  0 < den ∧ ((q ≤ c.x 0 ∧ num = c.y 0 ∧ den = 1) ∨ (c.x (c.nx - 1) ≤ q ∧ num = c.y (c.nx - 1) ∧ den = 1) ∨
    ∃ i, 0 < i ∧ i < c.nx ∧ c.x (i - 1) ≤ q ∧ q ≤ c.x i ∧ den = dx c i ∧ num = sg c i q)

theorem val_on {c : Cv} (g : Good c) {q num den : Int} (h : IsVal c q num den) : On c (cla c q) num den := by
  have g2 := g.two
  have m := up_le g (c.nx - 1) 0 (by omega) (by omega)
  obtain ⟨hd, h | h | ⟨i, i0, hi, h1, h2, h3, h4⟩⟩ := h
  · obtain ⟨h1, h2, h3⟩ := h
    have e : cla c q = c.x 0 := by unfold cla; omega
    rw [e]
    refine ⟨hd, 1, by omega, by omega, Int.le_refl _, (up_le g 1 0 (by omega) (by omega)).1, ?_⟩
    rw [h2, h3]
    unfold sg
    simp
  · obtain ⟨h1, h2, h3⟩ := h
    have e : cla c q = c.x (c.nx - 1) := by unfold cla; omega
    rw [e]
    refine ⟨hd, c.nx - 1, by omega, by omega, (up_le g (c.nx - 1) (c.nx - 1 - 1) (by omega) (by omega)).1, Int.le_refl _, ?_⟩
    rw [h2, h3]
    have e5 : c.x (c.nx - 1) - c.x (c.nx - 1 - 1) = dx c (c.nx - 1) := rfl
    unfold sg
    rw [e5]
    unfold dy
    rw [Int.sub_mul]; omega
  · have a := (up_le g (i - 1) 0 (by omega) (by omega)).1
    have b := (up_le g (c.nx - 1) i (by omega) (by omega)).1
    have e : cla c q = q := by unfold cla; omega
    rw [e]
    refine ⟨hd, i, i0, hi, h1, h2, ?_⟩
    rw [h3, h4]

/-- The value at q, as the reference finds it: the numerator and the denominator. -/
def vfrom (c : Cv) (q : Int) : Nat → Nat → Int × Int
  | 0, _ => (c.y (c.nx - 1), 1)
  | f + 1, i => if q ≤ c.x i then (sg c i q, dx c i) else vfrom c q f (i + 1)
def vr (c : Cv) (q : Int) : Int × Int := if q ≤ c.x 0 then (c.y 0, 1) else vfrom c q (c.nx - 1) 1
theorem vfrom_val {c : Cv} (g : Good c) (q : Int) : ∀ f i, 0 < i → i + f = c.nx → c.x (i - 1) ≤ q → IsVal c q (vfrom c q f i).1 (vfrom c q f i).2 := by
  intro f
  induction f with
  | zero =>
    intro i _ hi h
    refine ⟨Int.one_pos, .inr (.inl ⟨?_, rfl, rfl⟩)⟩
    have : c.nx - 1 = i - 1 := by omega
    rw [this]; exact h
  | succ f ih =>
    intro i i0 hi h
    unfold vfrom
    split
    · rename_i hq
      exact ⟨dx_pos g i0 (by omega), .inr (.inr ⟨i, i0, by omega, h, hq, rfl, rfl⟩)⟩
    · rename_i hq
      exact ih (i + 1) (by omega) (by omega) (by simp only [Nat.add_sub_cancel]; omega)
theorem vr_val {c : Cv} (g : Good c) (q : Int) : IsVal c q (vr c q).1 (vr c q).2 := by
  have g2 := g.two
  unfold vr
  split
  · rename_i h
    exact ⟨Int.one_pos, .inl ⟨h, rfl, rfl⟩⟩
  · rename_i h
    exact vfrom_val g q (c.nx - 1) 1 (by omega) (by omega) (by simp only [Nat.sub_self]; omega)

/-- The value at q, truncated. -/
def atv (c : Cv) (q : Int) : Int := (vr c q).1.tdiv (vr c q).2

theorem val_cross {c : Cv} (g : Good c) {q q' n d n' d' : Int} (h : IsVal c q n d) (h' : IsVal c q' n' d') (hq : q ≤ q') : n * d' ≤ n' * d :=
  On_mono g (val_on g h) (val_on g h') (by unfold cla; omega)
theorem val_eq {c : Cv} (g : Good c) {q n d n' d' : Int} (h : IsVal c q n d) (h' : IsVal c q n' d') : n * d' = n' * d :=
  Int.le_antisymm (val_cross g h h' (Int.le_refl _)) (by have := val_cross g h' h (Int.le_refl _); omega)
theorem atv_of {c : Cv} (g : Good c) {q n d : Int} (h : IsVal c q n d) : n.tdiv d = atv c q := by
  have h' := vr_val g q
  have e := val_eq g h h'
  exact Int.le_antisymm (td_cross h.1 h'.1 (by omega)) (td_cross h'.1 h.1 (by omega))
theorem atv_mono {c : Cv} (g : Good c) {q q' : Int} (h : q ≤ q') : atv c q ≤ atv c q' :=
  td_cross (vr_val g q).1 (vr_val g q').1 (val_cross g (vr_val g q) (vr_val g q') h)
/-- At a point the curve has the point's value. -/
theorem atv_point {c : Cv} (g : Good c) {i : Nat} (hi : i < c.nx) : atv c (c.x i) = c.y i := by
  have g2 := g.two
  have k : IsVal c (c.x i) (c.y i) 1 ∨ IsVal c (c.x i) (c.y i * dx c i) (dx c i) := by
    rcases Nat.eq_zero_or_pos i with e | e
    · subst e; exact .inl ⟨Int.one_pos, .inl ⟨Int.le_refl _, rfl, rfl⟩⟩
    · refine .inr ⟨dx_pos g e hi, .inr (.inr ⟨i, e, hi, (up_le g i (i - 1) (by omega) hi).1, Int.le_refl _, rfl, ?_⟩)⟩
      have e5 : c.x i - c.x (i - 1) = dx c i := rfl
      unfold sg; rw [e5]; unfold dy; rw [Int.sub_mul]; omega
  rcases k with k | k
  · rw [← atv_of g k, Int.tdiv_one]
  · rw [← atv_of g k]
    exact Int.mul_tdiv_cancel _ (by have := k.1; omega)
theorem atv_first {c : Cv} (g : Good c) {q : Int} (h : q ≤ c.x 0) : atv c q = c.y 0 := by
  rw [← atv_of g (q := q) (n := c.y 0) (d := 1) ⟨Int.one_pos, .inl ⟨h, rfl, rfl⟩⟩, Int.tdiv_one]
theorem atv_last {c : Cv} (g : Good c) {q : Int} (h : c.x (c.nx - 1) ≤ q) : atv c q = c.y (c.nx - 1) := by
  rw [← atv_of g (q := q) (n := c.y (c.nx - 1)) (d := 1) ⟨Int.one_pos, .inr (.inl ⟨h, rfl, rfl⟩)⟩, Int.tdiv_one]
theorem atv_bd {c : Cv} (g : Good c) (q : Int) : c.y 0 ≤ atv c q ∧ atv c q ≤ c.y (c.nx - 1) := by
  have a := atv_mono g (q := min q (c.x 0)) (q' := q) (by omega)
  have b := atv_mono g (q := q) (q' := max q (c.x (c.nx - 1))) (by omega)
  rw [atv_first g (q := min q (c.x 0)) (by omega)] at a
  rw [atv_last g (q := max q (c.x (c.nx - 1))) (by omega)] at b
  exact ⟨a, b⟩
theorem atv_in {c : Cv} (g : Good c) (q : Int) : -1073741824 ≤ atv c q ∧ atv c q ≤ 1073741824 := by
  have a := atv_bd g q
  have b := g.iny 0 (by have := g.two; omega)
  have d := g.iny (c.nx - 1) (by have := g.two; omega)
  omega

/-- Bounds of what the machine computes at a segment. -/
theorem seg_bd {c : Cv} (g : Good c) {i : Nat} (i0 : 0 < i) (hi : i < c.nx) {q : Int} (h1 : c.x (i - 1) ≤ q) (h2 : q ≤ c.x i) :
    (0 < dx c i ∧ dx c i ≤ 2147483648) ∧ (0 ≤ dy c i ∧ dy c i ≤ 2147483648) ∧ (0 ≤ q - c.x (i - 1) ∧ q - c.x (i - 1) ≤ 2147483648) ∧
    (-2305843009213693952 ≤ c.y (i - 1) * dx c i ∧ c.y (i - 1) * dx c i ≤ 2305843009213693952) ∧ (0 ≤ dy c i * (q - c.x (i - 1)) ∧ dy c i * (q - c.x (i - 1)) ≤ 4611686018427387904) ∧
    (-2305843009213693952 ≤ sg c i q ∧ sg c i q ≤ 2305843009213693952) := by
  have p := dx_pos g i0 hi
  have y0 := dy_nonneg g i0 hi
  have a := g.inx i hi
  have b := g.inx (i - 1) (by omega)
  have d := g.iny i hi
  have e := g.iny (i - 1) (by omega)
  have p2 : dx c i ≤ 2147483648 := by unfold dx; omega
  have y2 : dy c i ≤ 2147483648 := by unfold dy; omega
  have lo := sg_lo g i0 hi h1
  have hi' := sg_hi g i0 hi h2
  have k : ∀ z : Int, -1073741824 ≤ z → z ≤ 1073741824 → -2305843009213693952 ≤ z * dx c i ∧ z * dx c i ≤ 2305843009213693952 := by
    intro z z1 z2
    have u := Int.mul_le_mul_of_nonneg_right z2 (Int.le_of_lt p)
    have v := Int.mul_le_mul_of_nonneg_right z1 (Int.le_of_lt p)
    omega
  have k1 := k _ e.1 e.2
  have k2 := k _ d.1 d.2
  have m := Int.mul_le_mul y2 (show q - c.x (i - 1) ≤ 2147483648 by omega) (show 0 ≤ q - c.x (i - 1) by omega) (by omega)
  have m0 := Int.mul_nonneg y0 (show 0 ≤ q - c.x (i - 1) by omega)
  exact ⟨⟨p, p2⟩, ⟨y0, y2⟩, ⟨by omega, by omega⟩, k1, ⟨m0, by omega⟩, ⟨by omega, by omega⟩⟩

end Go.Proofs.Ytbeolonbboibfaa.Pl
