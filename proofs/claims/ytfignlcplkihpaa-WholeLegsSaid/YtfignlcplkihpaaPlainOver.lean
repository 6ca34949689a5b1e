/- Plain arithmetic of the limits of the voltage vector (chapter 22), without any program.
   Conditions: the bounds that each lemma names. -/
import Derived.Test.YtfignlcplkihpaaPlainClarke
import Derived.Test.YtfignlcplkihpaaPlainRoot
namespace Go.Proofs.Ytfignlcplkihpaa.Pl

/-- The radius of the circle inside the hexagon. -/
def rad (l : Int) : Int := (l * 37837).tdiv 65536 - 2
theorem rad_bd (l : Int) (h1 : 16 ≤ l) (h2 : l ≤ 1048576) : 7 ≤ rad l ∧ rad l ≤ 605390 ∧ 65536 * (rad l + 2) ≤ 37837 * l ∧ 37837 * l < 65536 * (rad l + 3) := by
  have := td (l * 37837) 65536 (by omega)
  unfold rad; omega

/-- Cauchy: a sum of two products by the two lengths. -/
theorem cauchy (p q u v k r : Int) (hk : 0 ≤ k) (hr : 0 ≤ r) (h1 : p * p + q * q ≤ k * k) (h2 : u * u + v * v ≤ r * r) : p * u + q * v ≤ k * r ∧ -(k * r) ≤ p * u + q * v := by
  have hc := sq_nonneg (p * v - q * u)
  have h0 : 0 ≤ u * u + v * v := by have := sq_nonneg u; have := sq_nonneg v; omega
  have hm := Int.mul_le_mul h1 h2 h0 (sq_nonneg k)
  have hs : (p * u + q * v) * (p * u + q * v) ≤ (k * r) * (k * r) := by grind
  have hkr := Int.mul_nonneg hk hr
  refine ⟨le_of_sq hkr hs, ?_⟩
  have := le_of_sq (a := -(p * u + q * v)) hkr (by rw [neg_sq]; exact hs)
  omega

/-- The three sums that make the span's differences. -/
theorem sums (x y : Int) : sp x y = max (x - pb x y) (max (pb x y - x) (max (pb x y - (-x - pb x y)) (max ((-x - pb x y) - pb x y) (max (x - (-x - pb x y)) ((-x - pb x y) - x))))) := by
  unfold sp; exact sp_eq _ _ _

theorem sp_of (x y K : Int) (h1 : 196608 * x - 113511 * y ≤ K) (h2 : -K ≤ 196608 * x - 113511 * y) (h3 : 227022 * y ≤ K) (h4 : -K ≤ 227022 * y)
    (h5 : 196608 * x + 113511 * y ≤ K) (h6 : -K ≤ 196608 * x + 113511 * y) : 131072 * sp x y ≤ K + 262142 := by
  have e := td (113511 * y - 65536 * x) 131072 (by omega)
  rw [sums]
  unfold pb
  omega

theorem of_sp (x y n : Int) (h : sp x y ≤ n) : 196608 * x - 113511 * y ≤ 131072 * n + 262142 ∧ -(131072 * n + 262142) ≤ 196608 * x - 113511 * y ∧ 227022 * y ≤ 131072 * n + 262142 ∧ -(131072 * n + 262142) ≤ 227022 * y ∧
    196608 * x + 113511 * y ≤ 131072 * n + 262142 ∧ -(131072 * n + 262142) ≤ 196608 * x + 113511 * y := by
  have e := td (113511 * y - 65536 * x) 131072 (by omega)
  rw [sums] at h
  unfold pb at h
  omega

/-- A vector's span, by its length. -/
theorem sp_len (x y r : Int) (hr : 0 ≤ r) (h : x * x + y * y ≤ r * r) : 131072 * sp x y ≤ 227024 * r + 262142 := by
  have a := cauchy 196608 (-113511) x y 227024 r (by omega) hr (by decide) h
  have b := cauchy 196608 113511 x y 227024 r (by omega) hr (by decide) h
  have c := cauchy 0 227022 x y 227024 r (by omega) hr (by decide) h
  exact sp_of x y (227024 * r) (by omega) (by omega) (by omega) (by omega) (by omega) (by omega)

/-- What is within the radius is inside the hexagon. -/
theorem circle_in (x y l : Int) (h1 : 16 ≤ l) (h2 : l ≤ 1048576) (h : x * x + y * y ≤ rad l * rad l) : sp x y ≤ l := by
  have r := rad_bd l h1 h2
  have s := sp_len x y (rad l) (by omega) h
  omega

/-- The quotient's remainder, in one piece. -/
theorem td_err (a n : Int) (hn : 0 < n) : n * a.tdiv n - a < n ∧ a - n * a.tdiv n < n := by
  rcases td a n hn with h | h <;> omega

/-- A vector shortened by m / n: its linear forms. -/
theorem form (p q P Q x y u v m n B : Int) (hp : -P ≤ p ∧ p ≤ P) (hq : -Q ≤ q ∧ q ≤ Q) (hm : 0 ≤ m) (hmn : m ≤ n) (hn : 0 < n)
    (hu : n * u - x * m < n ∧ x * m - n * u < n) (hv : n * v - y * m < n ∧ y * m - n * v < n) (hB : 0 ≤ B) (h : p * x + q * y ≤ 131072 * n + B) :
    p * u + q * v ≤ 131072 * m + B + P + Q := by
  have k : ∀ z t, -n < t → t < n → ∀ Z, -Z ≤ z → z ≤ Z → z * t ≤ Z * n := by
    intro z t h1 h2 Z h3 h4
    rcases Int.le_total 0 z with hz | hz
    · have a := Int.mul_le_mul_of_nonneg_left (show t ≤ n by omega) hz
      have b := Int.mul_le_mul_of_nonneg_right h4 (show 0 ≤ n by omega)
      omega
    · have a := Int.mul_le_mul_of_nonneg_left (show -t ≤ n by omega) (show 0 ≤ -z by omega)
      have b := Int.mul_le_mul_of_nonneg_right (show -z ≤ Z by omega) (show 0 ≤ n by omega)
      rw [Int.neg_mul_neg] at a
      omega
  have a := k p (n * u - x * m) (by omega) (by omega) P hp.1 hp.2
  have b := k q (n * v - y * m) (by omega) (by omega) Q hq.1 hq.2
  have c := Int.mul_le_mul_of_nonneg_left h hm
  have d := Int.mul_le_mul_of_nonneg_left hmn hB
  refine Int.le_of_mul_le_mul_left (a := n) ?_ hn
  grind

/-- The hexagon's result is inside. -/
theorem hex_in (x y l : Int) (h1 : 16 ≤ l) (hl : l < sp x y) :
    sp ((x * (l - 8)).tdiv (sp x y)) ((y * (l - 8)).tdiv (sp x y)) ≤ l := by
  have o := of_sp x y (sp x y) (Int.le_refl _)
  obtain ⟨n, hn⟩ : ∃ n, n = sp x y := ⟨_, rfl⟩
  rw [← hn] at hl o ⊢
  have eu := td_err (x * (l - 8)) n (by omega)
  have ev := td_err (y * (l - 8)) n (by omega)
  generalize (x * (l - 8)).tdiv n = u at *
  generalize (y * (l - 8)).tdiv n = v at *
  have f1 := form 196608 (-113511) 196608 113511 x y u v (l - 8) n 262142 (by omega) (by omega) (by omega) (by omega) (by omega) eu ev (by omega) (by omega)
  have f2 := form (-196608) 113511 196608 113511 x y u v (l - 8) n 262142 (by omega) (by omega) (by omega) (by omega) (by omega) eu ev (by omega) (by omega)
  have f3 := form 0 227022 0 227022 x y u v (l - 8) n 262142 (by omega) (by omega) (by omega) (by omega) (by omega) eu ev (by omega) (by omega)
  have f4 := form 0 (-227022) 0 227022 x y u v (l - 8) n 262142 (by omega) (by omega) (by omega) (by omega) (by omega) eu ev (by omega) (by omega)
  have f5 := form 196608 113511 196608 113511 x y u v (l - 8) n 262142 (by omega) (by omega) (by omega) (by omega) (by omega) eu ev (by omega) (by omega)
  have f6 := form (-196608) (-113511) 196608 113511 x y u v (l - 8) n 262142 (by omega) (by omega) (by omega) (by omega) (by omega) eu ev (by omega) (by omega)
  have s := sp_of u v (131072 * (l - 8) + 572261) (by omega) (by omega) (by omega) (by omega) (by omega) (by omega)
  omega

/-- The direction is kept. -/
theorem direct (x y u v m n : Int) (hn : 0 < n) (hu : n * u - x * m < n ∧ x * m - n * u < n) (hv : n * v - y * m < n ∧ y * m - n * v < n) :
    max (x * v - y * u) (-(x * v - y * u)) ≤ max x (-x) + max y (-y) := by
  have k : ∀ z t, -n < t → t < n → z * t ≤ n * max z (-z) ∧ -(n * max z (-z)) ≤ z * t := by
    intro z t h1 h2
    rcases Int.le_total 0 z with hz | hz
    · have e : max z (-z) = z := by omega
      rw [e, Int.mul_comm n z]
      have a := Int.mul_le_mul_of_nonneg_left (show t ≤ n by omega) hz
      have b := Int.mul_le_mul_of_nonneg_left (show -n ≤ t by omega) hz
      rw [Int.mul_neg] at b
      omega
    · have e : max z (-z) = -z := by omega
      rw [e]
      have a := Int.mul_le_mul_of_nonneg_left (show t ≤ n by omega) (show 0 ≤ -z by omega)
      have b := Int.mul_le_mul_of_nonneg_left (show -n ≤ t by omega) (show 0 ≤ -z by omega)
      rw [Int.mul_comm n (-z)]
      rw [Int.mul_neg, Int.neg_mul, Int.neg_mul] at b
      rw [Int.neg_mul, Int.neg_mul] at a
      rw [Int.neg_mul]
      omega
  have a := k x (n * v - y * m) (by omega) (by omega)
  have b := k y (n * u - x * m) (by omega) (by omega)
  have e : n * (x * v - y * u) = x * (n * v - y * m) - y * (n * u - x * m) := by grind
  have s1 : x * v - y * u ≤ max x (-x) + max y (-y) := by
    refine Int.le_of_mul_le_mul_left (a := n) ?_ hn
    rw [Int.mul_add]; omega
  have s2 : -(x * v - y * u) ≤ max x (-x) + max y (-y) := by
    refine Int.le_of_mul_le_mul_left (a := n) ?_ hn
    rw [Int.mul_add, Int.mul_neg]; omega
  omega

/-- A vector that was shortened by m / n is as long as m / n of it, less 2. -/
theorem short (x y m n L : Int) (_hm : 0 ≤ m) (hn : 0 < n) (_hL : 1 ≤ L) (hlow : (L - 1) * (L - 1) ≤ x * x + y * y) (B : Int) (hB : 2 ≤ B)
    (hb : (x * m).tdiv n * (x * m).tdiv n + (y * m).tdiv n * (y * m).tdiv n ≤ (B - 2) * (B - 2)) : m * (L - 1) ≤ n * B := by
  have key : ∀ z : Int, ∃ U : Int, 0 ≤ U ∧ U * U = (z * m).tdiv n * (z * m).tdiv n ∧ (z * m) * (z * m) ≤ (n * (U + 1)) * (n * (U + 1)) := by
    intro z
    rcases td (z * m) n (by omega) with ⟨h0, h1, _, h3⟩ | ⟨h0, h1, _, h3⟩
    · refine ⟨(z * m).tdiv n, h1, rfl, sq_mono h0 ?_⟩
      rw [Int.mul_add, Int.mul_one]; omega
    · refine ⟨-(z * m).tdiv n, by omega, neg_sq _, ?_⟩
      have := sq_mono (a := -(z * m)) (b := n * (-(z * m).tdiv n + 1)) (by omega) (by rw [Int.mul_add, Int.mul_one, Int.mul_neg]; omega)
      rw [neg_sq] at this; exact this
  obtain ⟨U, hU0, hU1, hU2⟩ := key x
  obtain ⟨V, hV0, hV1, hV2⟩ := key y
  rw [← hU1, ← hV1] at hb
  have hUU := Int.mul_nonneg hU0 hU0
  have hVV := Int.mul_nonneg hV0 hV0
  have hUm : U ≤ B - 2 := le_of_sq (by omega) (by omega)
  have hVm : V ≤ B - 2 := le_of_sq (by omega) (by omega)
  have h7 : (U + 1) * (U + 1) + (V + 1) * (V + 1) ≤ B * B := by grind
  have h8 := Int.mul_le_mul_of_nonneg_left h7 (sq_nonneg n)
  have h9 := Int.mul_le_mul_of_nonneg_left hlow (sq_nonneg m)
  refine le_of_sq (Int.mul_nonneg (by omega) (by omega)) ?_
  grind

/-- The hexagon leaves a vector at least as long as the circle does, less 24. -/
theorem more (x y l : Int) (h1 : 16 ≤ l) (h2 : l ≤ 1048576) (hl : l < sp x y) (hr : 24 ≤ rad l) :
    (rad l - 24) * (rad l - 24) ≤ (x * (l - 8)).tdiv (sp x y) * (x * (l - 8)).tdiv (sp x y) + (y * (l - 8)).tdiv (sp x y) * (y * (l - 8)).tdiv (sp x y) := by
  have r := rad_bd l h1 h2
  have s := sp_len x y (upq (x * x + y * y)) (upq_nonneg _) (upq_ge _)
  have hL0 := upq_nonneg (x * x + y * y)
  have hL : 1 ≤ upq (x * x + y * y) := by omega
  have hn0 : 0 < x * x + y * y := by
    rcases Int.lt_or_le 0 (x * x + y * y) with q | q
    · exact q
    · have := upq_le_of (n := x * x + y * y) (b := 0) (by omega) (by omega)
      omega
  have lo := (upq_lt hn0).2
  obtain ⟨L, eL⟩ : ∃ L, L = upq (x * x + y * y) := ⟨_, rfl⟩
  rw [← eL] at s hL lo
  obtain ⟨n, en⟩ : ∃ n, n = sp x y := ⟨_, rfl⟩
  rw [← en] at hl s ⊢
  rcases Int.lt_or_le ((x * (l - 8)).tdiv n * (x * (l - 8)).tdiv n + (y * (l - 8)).tdiv n * (y * (l - 8)).tdiv n) ((rad l - 24) * (rad l - 24)) with g | g
  rotate_left
  · exact g
  exfalso
  have e : rad l - 24 = (rad l - 22) - 2 := by omega
  rw [e] at g
  have sh := short x y (l - 8) n L (by omega) (by omega) hL (by omega) (rad l - 22) (by omega) (by omega)
  obtain ⟨B, eB⟩ : ∃ B, B = rad l - 22 := ⟨_, rfl⟩
  rw [← eB] at sh
  -- n B is less than (l - 8) (L - 1)
  have a1 := Int.mul_le_mul_of_nonneg_right s (show 0 ≤ B by omega)
  have a2 : 65536 * B ≤ 37837 * l - 1572864 := by omega
  have a3 := Int.mul_le_mul_of_nonneg_left a2 (show 0 ≤ 227024 * L + 262142 by omega)
  have e1 : 131072 * n * B = 131072 * (n * B) := by rw [Int.mul_assoc]
  have e2 : (227024 * L + 262142) * (65536 * B) = 65536 * ((227024 * L + 262142) * B) := by rw [← Int.mul_assoc, Int.mul_comm _ 65536, Int.mul_assoc]
  have e3 : (227024 * L + 262142) * (37837 * l - 1572864) = 8589907088 * (L * l) - 357077876736 * L + 9918666854 * l - 412313714688 := by grind
  have e4 : (l - 8) * (L - 1) = L * l - l - 8 * L + 8 := by grind
  have e5 : 0 ≤ L * l := Int.mul_nonneg (by omega) (by omega)
  rw [e1] at a1
  rw [e2, e3] at a3
  rw [e4] at sh
  omega

/-- The square of a shortened coordinate is no greater. -/
theorem sq_abs {a b : Int} (h : max a (-a) ≤ max b (-b)) : a * a ≤ b * b := by
  have := sq_mono (a := max a (-a)) (b := max b (-b)) (by omega) h
  have e : ∀ z : Int, max z (-z) * max z (-z) = z * z := by
    intro z
    rcases Int.le_total 0 z with hz | hz
    · have : max z (-z) = z := by omega
      rw [this]
    · have : max z (-z) = -z := by omega
      rw [this, neg_sq]
  rw [e, e] at this; exact this

end Go.Proofs.Ytfignlcplkihpaa.Pl
