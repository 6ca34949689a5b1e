/- The contracts of package root's functions, each walked once.
   Conditions: the bounds that each names. -/
import Derived.Test.YtfignlcplkihpaaFrame
import Derived.Test.YtfignlcplkihpaaPlainRoot
import Derived.Laws.BitsLemmas
namespace Go.Proofs.Ytfignlcplkihpaa
open Go.ChangeShapes Go.WideShapes Go.ChangeAt Go.RowKit

/-- The step of the search for a root behind k rounds. -/
def pw (k : Nat) : Int := ((2 ^ (32 - k) : Nat) : Int)
/-- The bit of round k: half the step; 0 behind the last. -/
def bt (k : Nat) : Int := if k < 32 then pw (k + 1) else 0

theorem pw_succ {k : Nat} (h : k < 32) : pw k = 2 * pw (k + 1) := by
  unfold pw
  have : 32 - k = (32 - (k + 1)) + 1 := by omega
  rw [this, Nat.pow_succ]; omega
theorem pw_pos (k : Nat) : 0 < pw k := by
  unfold pw
  have := Nat.two_pow_pos (32 - k)
  omega
theorem pw_le (k : Nat) : pw k ≤ 4294967296 := by
  unfold pw
  have : 2 ^ (32 - k) ≤ 2 ^ 32 := Nat.pow_le_pow_right (by omega) (by omega)
  omega
theorem pw_0 : pw 0 = 4294967296 := by decide
theorem pw_32 : pw 32 = 1 := by decide
theorem bt_lt {k : Nat} (h : k < 32) : bt k = pw (k + 1) := by unfold bt; rw [if_pos h]
theorem bt_32 : bt 32 = 0 := by decide
theorem bt_half {k : Nat} (h : k < 32) : pw (k + 1) / 2 = bt (k + 1) := by
  rcases Nat.lt_or_ge (k + 1) 32 with h1 | h1
  · rw [bt_lt h1, pw_succ h1]; omega
  · have : k + 1 = 32 := by omega
    rw [this, bt_32, pw_32]; decide

/-- What the search knows behind k rounds. -/
def Inv (n : Int) (k : Nat) (r : Int) : Prop := 0 ≤ r ∧ r * r ≤ n ∧ n < (r + pw k) * (r + pw k) ∧ r + pw k ≤ 4294967296 ∧ ∃ q, r = pw k * q

theorem inv_0 {n : Int} (h0 : 0 ≤ n) (h1 : n ≤ 9223372036854775807) : Inv n 0 0 := by
  rw [Inv, pw_0]
  exact ⟨by omega, by omega, by omega, by omega, 0, by omega⟩
theorem inv_take {n r : Int} {k : Nat} (hk : k < 32) (h : Inv n k r) (ht : (r + pw (k + 1)) * (r + pw (k + 1)) ≤ n) : Inv n (k + 1) (r + pw (k + 1)) := by
  obtain ⟨h0, h1, h2, h3, q, hq⟩ := h
  have hp := pw_pos (k + 1)
  have e := pw_succ hk
  rw [e] at h2 h3 hq
  refine ⟨by omega, ht, ?_, by omega, 2 * q + 1, ?_⟩
  · have : r + pw (k + 1) + pw (k + 1) = r + 2 * pw (k + 1) := by omega
    rw [this]; exact h2
  · rw [hq, Int.mul_add, Int.mul_one, Int.mul_comm 2, Int.mul_assoc]
theorem inv_skip {n r : Int} {k : Nat} (hk : k < 32) (h : Inv n k r) (ht : n < (r + pw (k + 1)) * (r + pw (k + 1))) : Inv n (k + 1) r := by
  obtain ⟨h0, h1, h2, h3, q, hq⟩ := h
  have hp := pw_pos (k + 1)
  have e := pw_succ hk
  rw [e] at h3 hq
  exact ⟨h0, h1, ht, by omega, 2 * q, by rw [hq, Int.mul_comm 2, Int.mul_assoc]⟩
theorem inv_end {n r : Int} (h0 : 0 ≤ n) (h : Inv n 32 r) : r = Pl.isq n := by
  obtain ⟨h1, h2, h3, _⟩ := h
  rw [pw_32] at h3
  exact Pl.isq_unique h0 h1 h2 h3

theorem wraps_i64 (n : Int) (h₀ : 0 ≤ n) (h₁ : n < 2 ^ 33) : IntKind.i64.wrap n = n := by rw [IntKind.wrap_i64]; omega
/-- The bit is not yet in the number: '|' adds it. -/
theorem or_bit {n r : Int} {k : Nat} (hk : k < 32) (h : Inv n k r) : bits .or .i64 r (pw (k + 1)) = r + pw (k + 1) := by
  obtain ⟨h0, _, _, h3, q, hq⟩ := h
  have hp := pw_pos (k + 1)
  have hp0 := pw_pos k
  have e := pw_succ hk
  have h1 : r % 2 ^ (32 - k) = 0 := by
    have : ((2 : Int) ^ (32 - k)) = pw k := by unfold pw; rw [Int.natCast_pow]; rfl
    rw [this, hq]; exact Int.mul_emod_right _ _
  have h2 : pw (k + 1) < 2 ^ (32 - k) := by
    have : ((2 : Int) ^ (32 - k)) = pw k := by unfold pw; rw [Int.natCast_pow]; rfl
    rw [this]; omega
  have e33 : (2 : Int) ^ 33 = 8589934592 := by decide
  exact bits_join .i64 33 (by decide) wraps_i64 (32 - k) r (pw (k + 1)) h0 h1 (by rw [e33]; omega) (by omega) h2 (by rw [e33]; omega)

theorem test_take {n m : Int} (hm : 0 < m) (h : m * m ≤ n) : m ≤ n / m := Int.le_ediv_of_mul_le hm h
theorem test_skip {n m : Int} (hm : 0 < m) (h : n < m * m) : n / m < m := Int.ediv_lt_of_lt_mul hm h

theorem sqrt_neg (n : Int) (w : World) (h : n < 0) :
    Calls Try.prog 41 #[.int .i64 n] w fun e w' => e = .returned (.int .i64 0) ∧ w = w' := by
  go_enter Try.func41, Try.ntmps41
  go_wp2
  go_ret
  exact ⟨rfl, rfl⟩

set_option maxHeartbeats 400000 in
theorem sqrt_pos (n : Int) (w : World) (h0 : 0 ≤ n) (h1 : I64 n) :
    Calls Try.prog 41 #[.int .i64 n] w fun e w' => e = .returned (.int .i64 (Pl.isq n)) ∧ w = w' := by
  have h2 : n ≤ 9223372036854775807 := h1.2
  have hi := Lib.hid (inv_0 h0 h2)
  clear h1
  go_enter Try.func41, Try.ntmps41
  go_wp2
  go_loop [3, 4] (fun r b => ∃ k : Nat, k ≤ 32 ∧ b = .int .i64 (bt k) ∧ ∃ x : Int, r = .int .i64 x ∧ Inv n k x) (fun _ b => (intOf b).toNat)
  case atStart => exact ⟨0, by omega, by rw [bt_lt (by omega)]; rfl, 0, rfl, hi.out⟩
  case round =>
    obtain ⟨k, hk, rfl, x, rfl, hI⟩ := hrel
    by_cases hlt : k < 32
    · obtain ⟨b, hb⟩ : ∃ b, b = pw (k + 1) := ⟨_, rfl⟩
      have hor := or_bit hlt hI
      have hbt := bt_lt hlt
      have hp := pw_pos (k + 1)
      have hq := pw_le (k + 1)
      have hx0 := hI.1
      have hx1 := hI.2.2.2.1
      have hs := pw_succ hlt
      have hh := bt_half hlt
      rw [← hb] at hor hbt hp hq hs hh
      rw [hbt]
      have HI := Lib.hid hI
      have HH := Lib.hid hh
      have hx2 : x + b ≤ 4294967296 := by omega
      have HB := Lib.hid hb
      clear hI hbt hs hx1 hh hb
      by_cases ht : (x + b) * (x + b) ≤ n
      · have hd := test_take (by omega) ht
        have HT := Lib.hid ht
        clear ht
        go_wp2
        go_round
        case rel => exact ⟨k + 1, by omega, by rw [HH.out], _, rfl, by have h := inv_take hlt HI.out (by rw [← HB.out]; exact HT.out); rw [← HB.out] at h; exact h⟩
        case measure => simp [intOf]; omega
      · have hd := test_skip (n := n) (m := x + b) (by omega) (by omega)
        have HT := Lib.hid ht
        clear ht
        go_wp2
        go_round
        case rel => exact ⟨k + 1, by omega, by rw [HH.out], _, rfl, inv_skip hlt HI.out (by rw [← HB.out]; have := HT.out; omega)⟩
        case measure => simp [intOf]; omega
    · obtain rfl : k = 32 := by omega
      have he := inv_end h0 hI
      rw [bt_32]
      go_wp2
      go_ret
      exact ⟨by rw [← he]; rfl, rfl⟩

set_option maxHeartbeats 400000 in
theorem rnear_ok (b len : Nat) (zs : List Int) (w : World) (hl : len ≤ 3) (hc : ∀ j, j < len → w.cell? ⟨b, j, none⟩ = some (.int .i64 (zs.getD j 0)))
    (hin : ∀ j, j < len → -1073741824 ≤ zs.getD j 0 ∧ zs.getD j 0 ≤ 1073741824) :
    Calls Try.prog 39 #[.slice (some ⟨b, 0, none⟩) len len] w fun e w' => e = .returned (.bool true) ∧ w = w' := by
  have HC := Lib.hid hc
  have HI := Lib.hid hin
  clear hc hin
  go_enter Try.func39, Try.ntmps39
  go_wp2
  go_loop [7] (fun i => ∃ k : Nat, k ≤ len ∧ i = .int .i64 k) (fun i => len - (intOf i).toNat)
  case atStart => exact ⟨0, Nat.zero_le _, rfl⟩
  case round =>
    obtain ⟨k, hk, rfl⟩ := hrel
    by_cases hlt : k < len
    · have hcell := HC.out k hlt
      obtain ⟨h1, h2⟩ := HI.out k hlt
      obtain ⟨z, hz⟩ : ∃ z, z = zs.getD k 0 := ⟨_, rfl⟩
      rw [← hz] at hcell h1 h2
      clear hz
      go_wp2
      go_round
      case rel => exact ⟨k + 1, by omega, by go_num⟩
      case measure => simp [intOf]; omega
    · go_wp2
      go_ret
      exact ⟨rfl, rfl⟩

set_option maxHeartbeats 400000 in
theorem rnear_bad (b len m : Nat) (zs : List Int) (w : World) (hl : len ≤ 3) (hm : m < len) (hc : ∀ j, j < len → w.cell? ⟨b, j, none⟩ = some (.int .i64 (zs.getD j 0)))
    (hin : ∀ j, j < m → -1073741824 ≤ zs.getD j 0 ∧ zs.getD j 0 ≤ 1073741824) (hbad : ¬ (-1073741824 ≤ zs.getD m 0 ∧ zs.getD m 0 ≤ 1073741824)) :
    Calls Try.prog 39 #[.slice (some ⟨b, 0, none⟩) len len] w fun e w' => e = .returned (.bool false) ∧ w = w' := by
  have HC := Lib.hid hc
  have HI := Lib.hid hin
  have HB := Lib.hid hbad
  clear hc hin hbad
  go_enter Try.func39, Try.ntmps39
  go_wp2
  go_loop [7] (fun i => ∃ k : Nat, k ≤ m ∧ i = .int .i64 k) (fun i => len - (intOf i).toNat)
  case atStart => exact ⟨0, Nat.zero_le _, rfl⟩
  case round =>
    obtain ⟨k, hk, rfl⟩ := hrel
    have hlt : k < len := by omega
    have hcell := HC.out k hlt
    by_cases hkm : k < m
    · obtain ⟨h1, h2⟩ := HI.out k hkm
      obtain ⟨z, hz⟩ : ∃ z, z = zs.getD k 0 := ⟨_, rfl⟩
      rw [← hz] at hcell h1 h2
      clear hz
      go_wp2
      go_round
      case rel => exact ⟨k + 1, by omega, by go_num⟩
      case measure => simp [intOf]; omega
    · obtain rfl : k = m := by omega
      have hb := HB.out
      obtain ⟨z, hz⟩ : ∃ z, z = zs.getD k 0 := ⟨_, rfl⟩
      rw [← hz] at hcell hb
      clear hz HB
      by_cases h1 : z < -1073741824
      · go_wp2
        go_ret
        exact ⟨rfl, rfl⟩
      · have h2 : 1073741824 < z := by omega
        go_wp2
        go_ret
        exact ⟨rfl, rfl⟩

theorem rnear3_ok (b : Nat) (x y z : Int) (w : World) (h0 : w.cell? ⟨b, 0, none⟩ = some (.int .i64 x)) (h1 : w.cell? ⟨b, 1, none⟩ = some (.int .i64 y)) (h2 : w.cell? ⟨b, 2, none⟩ = some (.int .i64 z))
    (hx : In30 x) (hy : In30 y) (hz : In30 z) :
    Calls Try.prog 39 #[.slice (some ⟨b, 0, none⟩) 3 3] w fun e w' => e = .returned (.bool true) ∧ w = w' :=
  rnear_ok b 3 [x, y, z] w (by omega)
    (fun j hj => by match j, hj with | 0, _ => exact h0 | 1, _ => exact h1 | 2, _ => exact h2)
    (fun j hj => by match j, hj with | 0, _ => exact hx | 1, _ => exact hy | 2, _ => exact hz)

theorem rnear3_bad (b : Nat) (x y z : Int) (w : World) (h0 : w.cell? ⟨b, 0, none⟩ = some (.int .i64 x)) (h1 : w.cell? ⟨b, 1, none⟩ = some (.int .i64 y)) (h2 : w.cell? ⟨b, 2, none⟩ = some (.int .i64 z))
    (h : ¬ (In30 x ∧ In30 y ∧ In30 z)) :
    Calls Try.prog 39 #[.slice (some ⟨b, 0, none⟩) 3 3] w fun e w' => e = .returned (.bool false) ∧ w = w' := by
  have hc : ∀ j, j < 3 → w.cell? ⟨b, j, none⟩ = some (.int .i64 ([x, y, z].getD j 0)) :=
    fun j hj => by match j, hj with | 0, _ => exact h0 | 1, _ => exact h1 | 2, _ => exact h2
  by_cases hx : In30 x
  · by_cases hy : In30 y
    · exact rnear_bad b 3 2 [x, y, z] w (by omega) (by omega) hc (fun j hj => by match j, hj with | 0, _ => exact hx | 1, _ => exact hy) (fun hz => h ⟨hx, hy, hz⟩)
    · exact rnear_bad b 3 1 [x, y, z] w (by omega) (by omega) hc (fun j hj => by match j, hj with | 0, _ => exact hx) hy
  · exact rnear_bad b 3 0 [x, y, z] w (by omega) (by omega) hc (fun j hj => absurd hj (by omega)) hx

theorem rnear2_ok (b : Nat) (x y : Int) (w : World) (h0 : w.cell? ⟨b, 0, none⟩ = some (.int .i64 x)) (h1 : w.cell? ⟨b, 1, none⟩ = some (.int .i64 y))
    (hx : In30 x) (hy : In30 y) :
    Calls Try.prog 39 #[.slice (some ⟨b, 0, none⟩) 2 2] w fun e w' => e = .returned (.bool true) ∧ w = w' :=
  rnear_ok b 2 [x, y] w (by omega)
    (fun j hj => by match j, hj with | 0, _ => exact h0 | 1, _ => exact h1)
    (fun j hj => by match j, hj with | 0, _ => exact hx | 1, _ => exact hy)

theorem rnear2_bad (b : Nat) (x y : Int) (w : World) (h0 : w.cell? ⟨b, 0, none⟩ = some (.int .i64 x)) (h1 : w.cell? ⟨b, 1, none⟩ = some (.int .i64 y))
    (h : ¬ (In30 x ∧ In30 y)) :
    Calls Try.prog 39 #[.slice (some ⟨b, 0, none⟩) 2 2] w fun e w' => e = .returned (.bool false) ∧ w = w' := by
  have hc : ∀ j, j < 2 → w.cell? ⟨b, j, none⟩ = some (.int .i64 ([x, y].getD j 0)) :=
    fun j hj => by match j, hj with | 0, _ => exact h0 | 1, _ => exact h1
  by_cases hx : In30 x
  · exact rnear_bad b 2 1 [x, y] w (by omega) (by omega) hc (fun j hj => by match j, hj with | 0, _ => exact hx) (fun hy => h ⟨hx, hy⟩)
  · exact rnear_bad b 2 0 [x, y] w (by omega) (by omega) hc (fun j hj => absurd hj (by omega)) hx


theorem in30_sq {x : Int} (h : In30 x) : 0 ≤ x * x ∧ x * x ≤ 1152921504606846976 := by
  have := Pl.sq_le x 1073741824 h.1 h.2
  exact ⟨Pl.sq_nonneg x, by omega⟩

theorem sqrt_any (n : Int) (w : World) (h1 : I64 n) :
    Calls Try.prog 41 #[.int .i64 n] w fun e w' => e = .returned (.int .i64 (Pl.isq n)) ∧ w = w' := by
  rcases Int.lt_or_le n 0 with h | h
  · have e := Pl.isq_neg (n := n) (by omega)
    rw [e]; exact sqrt_neg n w h
  · exact sqrt_pos n w h h1

theorem isq_bd {n : Int} (h : I64 n) : Pl.isq n ≤ 3037000500 :=
  Pl.isq_le_of (by omega) (by have := h.2; omega)

theorem i64_of {x : Int} (a : -2305843009213693952 ≤ x) (b : x ≤ 2305843009213693952) : I64 x := ⟨by omega, by omega⟩

theorem up_any (n : Int) (w : World) (h1 : I64 n) :
    Calls Try.prog 40 #[.int .i64 n] w fun e w' => e = .returned (.int .i64 (Pl.upq n)) ∧ w = w' := by
  have hb := isq_bd h1
  have h0 := Pl.isq_nonneg n
  rcases Int.lt_or_le 0 n with hn | hn
  · have hs := Pl.isq_le (n := n) (by omega)
    have hs0 := Int.mul_nonneg h0 h0
    have hn2 := h1.2
    by_cases hc : Pl.isq n * Pl.isq n < n
    · have e : Pl.upq n = Pl.isq n + 1 := by unfold Pl.upq; rw [if_pos ⟨hn, hc⟩]
      rw [e]
      obtain ⟨r, hr⟩ : ∃ r, r = Pl.isq n := ⟨_, rfl⟩
      rw [← hr] at hb h0 hs hs0 hc ⊢
      have HR := Lib.hid hr
      have H1 := Lib.hid h1
      clear hr e h1
      go_enter Try.func40, Try.ntmps40
      go_wp2_with (go_at_call 41; refine (sqrt_any n _ H1.out).mono ?_; rw [← HR.out]; rintro e w' ⟨rfl, rfl⟩)
      go_ret
      exact ⟨rfl, rfl⟩
    · have e : Pl.upq n = Pl.isq n := by unfold Pl.upq; rw [if_neg (fun h => hc h.2)]
      rw [e]
      obtain ⟨r, hr⟩ : ∃ r, r = Pl.isq n := ⟨_, rfl⟩
      rw [← hr] at hb h0 hs hs0 hc ⊢
      have hc' : n ≤ r * r := by omega
      have HR := Lib.hid hr
      have H1 := Lib.hid h1
      clear hr e h1 hc
      go_enter Try.func40, Try.ntmps40
      go_wp2_with (go_at_call 41; refine (sqrt_any n _ H1.out).mono ?_; rw [← HR.out]; rintro e w' ⟨rfl, rfl⟩)
      go_ret
      exact ⟨rfl, rfl⟩
  · have e : Pl.upq n = 0 := by unfold Pl.upq; rw [if_neg (by omega)]; exact Pl.isq_neg hn
    have e2 := Pl.isq_neg hn
    rw [e]
    have H1 := Lib.hid h1
    have E2 := Lib.hid e2
    clear h1 e e2 hb h0
    go_enter Try.func40, Try.ntmps40
    go_wp2_with (go_at_call 41; refine (sqrt_any n _ H1.out).mono ?_; rw [E2.out]; rintro e w' ⟨rfl, rfl⟩)
    go_ret
    exact ⟨rfl, rfl⟩



theorem above_ok (x y : Int) (w : World) (hx : In30 x) (hy : In30 y) :
    Calls Try.prog 34 #[.int .i64 x, .int .i64 y] w fun e w' =>
      e = .returned (.tuple #[.int .i64 (Pl.upq (x * x + y * y)), .nilIface]) ∧ Ext w w' := by
  have ⟨x1, x2⟩ := in30_sq hx
  have ⟨y1, y2⟩ := in30_sq hy
  go_enter Try.func34, Try.ntmps34
  go_wp2_with (first | (go_at_call 39; refine (rnear2_ok _ x y _ (by simp) (by simp) hx hy).mono ?_; rintro e w' ⟨rfl, rfl⟩) | (go_at_call 40; refine (up_any (x * x + y * y) _ (i64_of (by omega) (by omega))).mono ?_; rintro e w' ⟨rfl, rfl⟩))
  go_ret2
  exact ⟨rfl, (by repeat (first | with_reducible exact Ext.refl _ | with_reducible assumption | (with_reducible refine Ext.drew ?_) | (with_reducible refine Ext.drewN ?_ _) | (with_reducible refine Ext.alloc ?_ _) | (with_reducible refine Ext.setCell ?_ ?_ _) | (with_reducible refine Ext.trans ?_ (by with_reducible assumption)) | omega | (focus (simp <;> omega))))⟩

theorem above_bad (x y : Int) (w : World) (h : ¬ (In30 x ∧ In30 y)) :
    Calls Try.prog 34 #[.int .i64 x, .int .i64 y] w fun e w' =>
      e = .returned (.tuple #[.int .i64 0, errv 3]) ∧ Ext w w' := by
  have H := Lib.hid h
  clear h
  rw [errv_3]
  go_enter Try.func34, Try.ntmps34
  go_wp2_with (go_at_call 39; refine (rnear2_bad _ x y _ (by simp) (by simp) H.out).mono ?_; rintro e w' ⟨rfl, rfl⟩)
  go_ret2
  exact ⟨rfl, (by repeat (first | with_reducible exact Ext.refl _ | with_reducible assumption | (with_reducible refine Ext.drew ?_) | (with_reducible refine Ext.drewN ?_ _) | (with_reducible refine Ext.alloc ?_ _) | (with_reducible refine Ext.setCell ?_ ?_ _) | (with_reducible refine Ext.trans ?_ (by with_reducible assumption)) | omega | (focus (simp <;> omega))))⟩




def WithinOK (x y m : Int) : Prop := In30 x ∧ In30 y ∧ In30 m ∧ 0 ≤ m

theorem within_yes (x y m : Int) (w : World) (h : WithinOK x y m) (hin : x * x + y * y ≤ m * m) :
    Calls Try.prog 33 #[.int .i64 x, .int .i64 y, .int .i64 m] w fun e w' =>
      e = .returned (.tuple #[.bool true, .nilIface]) ∧ Ext w w' := by
  obtain ⟨hx, hy, hm, h0⟩ := h
  have ⟨x1, x2⟩ := in30_sq hx
  have ⟨y1, y2⟩ := in30_sq hy
  have ⟨m1, m2⟩ := in30_sq hm
  go_enter Try.func33, Try.ntmps33
  go_wp2_with (go_at_call 39; refine (rnear3_ok _ x y m _ (by simp) (by simp) (by simp) hx hy hm).mono ?_; rintro e w' ⟨rfl, rfl⟩)
  go_ret2
  exact ⟨rfl, (by repeat (first | with_reducible exact Ext.refl _ | with_reducible assumption | (with_reducible refine Ext.drew ?_) | (with_reducible refine Ext.drewN ?_ _) | (with_reducible refine Ext.alloc ?_ _) | (with_reducible refine Ext.setCell ?_ ?_ _) | (with_reducible refine Ext.trans ?_ (by with_reducible assumption)) | omega | (focus (simp <;> omega))))⟩

theorem within_no (x y m : Int) (w : World) (h : WithinOK x y m) (hin : m * m < x * x + y * y) :
    Calls Try.prog 33 #[.int .i64 x, .int .i64 y, .int .i64 m] w fun e w' =>
      e = .returned (.tuple #[.bool false, .nilIface]) ∧ Ext w w' := by
  obtain ⟨hx, hy, hm, h0⟩ := h
  have ⟨x1, x2⟩ := in30_sq hx
  have ⟨y1, y2⟩ := in30_sq hy
  have ⟨m1, m2⟩ := in30_sq hm
  have hd : decide (x * x + y * y ≤ m * m) = false := decide_eq_false (by omega)
  go_enter Try.func33, Try.ntmps33
  go_wp2_with (go_at_call 39; refine (rnear3_ok _ x y m _ (by simp) (by simp) (by simp) hx hy hm).mono ?_; rintro e w' ⟨rfl, rfl⟩)
  go_ret2
  exact ⟨rfl, (by repeat (first | with_reducible exact Ext.refl _ | with_reducible assumption | (with_reducible refine Ext.drew ?_) | (with_reducible refine Ext.drewN ?_ _) | (with_reducible refine Ext.alloc ?_ _) | (with_reducible refine Ext.setCell ?_ ?_ _) | (with_reducible refine Ext.trans ?_ (by with_reducible assumption)) | omega | (focus (simp <;> omega))))⟩

theorem within_bad (x y m : Int) (w : World) (h : ¬ WithinOK x y m) :
    Calls Try.prog 33 #[.int .i64 x, .int .i64 y, .int .i64 m] w fun e w' =>
      e = .returned (.tuple #[.bool false, errv 3]) ∧ Ext w w' := by
  rw [errv_3]
  by_cases hn : In30 x ∧ In30 y ∧ In30 m
  · have ⟨hx, hy, hm⟩ := hn
    have h0 : m < 0 := by
      have : ¬ 0 ≤ m := fun q => h ⟨hx, hy, hm, q⟩
      omega
    clear h hn
    go_enter Try.func33, Try.ntmps33
    go_wp2_with (go_at_call 39; refine (rnear3_ok _ x y m _ (by simp) (by simp) (by simp) hx hy hm).mono ?_; rintro e w' ⟨rfl, rfl⟩)
    go_ret2
    exact ⟨rfl, (by repeat (first | with_reducible exact Ext.refl _ | with_reducible assumption | (with_reducible refine Ext.drew ?_) | (with_reducible refine Ext.drewN ?_ _) | (with_reducible refine Ext.alloc ?_ _) | (with_reducible refine Ext.setCell ?_ ?_ _) | (with_reducible refine Ext.trans ?_ (by with_reducible assumption)) | omega | (focus (simp <;> omega))))⟩
  · have H := Lib.hid hn
    clear hn h
    go_enter Try.func33, Try.ntmps33
    go_wp2_with (go_at_call 39; refine (rnear3_bad _ x y m _ (by simp) (by simp) (by simp) H.out).mono ?_; rintro e w' ⟨rfl, rfl⟩)
    go_ret2
    exact ⟨rfl, (by repeat (first | with_reducible exact Ext.refl _ | with_reducible assumption | (with_reducible refine Ext.drew ?_) | (with_reducible refine Ext.drewN ?_ _) | (with_reducible refine Ext.alloc ?_ _) | (with_reducible refine Ext.setCell ?_ ?_ _) | (with_reducible refine Ext.trans ?_ (by with_reducible assumption)) | omega | (focus (simp <;> omega))))⟩

theorem mul_bd {x m : Int} (hx : In30 x) (hm : In30 m) : -1152921504606846976 ≤ x * m ∧ x * m ≤ 1152921504606846976 := by
  have h1 := (in30_sq hx).2
  have h2 := (in30_sq hm).2
  have a := Pl.sq_nonneg (x + m)
  have b := Pl.sq_nonneg (x - m)
  have ea : (x + m) * (x + m) = x * x + 2 * (x * m) + m * m := by grind
  have eb : (x - m) * (x - m) = x * x - 2 * (x * m) + m * m := by grind
  omega

theorem scale_in (x y m : Int) (w : World) (h : WithinOK x y m) (hin : x * x + y * y ≤ m * m) :
    Calls Try.prog 16 #[.int .i64 x, .int .i64 y, .int .i64 m] w fun e w' =>
      e = .returned (.tuple #[.int .i64 x, .int .i64 y, .bool false, .nilIface]) ∧ Ext w w' := by
  have H := Lib.hid hin
  clear hin
  go_enter Try.func16, Try.ntmps16
  go_wp2_with (go_at_call 33; refine (within_yes x y m _ h H.out).mono ?_; rintro e w1 ⟨rfl, hx1⟩)
  go_returns
  exact ⟨rfl, (by repeat (first | with_reducible exact Ext.refl _ | with_reducible assumption | (with_reducible refine Ext.drew ?_) | (with_reducible refine Ext.drewN ?_ _) | (with_reducible refine Ext.alloc ?_ _) | (with_reducible refine Ext.setCell ?_ ?_ _) | (with_reducible refine Ext.trans ?_ (by with_reducible assumption)) | omega | (focus (simp <;> omega))))⟩

theorem scale_bad (x y m : Int) (w : World) (h : ¬ WithinOK x y m) :
    Calls Try.prog 16 #[.int .i64 x, .int .i64 y, .int .i64 m] w fun e w' =>
      e = .returned (.tuple #[.int .i64 0, .int .i64 0, .bool false, errv 3]) ∧ Ext w w' := by
  have H := Lib.hid h
  clear h
  rw [errv_3]
  go_enter Try.func16, Try.ntmps16
  go_wp2_with (go_at_call 33; refine (within_bad x y m _ H.out).mono ?_; rw [errv_3]; rintro e w1 ⟨rfl, hx1⟩)
  go_returns
  exact ⟨rfl, (by repeat (first | with_reducible exact Ext.refl _ | with_reducible assumption | (with_reducible refine Ext.drew ?_) | (with_reducible refine Ext.drewN ?_ _) | (with_reducible refine Ext.alloc ?_ _) | (with_reducible refine Ext.setCell ?_ ?_ _) | (with_reducible refine Ext.trans ?_ (by with_reducible assumption)) | omega | (focus (simp <;> omega))))⟩

theorem scale_facts {x y m : Int} (h : WithinOK x y m) (hin : m * m < x * x + y * y) :
    0 < Pl.upq (x * x + y * y) ∧ m + 1 ≤ Pl.upq (x * x + y * y) ∧ Pl.upq (x * x + y * y) ≤ 1518500250 := by
  have ⟨m1, m2⟩ := in30_sq h.2.2.1
  have ⟨x1, x2⟩ := in30_sq h.1
  have ⟨y1, y2⟩ := in30_sq h.2.1
  have h1 := Pl.upq_ge (x * x + y * y)
  have h2 := Pl.upq_nonneg (x * x + y * y)
  have h3 := Pl.lt_of_sq (a := m) (b := Pl.upq (x * x + y * y)) h2 (by omega)
  have h4 := Pl.upq_le_of (n := x * x + y * y) (b := 1518500250) (by omega) (by omega)
  have := h.2.2.2
  omega

set_option maxHeartbeats 400000 in
theorem scale_cut (x y m : Int) (w : World) (h : WithinOK x y m) (hin : m * m < x * x + y * y) :
    Calls Try.prog 16 #[.int .i64 x, .int .i64 y, .int .i64 m] w fun e w' =>
      e = .returned (.tuple #[.int .i64 ((x * m).tdiv (Pl.upq (x * x + y * y))), .int .i64 ((y * m).tdiv (Pl.upq (x * x + y * y))), .bool true, .nilIface]) ∧ Ext w w' := by
  have ⟨l0, l1, l2⟩ := scale_facts h hin
  obtain ⟨l, hl⟩ : ∃ l, l = Pl.upq (x * x + y * y) := ⟨_, rfl⟩
  rw [← hl] at l0 l1 l2 ⊢
  have ⟨hx, hy, hm, h0⟩ := h
  have bx : -1152921504606846976 ≤ x * m ∧ x * m ≤ 1152921504606846976 := mul_bd hx hm
  have by' : -1152921504606846976 ≤ y * m ∧ y * m ≤ 1152921504606846976 := mul_bd hy hm
  have qx := Pl.sc_bd x m l h0 (by omega) l0
  have qy := Pl.sc_bd y m l h0 (by omega) l0
  have ⟨hx1, hx2⟩ := hx
  have ⟨hy1, hy2⟩ := hy
  have e1 : IntKind.i64.wrap (x * m) = x * m := IntWalk.i64_in _ (by omega)
  have e2 : IntKind.i64.wrap (y * m) = y * m := IntWalk.i64_in _ (by omega)
  have e3 : IntKind.i64.wrap ((x * m).tdiv l) = (x * m).tdiv l := IntWalk.i64_in _ (by omega)
  have e4 : IntKind.i64.wrap ((y * m).tdiv l) = (y * m).tdiv l := IntWalk.i64_in _ (by omega)
  have hl0 : ¬ l = 0 := by omega
  have H := Lib.hid hin
  have HL := Lib.hid hl
  clear hin hl qx qy hx1 hx2 hy1 hy2 bx by' l1 l2
  go_enter Try.func16, Try.ntmps16
  go_wp2_with (first | (go_at_call 33; refine (within_no x y m _ h H.out).mono ?_; rintro e w1 ⟨rfl, hx1⟩) | (go_at_call 34; refine (above_ok x y _ hx hy).mono ?_; rw [← HL.out]; rintro e w2 ⟨rfl, hx2⟩))
  go_quiet (fail)
  go_wp2
  go_returns
  exact ⟨rfl, (by repeat (first | with_reducible exact Ext.refl _ | with_reducible assumption | (with_reducible refine Ext.drew ?_) | (with_reducible refine Ext.drewN ?_ _) | (with_reducible refine Ext.alloc ?_ _) | (with_reducible refine Ext.setCell ?_ ?_ _) | (with_reducible refine Ext.trans ?_ (by with_reducible assumption)) | omega | (focus (simp <;> omega))))⟩

end Go.Proofs.Ytfignlcplkihpaa
