/- The contracts of the reference of chapter 8, each walked once.
   Conditions: the bounds that each names. -/
import Derived.Test.YtpeboabgcjbjcaaRoot
namespace Go.Proofs.Ytpeboabgcjbjcaa
open Go.ChangeShapes Go.WideShapes Go.ChangeAt Go.RowKit

set_option maxHeartbeats 400000 in
theorem small_ok (b len : Nat) (zs : List Int) (w : World) (hl : len ≤ 3) (hc : ∀ j, j < len → w.cell? ⟨b, j, none⟩ = some (.int .i64 (zs.getD j 0)))
    (hin : ∀ j, j < len → -1073741824 ≤ zs.getD j 0 ∧ zs.getD j 0 ≤ 1073741824) :
    Calls Try.prog 36 #[.slice (some ⟨b, 0, none⟩) len len] w fun e w' => e = .returned (.bool true) ∧ w = w' := by
  have HC := Lib.hid hc
  have HI := Lib.hid hin
  clear hc hin
  go_enter Try.func36, Try.ntmps36
  go_wp2
  go_loop [7] (fun i => ∃ k : Nat, k ≤ len ∧ i = .int .i64 k) (fun i => len - (intOf i).toNat)
  case atStart => exact ⟨0, Nat.zero_le _, rfl⟩
  case round =>
    obtain ⟨k, hk, rfl⟩ := hrel
    by_cases hlt : k < len
    · have hcell := HC.out k hlt
      obtain ⟨h1, h2⟩ := HI.out k hlt
      obtain ⟨z, hz⟩ : ∃ z, z = zs.getD k 0 := ⟨_, rfl⟩
      rw [← hz] at hcell h1 h2
      clear hz
      go_wp2
      go_round
      case rel => exact ⟨k + 1, by omega, by go_num⟩
      case measure => simp [intOf]; omega
    · go_wp2
      go_ret
      exact ⟨rfl, rfl⟩

set_option maxHeartbeats 400000 in
theorem small_bad (b len m : Nat) (zs : List Int) (w : World) (hl : len ≤ 3) (hm : m < len) (hc : ∀ j, j < len → w.cell? ⟨b, j, none⟩ = some (.int .i64 (zs.getD j 0)))
    (hin : ∀ j, j < m → -1073741824 ≤ zs.getD j 0 ∧ zs.getD j 0 ≤ 1073741824) (hbad : ¬ (-1073741824 ≤ zs.getD m 0 ∧ zs.getD m 0 ≤ 1073741824)) :
    Calls Try.prog 36 #[.slice (some ⟨b, 0, none⟩) len len] w fun e w' => e = .returned (.bool false) ∧ w = w' := by
  have HC := Lib.hid hc
  have HI := Lib.hid hin
  have HB := Lib.hid hbad
  clear hc hin hbad
  go_enter Try.func36, Try.ntmps36
  go_wp2
  go_loop [7] (fun i => ∃ k : Nat, k ≤ m ∧ i = .int .i64 k) (fun i => len - (intOf i).toNat)
  case atStart => exact ⟨0, Nat.zero_le _, rfl⟩
  case round =>
    obtain ⟨k, hk, rfl⟩ := hrel
    have hlt : k < len := by omega
    have hcell := HC.out k hlt
    by_cases hkm : k < m
    · obtain ⟨h1, h2⟩ := HI.out k hkm
      obtain ⟨z, hz⟩ : ∃ z, z = zs.getD k 0 := ⟨_, rfl⟩
      rw [← hz] at hcell h1 h2
      clear hz
      go_wp2
      go_round
      case rel => exact ⟨k + 1, by omega, by go_num⟩
      case measure => simp [intOf]; omega
    · obtain rfl : k = m := by omega
      have hb := HB.out
      obtain ⟨z, hz⟩ : ∃ z, z = zs.getD k 0 := ⟨_, rfl⟩
      rw [← hz] at hcell hb
      clear hz HB
      by_cases h1 : 1073741824 < z
      · go_wp2
        go_ret
        exact ⟨rfl, rfl⟩
      · have h2 : z < -1073741824 := by omega
        go_wp2
        go_ret
        exact ⟨rfl, rfl⟩

theorem small3_ok (b : Nat) (x y z : Int) (w : World) (h0 : w.cell? ⟨b, 0, none⟩ = some (.int .i64 x)) (h1 : w.cell? ⟨b, 1, none⟩ = some (.int .i64 y)) (h2 : w.cell? ⟨b, 2, none⟩ = some (.int .i64 z))
    (hx : In30 x) (hy : In30 y) (hz : In30 z) :
    Calls Try.prog 36 #[.slice (some ⟨b, 0, none⟩) 3 3] w fun e w' => e = .returned (.bool true) ∧ w = w' :=
  small_ok b 3 [x, y, z] w (by omega)
    (fun j hj => by match j, hj with | 0, _ => exact h0 | 1, _ => exact h1 | 2, _ => exact h2)
    (fun j hj => by match j, hj with | 0, _ => exact hx | 1, _ => exact hy | 2, _ => exact hz)

theorem small3_bad (b : Nat) (x y z : Int) (w : World) (h0 : w.cell? ⟨b, 0, none⟩ = some (.int .i64 x)) (h1 : w.cell? ⟨b, 1, none⟩ = some (.int .i64 y)) (h2 : w.cell? ⟨b, 2, none⟩ = some (.int .i64 z))
    (h : ¬ (In30 x ∧ In30 y ∧ In30 z)) :
    Calls Try.prog 36 #[.slice (some ⟨b, 0, none⟩) 3 3] w fun e w' => e = .returned (.bool false) ∧ w = w' := by
  have hc : ∀ j, j < 3 → w.cell? ⟨b, j, none⟩ = some (.int .i64 ([x, y, z].getD j 0)) :=
    fun j hj => by match j, hj with | 0, _ => exact h0 | 1, _ => exact h1 | 2, _ => exact h2
  by_cases hx : In30 x
  · by_cases hy : In30 y
    · exact small_bad b 3 2 [x, y, z] w (by omega) (by omega) hc (fun j hj => by match j, hj with | 0, _ => exact hx | 1, _ => exact hy) (fun hz => h ⟨hx, hy, hz⟩)
    · exact small_bad b 3 1 [x, y, z] w (by omega) (by omega) hc (fun j hj => by match j, hj with | 0, _ => exact hx) hy
  · exact small_bad b 3 0 [x, y, z] w (by omega) (by omega) hc (fun j hj => absurd hj (by omega)) hx

theorem small2_ok (b : Nat) (x y : Int) (w : World) (h0 : w.cell? ⟨b, 0, none⟩ = some (.int .i64 x)) (h1 : w.cell? ⟨b, 1, none⟩ = some (.int .i64 y))
    (hx : In30 x) (hy : In30 y) :
    Calls Try.prog 36 #[.slice (some ⟨b, 0, none⟩) 2 2] w fun e w' => e = .returned (.bool true) ∧ w = w' :=
  small_ok b 2 [x, y] w (by omega)
    (fun j hj => by match j, hj with | 0, _ => exact h0 | 1, _ => exact h1)
    (fun j hj => by match j, hj with | 0, _ => exact hx | 1, _ => exact hy)

theorem small2_bad (b : Nat) (x y : Int) (w : World) (h0 : w.cell? ⟨b, 0, none⟩ = some (.int .i64 x)) (h1 : w.cell? ⟨b, 1, none⟩ = some (.int .i64 y))
    (h : ¬ (In30 x ∧ In30 y)) :
    Calls Try.prog 36 #[.slice (some ⟨b, 0, none⟩) 2 2] w fun e w' => e = .returned (.bool false) ∧ w = w' := by
  have hc : ∀ j, j < 2 → w.cell? ⟨b, j, none⟩ = some (.int .i64 ([x, y].getD j 0)) :=
    fun j hj => by match j, hj with | 0, _ => exact h0 | 1, _ => exact h1
  by_cases hx : In30 x
  · exact small_bad b 2 1 [x, y] w (by omega) (by omega) hc (fun j hj => by match j, hj with | 0, _ => exact hx) (fun hy => h ⟨hx, hy⟩)
  · exact small_bad b 2 0 [x, y] w (by omega) (by omega) hc (fun j hj => absurd hj (by omega)) hx


theorem sqrt08_neg (n : Int) (w : World) (h : n ≤ 0) :
    Calls Try.prog 37 #[.int .i64 n] w fun e w' => e = .returned (.int .i64 0) ∧ w = w' := by
  go_enter Try.func37, Try.ntmps37
  go_wp2
  go_ret
  exact ⟨rfl, rfl⟩

set_option maxHeartbeats 400000 in
theorem sqrt08_pos (n : Int) (w : World) (h0 : 0 < n) (h1 : I64 n) :
    Calls Try.prog 37 #[.int .i64 n] w fun e w' => e = .returned (.int .i64 (Pl.isq n)) ∧ w = w' := by
  have h2 : n ≤ 9223372036854775807 := h1.2
  have hi := Lib.hid (inv_0 (Int.le_of_lt h0) h2)
  clear h1
  go_enter Try.func37, Try.ntmps37
  go_wp2
  go_loop [3, 4] (fun r b => ∃ k : Nat, k ≤ 32 ∧ b = .int .i64 (bt k) ∧ ∃ x : Int, r = .int .i64 x ∧ Inv n k x) (fun _ b => (intOf b).toNat)
  case atStart => exact ⟨0, by omega, by rw [bt_lt (by omega)]; rfl, 0, rfl, hi.out⟩
  case round =>
    obtain ⟨k, hk, rfl, x, rfl, hI⟩ := hrel
    by_cases hlt : k < 32
    · obtain ⟨b, hb⟩ : ∃ b, b = pw (k + 1) := ⟨_, rfl⟩
      have hbt := bt_lt hlt
      have hp := pw_pos (k + 1)
      have hq := pw_le (k + 1)
      have hx0 := hI.1
      have hx1 := hI.2.2.2.1
      have hs := pw_succ hlt
      have hh := bt_half hlt
      rw [← hb] at hbt hp hq hs hh
      rw [hbt]
      have HI := Lib.hid hI
      have HH := Lib.hid hh
      have hx2 : x + b ≤ 4294967296 := by omega
      have HB := Lib.hid hb
      clear hI hbt hs hx1 hh hb
      have hnn := Int.mul_nonneg (show 0 ≤ x + b by omega) (show 0 ≤ x + b by omega)
      by_cases ht : (x + b) * (x + b) ≤ n
      · have hr : x + b ≤ 3037000499 := Int.le_of_lt_add_one (Pl.lt_of_sq (by omega) (by omega))
        go_wp2
        go_round
        case rel => exact ⟨k + 1, by omega, by rw [HH.out], _, rfl, by have h := inv_take hlt HI.out (by rw [← HB.out]; exact ht); rw [← HB.out] at h; exact h⟩
        case measure => simp [intOf]; omega
      · have ht' : n < (x + b) * (x + b) := by omega
        clear ht
        by_cases hr : x + b ≤ 3037000499
        · have hm := Pl.sq_mono (show 0 ≤ x + b by omega) hr
          have hm' : (x + b) * (x + b) ≤ 9223372030926249001 := by omega
          clear hm
          go_wp2
          go_round
          case rel => exact ⟨k + 1, by omega, by rw [HH.out], _, rfl, inv_skip hlt HI.out (by rw [← HB.out]; exact ht')⟩
          case measure => simp [intOf]; omega
        · have hr' : 3037000499 < x + b := by omega
          have HT := Lib.hid ht'
          clear ht' hr hnn
          go_wp2
          go_round
          case rel => exact ⟨k + 1, by omega, by rw [HH.out], _, rfl, inv_skip hlt HI.out (by rw [← HB.out]; exact HT.out)⟩
          case measure => simp [intOf]; omega
    · obtain rfl : k = 32 := by omega
      have he := inv_end (Int.le_of_lt h0) hI
      rw [bt_32]
      go_wp2
      go_ret
      exact ⟨by rw [← he]; rfl, rfl⟩

theorem sqrt08_any (n : Int) (w : World) (h1 : I64 n) :
    Calls Try.prog 37 #[.int .i64 n] w fun e w' => e = .returned (.int .i64 (Pl.isq n)) ∧ w = w' := by
  rcases Int.lt_or_le 0 n with h | h
  · exact sqrt08_pos n w h h1
  · have e := Pl.isq_neg (n := n) h
    rw [e]; exact sqrt08_neg n w h

theorem up08_any (n : Int) (w : World) (h1 : I64 n) :
    Calls Try.prog 47 #[.int .i64 n] w fun e w' => e = .returned (.int .i64 (Pl.upq n)) ∧ w = w' := by
  have hb := isq_bd h1
  have h0 := Pl.isq_nonneg n
  rcases Int.lt_or_le 0 n with hn | hn
  · have hs := Pl.isq_le (n := n) (by omega)
    have hs0 := Int.mul_nonneg h0 h0
    have hn2 := h1.2
    by_cases hc : Pl.isq n * Pl.isq n < n
    · have e : Pl.upq n = Pl.isq n + 1 := by unfold Pl.upq; rw [if_pos ⟨hn, hc⟩]
      rw [e]
      obtain ⟨r, hr⟩ : ∃ r, r = Pl.isq n := ⟨_, rfl⟩
      rw [← hr] at hb h0 hs hs0 hc ⊢
      have HR := Lib.hid hr
      have H1 := Lib.hid h1
      clear hr e h1
      go_enter Try.func47, Try.ntmps47
      go_wp2_with (go_at_call 37; refine (sqrt08_any n _ H1.out).mono ?_; rw [← HR.out]; rintro e w' ⟨rfl, rfl⟩)
      go_ret
      exact ⟨rfl, rfl⟩
    · have e : Pl.upq n = Pl.isq n := by unfold Pl.upq; rw [if_neg (fun h => hc h.2)]
      rw [e]
      obtain ⟨r, hr⟩ : ∃ r, r = Pl.isq n := ⟨_, rfl⟩
      rw [← hr] at hb h0 hs hs0 hc ⊢
      have hc' : n ≤ r * r := by omega
      have HR := Lib.hid hr
      have H1 := Lib.hid h1
      clear hr e h1 hc
      go_enter Try.func47, Try.ntmps47
      go_wp2_with (go_at_call 37; refine (sqrt08_any n _ H1.out).mono ?_; rw [← HR.out]; rintro e w' ⟨rfl, rfl⟩)
      go_ret
      exact ⟨rfl, rfl⟩
  · have e : Pl.upq n = 0 := by unfold Pl.upq; rw [if_neg (by omega)]; exact Pl.isq_neg hn
    have e2 := Pl.isq_neg hn
    rw [e]
    have H1 := Lib.hid h1
    have E2 := Lib.hid e2
    clear h1 e e2 hb h0
    go_enter Try.func47, Try.ntmps47
    go_wp2_with (go_at_call 37; refine (sqrt08_any n _ H1.out).mono ?_; rw [E2.out]; rintro e w' ⟨rfl, rfl⟩)
    go_ret
    exact ⟨rfl, rfl⟩

theorem length08_ok (x y : Int) (w : World) (hx : In30 x) (hy : In30 y) :
    Calls Try.prog 21 #[.int .i64 x, .int .i64 y] w fun e w' =>
      e = .returned (.tuple #[.int .i64 (Pl.isq (x * x + y * y)), .int .i64 0]) ∧ Ext w w' := by
  have ⟨x1, x2⟩ := in30_sq hx
  have ⟨y1, y2⟩ := in30_sq hy
  go_enter Try.func21, Try.ntmps21
  go_wp2_with (first | (go_at_call 36; refine (small2_ok _ x y _ (by simp) (by simp) hx hy).mono ?_; rintro e w' ⟨rfl, rfl⟩) | (go_at_call 37; refine (sqrt08_any (x * x + y * y) _ (i64_of (by omega) (by omega))).mono ?_; rintro e w' ⟨rfl, rfl⟩))
  go_ret2
  exact ⟨rfl, (by repeat (first | with_reducible exact Ext.refl _ | with_reducible assumption | (with_reducible refine Ext.drew ?_) | (with_reducible refine Ext.drewN ?_ _) | (with_reducible refine Ext.alloc ?_ _) | (with_reducible refine Ext.setCell ?_ ?_ _) | (with_reducible refine Ext.trans ?_ (by with_reducible assumption)) | omega | (focus (simp <;> omega))))⟩

theorem length08_bad (x y : Int) (w : World) (h : ¬ (In30 x ∧ In30 y)) :
    Calls Try.prog 21 #[.int .i64 x, .int .i64 y] w fun e w' =>
      e = .returned (.tuple #[.int .i64 0, .int .i64 3]) ∧ Ext w w' := by
  have H := Lib.hid h
  clear h
  go_enter Try.func21, Try.ntmps21
  go_wp2_with (go_at_call 36; refine (small2_bad _ x y _ (by simp) (by simp) H.out).mono ?_; rintro e w' ⟨rfl, rfl⟩)
  go_ret2
  exact ⟨rfl, (by repeat (first | with_reducible exact Ext.refl _ | with_reducible assumption | (with_reducible refine Ext.drew ?_) | (with_reducible refine Ext.drewN ?_ _) | (with_reducible refine Ext.alloc ?_ _) | (with_reducible refine Ext.setCell ?_ ?_ _) | (with_reducible refine Ext.trans ?_ (by with_reducible assumption)) | omega | (focus (simp <;> omega))))⟩



theorem rest08_ok (m d : Int) (w : World) (h : RestOK m d) :
    Calls Try.prog 42 #[.int .i64 m, .int .i64 d] w fun e w' =>
      e = .returned (.tuple #[.int .i64 (rst m d), .int .i64 0]) ∧ Ext w w' := by
  obtain ⟨hm, hd, h0, h1, h2⟩ := h
  have ⟨x1, x2⟩ := in30_sq hm
  have ⟨y1, y2⟩ := in30_sq hd
  have ⟨m1, m2⟩ := hm
  unfold rst
  go_enter Try.func42, Try.ntmps42
  go_wp2_with (first | (go_at_call 36; refine (small2_ok _ m d _ (by simp) (by simp) hm hd).mono ?_; rintro e w' ⟨rfl, rfl⟩) | (go_at_call 37; refine (sqrt08_any (m * m - d * d) _ (i64_of (by omega) (by omega))).mono ?_; rintro e w' ⟨rfl, rfl⟩))
  go_ret2
  exact ⟨rfl, (by repeat (first | with_reducible exact Ext.refl _ | with_reducible assumption | (with_reducible refine Ext.drew ?_) | (with_reducible refine Ext.drewN ?_ _) | (with_reducible refine Ext.alloc ?_ _) | (with_reducible refine Ext.setCell ?_ ?_ _) | (with_reducible refine Ext.trans ?_ (by with_reducible assumption)) | omega | (focus (simp <;> omega))))⟩

theorem rest08_bad (m d : Int) (w : World) (h : ¬ RestOK m d) :
    Calls Try.prog 42 #[.int .i64 m, .int .i64 d] w fun e w' =>
      e = .returned (.tuple #[.int .i64 0, .int .i64 3]) ∧ Ext w w' := by
  by_cases hn : In30 m ∧ In30 d
  · have ⟨hm, hd⟩ := hn
    have hc : m < 0 ∨ (0 ≤ m ∧ m < d) ∨ (0 ≤ m ∧ d ≤ m ∧ d < -m) := by
      have : ¬ (0 ≤ m ∧ d ≤ m ∧ -m ≤ d) := fun q => h ⟨hm, hd, q⟩
      omega
    have ⟨d1, d2⟩ := hd
    have ⟨m1, m2⟩ := hm
    clear h hn
    rcases hc with h1 | ⟨h1, h2⟩ | ⟨h1, h2, h3⟩
    · go_enter Try.func42, Try.ntmps42
      go_wp2_with (go_at_call 36; refine (small2_ok _ m d _ (by simp) (by simp) hm hd).mono ?_; rintro e w' ⟨rfl, rfl⟩)
      go_ret2
      exact ⟨rfl, (by repeat (first | with_reducible exact Ext.refl _ | with_reducible assumption | (with_reducible refine Ext.drew ?_) | (with_reducible refine Ext.drewN ?_ _) | (with_reducible refine Ext.alloc ?_ _) | (with_reducible refine Ext.setCell ?_ ?_ _) | (with_reducible refine Ext.trans ?_ (by with_reducible assumption)) | omega | (focus (simp <;> omega))))⟩
    · go_enter Try.func42, Try.ntmps42
      go_wp2_with (go_at_call 36; refine (small2_ok _ m d _ (by simp) (by simp) hm hd).mono ?_; rintro e w' ⟨rfl, rfl⟩)
      go_ret2
      exact ⟨rfl, (by repeat (first | with_reducible exact Ext.refl _ | with_reducible assumption | (with_reducible refine Ext.drew ?_) | (with_reducible refine Ext.drewN ?_ _) | (with_reducible refine Ext.alloc ?_ _) | (with_reducible refine Ext.setCell ?_ ?_ _) | (with_reducible refine Ext.trans ?_ (by with_reducible assumption)) | omega | (focus (simp <;> omega))))⟩
    · go_enter Try.func42, Try.ntmps42
      go_wp2_with (go_at_call 36; refine (small2_ok _ m d _ (by simp) (by simp) hm hd).mono ?_; rintro e w' ⟨rfl, rfl⟩)
      go_ret2
      exact ⟨rfl, (by repeat (first | with_reducible exact Ext.refl _ | with_reducible assumption | (with_reducible refine Ext.drew ?_) | (with_reducible refine Ext.drewN ?_ _) | (with_reducible refine Ext.alloc ?_ _) | (with_reducible refine Ext.setCell ?_ ?_ _) | (with_reducible refine Ext.trans ?_ (by with_reducible assumption)) | omega | (focus (simp <;> omega))))⟩
  · have H := Lib.hid hn
    clear hn h
    go_enter Try.func42, Try.ntmps42
    go_wp2_with (go_at_call 36; refine (small2_bad _ m d _ (by simp) (by simp) H.out).mono ?_; rintro e w' ⟨rfl, rfl⟩)
    go_ret2
    exact ⟨rfl, (by repeat (first | with_reducible exact Ext.refl _ | with_reducible assumption | (with_reducible refine Ext.drew ?_) | (with_reducible refine Ext.drewN ?_ _) | (with_reducible refine Ext.alloc ?_ _) | (with_reducible refine Ext.setCell ?_ ?_ _) | (with_reducible refine Ext.trans ?_ (by with_reducible assumption)) | omega | (focus (simp <;> omega))))⟩

theorem within08_yes (x y m : Int) (w : World) (h : WithinOK x y m) (hin : x * x + y * y ≤ m * m) :
    Calls Try.prog 46 #[.int .i64 x, .int .i64 y, .int .i64 m] w fun e w' =>
      e = .returned (.tuple #[.bool true, .int .i64 0]) ∧ Ext w w' := by
  obtain ⟨hx, hy, hm, h0⟩ := h
  have ⟨x1, x2⟩ := in30_sq hx
  have ⟨y1, y2⟩ := in30_sq hy
  have ⟨m1, m2⟩ := in30_sq hm
  go_enter Try.func46, Try.ntmps46
  go_wp2_with (go_at_call 36; refine (small3_ok _ x y m _ (by simp) (by simp) (by simp) hx hy hm).mono ?_; rintro e w' ⟨rfl, rfl⟩)
  go_ret2
  exact ⟨rfl, (by repeat (first | with_reducible exact Ext.refl _ | with_reducible assumption | (with_reducible refine Ext.drew ?_) | (with_reducible refine Ext.drewN ?_ _) | (with_reducible refine Ext.alloc ?_ _) | (with_reducible refine Ext.setCell ?_ ?_ _) | (with_reducible refine Ext.trans ?_ (by with_reducible assumption)) | omega | (focus (simp <;> omega))))⟩

theorem within08_no (x y m : Int) (w : World) (h : WithinOK x y m) (hin : m * m < x * x + y * y) :
    Calls Try.prog 46 #[.int .i64 x, .int .i64 y, .int .i64 m] w fun e w' =>
      e = .returned (.tuple #[.bool false, .int .i64 0]) ∧ Ext w w' := by
  obtain ⟨hx, hy, hm, h0⟩ := h
  have ⟨x1, x2⟩ := in30_sq hx
  have ⟨y1, y2⟩ := in30_sq hy
  have ⟨m1, m2⟩ := in30_sq hm
  have hd : decide (x * x + y * y ≤ m * m) = false := decide_eq_false (by omega)
  go_enter Try.func46, Try.ntmps46
  go_wp2_with (go_at_call 36; refine (small3_ok _ x y m _ (by simp) (by simp) (by simp) hx hy hm).mono ?_; rintro e w' ⟨rfl, rfl⟩)
  go_ret2
  exact ⟨rfl, (by repeat (first | with_reducible exact Ext.refl _ | with_reducible assumption | (with_reducible refine Ext.drew ?_) | (with_reducible refine Ext.drewN ?_ _) | (with_reducible refine Ext.alloc ?_ _) | (with_reducible refine Ext.setCell ?_ ?_ _) | (with_reducible refine Ext.trans ?_ (by with_reducible assumption)) | omega | (focus (simp <;> omega))))⟩

theorem within08_bad (x y m : Int) (w : World) (h : ¬ WithinOK x y m) :
    Calls Try.prog 46 #[.int .i64 x, .int .i64 y, .int .i64 m] w fun e w' =>
      e = .returned (.tuple #[.bool false, .int .i64 3]) ∧ Ext w w' := by
  by_cases hn : In30 x ∧ In30 y ∧ In30 m
  · have ⟨hx, hy, hm⟩ := hn
    have h0 : m < 0 := by
      have : ¬ 0 ≤ m := fun q => h ⟨hx, hy, hm, q⟩
      omega
    clear h hn
    go_enter Try.func46, Try.ntmps46
    go_wp2_with (go_at_call 36; refine (small3_ok _ x y m _ (by simp) (by simp) (by simp) hx hy hm).mono ?_; rintro e w' ⟨rfl, rfl⟩)
    go_ret2
    exact ⟨rfl, (by repeat (first | with_reducible exact Ext.refl _ | with_reducible assumption | (with_reducible refine Ext.drew ?_) | (with_reducible refine Ext.drewN ?_ _) | (with_reducible refine Ext.alloc ?_ _) | (with_reducible refine Ext.setCell ?_ ?_ _) | (with_reducible refine Ext.trans ?_ (by with_reducible assumption)) | omega | (focus (simp <;> omega))))⟩
  · have H := Lib.hid hn
    clear hn h
    go_enter Try.func46, Try.ntmps46
    go_wp2_with (go_at_call 36; refine (small3_bad _ x y m _ (by simp) (by simp) (by simp) H.out).mono ?_; rintro e w' ⟨rfl, rfl⟩)
    go_ret2
    exact ⟨rfl, (by repeat (first | with_reducible exact Ext.refl _ | with_reducible assumption | (with_reducible refine Ext.drew ?_) | (with_reducible refine Ext.drewN ?_ _) | (with_reducible refine Ext.alloc ?_ _) | (with_reducible refine Ext.setCell ?_ ?_ _) | (with_reducible refine Ext.trans ?_ (by with_reducible assumption)) | omega | (focus (simp <;> omega))))⟩

theorem scale08_in (x y m : Int) (w : World) (h : WithinOK x y m) (hin : x * x + y * y ≤ m * m) :
    Calls Try.prog 31 #[.int .i64 x, .int .i64 y, .int .i64 m] w fun e w' =>
      e = .returned (.tuple #[.int .i64 x, .int .i64 y, .bool false, .int .i64 0]) ∧ Ext w w' := by
  have H := Lib.hid hin
  clear hin
  go_enter Try.func31, Try.ntmps31
  go_wp2_with (go_at_call 46; refine (within08_yes x y m _ h H.out).mono ?_; rintro e w1 ⟨rfl, hx1⟩)
  go_returns
  exact ⟨rfl, (by repeat (first | with_reducible exact Ext.refl _ | with_reducible assumption | (with_reducible refine Ext.drew ?_) | (with_reducible refine Ext.drewN ?_ _) | (with_reducible refine Ext.alloc ?_ _) | (with_reducible refine Ext.setCell ?_ ?_ _) | (with_reducible refine Ext.trans ?_ (by with_reducible assumption)) | omega | (focus (simp <;> omega))))⟩

theorem scale08_bad (x y m : Int) (w : World) (h : ¬ WithinOK x y m) :
    Calls Try.prog 31 #[.int .i64 x, .int .i64 y, .int .i64 m] w fun e w' =>
      e = .returned (.tuple #[.int .i64 0, .int .i64 0, .bool false, .int .i64 3]) ∧ Ext w w' := by
  have H := Lib.hid h
  clear h
  go_enter Try.func31, Try.ntmps31
  go_wp2_with (go_at_call 46; refine (within08_bad x y m _ H.out).mono ?_; rintro e w1 ⟨rfl, hx1⟩)
  go_returns
  exact ⟨rfl, (by repeat (first | with_reducible exact Ext.refl _ | with_reducible assumption | (with_reducible refine Ext.drew ?_) | (with_reducible refine Ext.drewN ?_ _) | (with_reducible refine Ext.alloc ?_ _) | (with_reducible refine Ext.setCell ?_ ?_ _) | (with_reducible refine Ext.trans ?_ (by with_reducible assumption)) | omega | (focus (simp <;> omega))))⟩

set_option maxHeartbeats 400000 in
theorem scale08_cut (x y m : Int) (w : World) (h : WithinOK x y m) (hin : m * m < x * x + y * y) :
    Calls Try.prog 31 #[.int .i64 x, .int .i64 y, .int .i64 m] w fun e w' =>
      e = .returned (.tuple #[.int .i64 ((x * m).tdiv (Pl.upq (x * x + y * y))), .int .i64 ((y * m).tdiv (Pl.upq (x * x + y * y))), .bool true, .int .i64 0]) ∧ Ext w w' := by
  have ⟨l0, l1, l2⟩ := scale_facts h hin
  obtain ⟨l, hl⟩ : ∃ l, l = Pl.upq (x * x + y * y) := ⟨_, rfl⟩
  rw [← hl] at l0 l1 l2 ⊢
  have ⟨hx, hy, hm, h0⟩ := h
  have bx : -1152921504606846976 ≤ x * m ∧ x * m ≤ 1152921504606846976 := mul_bd hx hm
  have by' : -1152921504606846976 ≤ y * m ∧ y * m ≤ 1152921504606846976 := mul_bd hy hm
  have qx := Pl.sc_bd x m l h0 (by omega) l0
  have qy := Pl.sc_bd y m l h0 (by omega) l0
  have ⟨sx1, sx2⟩ := in30_sq hx
  have ⟨sy1, sy2⟩ := in30_sq hy
  have ⟨hx1, hx2⟩ := hx
  have ⟨hy1, hy2⟩ := hy
  have e1 : IntKind.i64.wrap (x * m) = x * m := IntWalk.i64_in _ (by omega)
  have e2 : IntKind.i64.wrap (y * m) = y * m := IntWalk.i64_in _ (by omega)
  have e3 : IntKind.i64.wrap ((x * m).tdiv l) = (x * m).tdiv l := IntWalk.i64_in _ (by omega)
  have e4 : IntKind.i64.wrap ((y * m).tdiv l) = (y * m).tdiv l := IntWalk.i64_in _ (by omega)
  have hl0 : ¬ l = 0 := by omega
  have H := Lib.hid hin
  have HL := Lib.hid hl
  clear hin hl qx qy hx1 hx2 hy1 hy2 bx by' l1 l2
  go_enter Try.func31, Try.ntmps31
  go_wp2_with (first | (go_at_call 46; refine (within08_no x y m _ h H.out).mono ?_; rintro e w1 ⟨rfl, hx1⟩) | (go_at_call 47; refine (up08_any (x * x + y * y) _ (i64_of (by omega) (by omega))).mono ?_; rw [← HL.out]; rintro e w2 ⟨rfl, rfl⟩))
  go_quiet (fail)
  go_wp2
  go_returns
  exact ⟨rfl, (by repeat (first | with_reducible exact Ext.refl _ | with_reducible assumption | (with_reducible refine Ext.drew ?_) | (with_reducible refine Ext.drewN ?_ _) | (with_reducible refine Ext.alloc ?_ _) | (with_reducible refine Ext.setCell ?_ ?_ _) | (with_reducible refine Ext.trans ?_ (by with_reducible assumption)) | omega | (focus (simp <;> omega))))⟩


end Go.Proofs.Ytpeboabgcjbjcaa
