/- The contracts of the reference of chapter 19, each walked once.
   Conditions: the bounds that each names. -/
import Derived.Test.YtmifegcbhcgkfaaClarke
namespace Go.Proofs.Ytmifegcbhcgkfaa
open Go.ChangeShapes Go.WideShapes Go.ChangeAt Go.RowKit

set_option maxHeartbeats 400000 in
theorem bad19_ok (b len : Nat) (zs : List Int) (w : World) (hl : len ≤ 3) (hc : ∀ j, j < len → w.cell? ⟨b, j, none⟩ = some (.int .i64 (zs.getD j 0)))
    (hin : ∀ j, j < len → -1073741824 ≤ zs.getD j 0 ∧ zs.getD j 0 ≤ 1073741824) :
    Calls Try.prog 34 #[.slice (some ⟨b, 0, none⟩) len len] w fun e w' => e = .returned (.int .i64 0) ∧ w = w' := by
  have HC := Lib.hid hc
  have HI := Lib.hid hin
  clear hc hin
  go_enter Try.func34, Try.ntmps34
  go_wp2
  go_loop [7] (fun i => ∃ k : Nat, k ≤ len ∧ i = .int .i64 k) (fun i => len - (intOf i).toNat)
  case atStart => exact ⟨0, Nat.zero_le _, rfl⟩
  case round =>
    obtain ⟨k, hk, rfl⟩ := hrel
    by_cases hlt : k < len
    · have hcell := HC.out k hlt
      obtain ⟨h1, h2⟩ := HI.out k hlt
      obtain ⟨z, hz⟩ : ∃ z, z = zs.getD k 0 := ⟨_, rfl⟩
      rw [← hz] at hcell h1 h2
      clear hz
      go_wp2
      go_round
      case rel => exact ⟨k + 1, by omega, by go_num⟩
      case measure => simp [intOf]; omega
    · go_wp2
      go_ret
      exact ⟨rfl, rfl⟩

set_option maxHeartbeats 400000 in
theorem bad19_bad (b len m : Nat) (zs : List Int) (w : World) (hl : len ≤ 3) (hm : m < len) (hc : ∀ j, j < len → w.cell? ⟨b, j, none⟩ = some (.int .i64 (zs.getD j 0)))
    (hin : ∀ j, j < m → -1073741824 ≤ zs.getD j 0 ∧ zs.getD j 0 ≤ 1073741824) (hbad : ¬ (-1073741824 ≤ zs.getD m 0 ∧ zs.getD m 0 ≤ 1073741824)) :
    Calls Try.prog 34 #[.slice (some ⟨b, 0, none⟩) len len] w fun e w' => e = .returned (.int .i64 3) ∧ w = w' := by
  have HC := Lib.hid hc
  have HI := Lib.hid hin
  have HB := Lib.hid hbad
  clear hc hin hbad
  go_enter Try.func34, Try.ntmps34
  go_wp2
  go_loop [7] (fun i => ∃ k : Nat, k ≤ m ∧ i = .int .i64 k) (fun i => len - (intOf i).toNat)
  case atStart => exact ⟨0, Nat.zero_le _, rfl⟩
  case round =>
    obtain ⟨k, hk, rfl⟩ := hrel
    have hlt : k < len := by omega
    have hcell := HC.out k hlt
    by_cases hkm : k < m
    · obtain ⟨h1, h2⟩ := HI.out k hkm
      obtain ⟨z, hz⟩ : ∃ z, z = zs.getD k 0 := ⟨_, rfl⟩
      rw [← hz] at hcell h1 h2
      clear hz
      go_wp2
      go_round
      case rel => exact ⟨k + 1, by omega, by go_num⟩
      case measure => simp [intOf]; omega
    · obtain rfl : k = m := by omega
      have hb := HB.out
      obtain ⟨z, hz⟩ : ∃ z, z = zs.getD k 0 := ⟨_, rfl⟩
      rw [← hz] at hcell hb
      clear hz HB
      by_cases h1 : 1073741824 < z
      · go_wp2
        go_ret
        exact ⟨rfl, rfl⟩
      · have h2 : z < -1073741824 := by omega
        go_wp2
        go_ret
        exact ⟨rfl, rfl⟩

theorem bad19_3ok (b : Nat) (x y z : Int) (w : World) (h0 : w.cell? ⟨b, 0, none⟩ = some (.int .i64 x)) (h1 : w.cell? ⟨b, 1, none⟩ = some (.int .i64 y)) (h2 : w.cell? ⟨b, 2, none⟩ = some (.int .i64 z))
    (hx : In30 x) (hy : In30 y) (hz : In30 z) :
    Calls Try.prog 34 #[.slice (some ⟨b, 0, none⟩) 3 3] w fun e w' => e = .returned (.int .i64 0) ∧ w = w' :=
  bad19_ok b 3 [x, y, z] w (by omega)
    (fun j hj => by match j, hj with | 0, _ => exact h0 | 1, _ => exact h1 | 2, _ => exact h2)
    (fun j hj => by match j, hj with | 0, _ => exact hx | 1, _ => exact hy | 2, _ => exact hz)

theorem bad19_3bad (b : Nat) (x y z : Int) (w : World) (h0 : w.cell? ⟨b, 0, none⟩ = some (.int .i64 x)) (h1 : w.cell? ⟨b, 1, none⟩ = some (.int .i64 y)) (h2 : w.cell? ⟨b, 2, none⟩ = some (.int .i64 z))
    (h : ¬ (In30 x ∧ In30 y ∧ In30 z)) :
    Calls Try.prog 34 #[.slice (some ⟨b, 0, none⟩) 3 3] w fun e w' => e = .returned (.int .i64 3) ∧ w = w' := by
  have hc : ∀ j, j < 3 → w.cell? ⟨b, j, none⟩ = some (.int .i64 ([x, y, z].getD j 0)) :=
    fun j hj => by match j, hj with | 0, _ => exact h0 | 1, _ => exact h1 | 2, _ => exact h2
  by_cases hx : In30 x
  · by_cases hy : In30 y
    · exact bad19_bad b 3 2 [x, y, z] w (by omega) (by omega) hc (fun j hj => by match j, hj with | 0, _ => exact hx | 1, _ => exact hy) (fun hz => h ⟨hx, hy, hz⟩)
    · exact bad19_bad b 3 1 [x, y, z] w (by omega) (by omega) hc (fun j hj => by match j, hj with | 0, _ => exact hx) hy
  · exact bad19_bad b 3 0 [x, y, z] w (by omega) (by omega) hc (fun j hj => absurd hj (by omega)) hx

theorem bad19_2ok (b : Nat) (x y : Int) (w : World) (h0 : w.cell? ⟨b, 0, none⟩ = some (.int .i64 x)) (h1 : w.cell? ⟨b, 1, none⟩ = some (.int .i64 y))
    (hx : In30 x) (hy : In30 y) :
    Calls Try.prog 34 #[.slice (some ⟨b, 0, none⟩) 2 2] w fun e w' => e = .returned (.int .i64 0) ∧ w = w' :=
  bad19_ok b 2 [x, y] w (by omega)
    (fun j hj => by match j, hj with | 0, _ => exact h0 | 1, _ => exact h1)
    (fun j hj => by match j, hj with | 0, _ => exact hx | 1, _ => exact hy)

theorem bad19_2bad (b : Nat) (x y : Int) (w : World) (h0 : w.cell? ⟨b, 0, none⟩ = some (.int .i64 x)) (h1 : w.cell? ⟨b, 1, none⟩ = some (.int .i64 y))
    (h : ¬ (In30 x ∧ In30 y)) :
    Calls Try.prog 34 #[.slice (some ⟨b, 0, none⟩) 2 2] w fun e w' => e = .returned (.int .i64 3) ∧ w = w' := by
  have hc : ∀ j, j < 2 → w.cell? ⟨b, j, none⟩ = some (.int .i64 ([x, y].getD j 0)) :=
    fun j hj => by match j, hj with | 0, _ => exact h0 | 1, _ => exact h1
  by_cases hx : In30 x
  · exact bad19_bad b 2 1 [x, y] w (by omega) (by omega) hc (fun j hj => by match j, hj with | 0, _ => exact hx) (fun hy => h ⟨hx, hy⟩)
  · exact bad19_bad b 2 0 [x, y] w (by omega) (by omega) hc (fun j hj => absurd hj (by omega)) hx

theorem forward19_ok (a b c : Int) (w : World) (ha : In30 a) (hb : In30 b) (hc : In30 c) :
    Calls Try.prog 38 #[.int .i64 a, .int .i64 b, .int .i64 c] w fun e w' =>
      e = .returned (.tuple #[.int .i64 (Pl.fa a b c), .int .i64 (Pl.fb b c), .int .i64 0]) ∧ Ext w w' := by
  have ⟨ha1, ha2⟩ := ha
  have ⟨hb1, hb2⟩ := hb
  have ⟨hc1, hc2⟩ := hc
  go_enter Try.func38, Try.ntmps38
  go_wp2_with (go_at_call 34; refine (bad19_3ok _ a b c _ (by simp) (by simp) (by simp) ha hb hc).mono ?_; rintro e w' ⟨rfl, rfl⟩)
  go_ret3
  exact ⟨rfl, (by repeat (first | with_reducible exact Ext.refl _ | with_reducible assumption | (with_reducible refine Ext.drew ?_) | (with_reducible refine Ext.drewN ?_ _) | (with_reducible refine Ext.alloc ?_ _) | (with_reducible refine Ext.setCell ?_ ?_ _) | (with_reducible refine Ext.trans ?_ (by with_reducible assumption)) | omega | (focus (simp <;> omega))))⟩

theorem forward19_bad (a b c : Int) (w : World) (h : ¬ (In30 a ∧ In30 b ∧ In30 c)) :
    Calls Try.prog 38 #[.int .i64 a, .int .i64 b, .int .i64 c] w fun e w' =>
      e = .returned (.tuple #[.int .i64 0, .int .i64 0, .int .i64 3]) ∧ Ext w w' := by
  have H := Lib.hid h
  clear h
  go_enter Try.func38, Try.ntmps38
  go_wp2_with (go_at_call 34; refine (bad19_3bad _ a b c _ (by simp) (by simp) (by simp) H.out).mono ?_; rintro e w' ⟨rfl, rfl⟩)
  go_ret3
  exact ⟨rfl, (by repeat (first | with_reducible exact Ext.refl _ | with_reducible assumption | (with_reducible refine Ext.drew ?_) | (with_reducible refine Ext.drewN ?_ _) | (with_reducible refine Ext.alloc ?_ _) | (with_reducible refine Ext.setCell ?_ ?_ _) | (with_reducible refine Ext.trans ?_ (by with_reducible assumption)) | omega | (focus (simp <;> omega))))⟩





theorem back19_ok (a b : Int) (w : World) (ha : In30 a) (hb : In30 b) :
    Calls Try.prog 18 #[.int .i64 a, .int .i64 b] w fun e w' =>
      e = .returned (.tuple #[phv a b, .int .i64 0]) ∧ Ext w w' := by
  have ⟨ha1, ha2⟩ := ha
  have ⟨hb1, hb2⟩ := hb
  have ⟨hp1, hp2⟩ := Pl.pb_bd a b 1073741824 ha hb
  unfold phv
  unfold Pl.pb at hp1 hp2 ⊢
  go_enter Try.func18, Try.ntmps18
  go_wp2_with (go_at_call 34; refine (bad19_2ok _ a b _ (by simp) (by simp) ha hb).mono ?_; rintro e w' ⟨rfl, rfl⟩)
  go_returns
  exact ⟨rfl, (by repeat (first | with_reducible exact Ext.refl _ | with_reducible assumption | (with_reducible refine Ext.drew ?_) | (with_reducible refine Ext.drewN ?_ _) | (with_reducible refine Ext.alloc ?_ _) | (with_reducible refine Ext.setCell ?_ ?_ _) | (with_reducible refine Ext.trans ?_ (by with_reducible assumption)) | omega | (focus (simp <;> omega))))⟩

theorem back19_bad (a b : Int) (w : World) (h : ¬ (In30 a ∧ In30 b)) :
    Calls Try.prog 18 #[.int .i64 a, .int .i64 b] w fun e w' =>
      e = .returned (.tuple #[.agg #[.int .i64 0, .int .i64 0, .int .i64 0], .int .i64 3]) ∧ Ext w w' := by
  have H := Lib.hid h
  clear h
  go_enter Try.func18, Try.ntmps18
  go_wp2_with (go_at_call 34; refine (bad19_2bad _ a b _ (by simp) (by simp) H.out).mono ?_; rintro e w' ⟨rfl, rfl⟩)
  go_returns
  exact ⟨rfl, (by repeat (first | with_reducible exact Ext.refl _ | with_reducible assumption | (with_reducible refine Ext.drew ?_) | (with_reducible refine Ext.drewN ?_ _) | (with_reducible refine Ext.alloc ?_ _) | (with_reducible refine Ext.setCell ?_ ?_ _) | (with_reducible refine Ext.trans ?_ (by with_reducible assumption)) | omega | (focus (simp <;> omega))))⟩

theorem span19_ok (a b : Int) (w : World) (ha : In30 a) (hb : In30 b) :
    Calls Try.prog 33 #[.int .i64 a, .int .i64 b] w fun e w' =>
      e = .returned (.tuple #[.int .i64 (Pl.sp a b), .int .i64 0]) ∧ Ext w w' := by
  have hpb := Pl.pb_bd a b 1073741824 ha hb
  have ⟨ha1, ha2⟩ := ha
  have ⟨hb1, hb2⟩ := hb
  obtain ⟨hp1, hp2⟩ := hpb
  unfold Pl.sp Pl.mx3 Pl.mn3
  obtain ⟨p, hp⟩ : ∃ p, p = Pl.pb a b := ⟨_, rfl⟩
  rw [← hp] at hp1 hp2 ⊢
  have HP := Lib.hid hp
  clear hp
  go_enter Try.func33, Try.ntmps33
  go_wp2_with (go_at_call 18; refine (back19_ok a b _ ha hb).mono ?_; unfold phv; rw [← HP.out]; rintro e w1 ⟨rfl, hx1⟩)
  go_ret2
  exact ⟨rfl, (by repeat (first | with_reducible exact Ext.refl _ | with_reducible assumption | (with_reducible refine Ext.drew ?_) | (with_reducible refine Ext.drewN ?_ _) | (with_reducible refine Ext.alloc ?_ _) | (with_reducible refine Ext.setCell ?_ ?_ _) | (with_reducible refine Ext.trans ?_ (by with_reducible assumption)) | omega | (focus (simp <;> omega))))⟩

theorem span19_bad (a b : Int) (w : World) (h : ¬ (In30 a ∧ In30 b)) :
    Calls Try.prog 33 #[.int .i64 a, .int .i64 b] w fun e w' =>
      e = .returned (.tuple #[.int .i64 0, .int .i64 3]) ∧ Ext w w' := by
  have H := Lib.hid h
  clear h
  go_enter Try.func33, Try.ntmps33
  go_wp2_with (go_at_call 18; refine (back19_bad a b _ H.out).mono ?_; rintro e w1 ⟨rfl, hx1⟩)
  go_ret2
  exact ⟨rfl, (by repeat (first | with_reducible exact Ext.refl _ | with_reducible assumption | (with_reducible refine Ext.drew ?_) | (with_reducible refine Ext.drewN ?_ _) | (with_reducible refine Ext.alloc ?_ _) | (with_reducible refine Ext.setCell ?_ ?_ _) | (with_reducible refine Ext.trans ?_ (by with_reducible assumption)) | omega | (focus (simp <;> omega))))⟩

end Go.Proofs.Ytmifegcbhcgkfaa
