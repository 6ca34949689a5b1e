/- The contracts of package clarke's functions, each walked once.
   Conditions: the bounds that each names. -/
import Derived.Test.YtfignlcplkihpaaFrame
import Derived.Test.YtfignlcplkihpaaPlainClarke
namespace Go.Proofs.Ytfignlcplkihpaa
open Go.ChangeShapes Go.WideShapes Go.ChangeAt Go.RowKit

set_option maxHeartbeats 400000 in
theorem near_ok (b len : Nat) (zs : List Int) (w : World) (hl : len ≤ 3) (hc : ∀ j, j < len → w.cell? ⟨b, j, none⟩ = some (.int .i64 (zs.getD j 0)))
    (hin : ∀ j, j < len → -1073741824 ≤ zs.getD j 0 ∧ zs.getD j 0 ≤ 1073741824) :
    Calls Try.prog 36 #[.slice (some ⟨b, 0, none⟩) len len] w fun e w' => e = .returned .nilIface ∧ w = w' := by
  have HC := Lib.hid hc
  have HI := Lib.hid hin
  clear hc hin
  go_enter Try.func36, Try.ntmps36
  go_wp2
  go_loop [7] (fun i => ∃ k : Nat, k ≤ len ∧ i = .int .i64 k) (fun i => len - (intOf i).toNat)
  case atStart => exact ⟨0, Nat.zero_le _, rfl⟩
  case round =>
    obtain ⟨k, hk, rfl⟩ := hrel
    by_cases hlt : k < len
    · have hcell := HC.out k hlt
      obtain ⟨h1, h2⟩ := HI.out k hlt
      obtain ⟨z, hz⟩ : ∃ z, z = zs.getD k 0 := ⟨_, rfl⟩
      rw [← hz] at hcell h1 h2
      clear hz
      go_wp2
      go_round
      case rel => exact ⟨k + 1, by omega, by go_num⟩
      case measure => simp [intOf]; omega
    · go_wp2
      go_ret
      exact ⟨rfl, rfl⟩

set_option maxHeartbeats 400000 in
theorem near_bad (b len m : Nat) (zs : List Int) (w : World) (hl : len ≤ 3) (hm : m < len) (hc : ∀ j, j < len → w.cell? ⟨b, j, none⟩ = some (.int .i64 (zs.getD j 0)))
    (hin : ∀ j, j < m → -1073741824 ≤ zs.getD j 0 ∧ zs.getD j 0 ≤ 1073741824) (hbad : ¬ (-1073741824 ≤ zs.getD m 0 ∧ zs.getD m 0 ≤ 1073741824)) :
    Calls Try.prog 36 #[.slice (some ⟨b, 0, none⟩) len len] w fun e w' => e = .returned (errv 3) ∧ w = w' := by
  have HC := Lib.hid hc
  have HI := Lib.hid hin
  have HB := Lib.hid hbad
  clear hc hin hbad
  rw [errv_3]
  go_enter Try.func36, Try.ntmps36
  go_wp2
  go_loop [7] (fun i => ∃ k : Nat, k ≤ m ∧ i = .int .i64 k) (fun i => len - (intOf i).toNat)
  case atStart => exact ⟨0, Nat.zero_le _, rfl⟩
  case round =>
    obtain ⟨k, hk, rfl⟩ := hrel
    have hlt : k < len := by omega
    have hcell := HC.out k hlt
    by_cases hkm : k < m
    · obtain ⟨h1, h2⟩ := HI.out k hkm
      obtain ⟨z, hz⟩ : ∃ z, z = zs.getD k 0 := ⟨_, rfl⟩
      rw [← hz] at hcell h1 h2
      clear hz
      go_wp2
      go_round
      case rel => exact ⟨k + 1, by omega, by go_num⟩
      case measure => simp [intOf]; omega
    · obtain rfl : k = m := by omega
      have hb := HB.out
      obtain ⟨z, hz⟩ : ∃ z, z = zs.getD k 0 := ⟨_, rfl⟩
      rw [← hz] at hcell hb
      clear hz HB
      by_cases h1 : z < -1073741824
      · go_wp2
        go_ret
        exact ⟨rfl, rfl⟩
      · have h2 : 1073741824 < z := by omega
        go_wp2
        go_ret
        exact ⟨rfl, rfl⟩

theorem near3_ok (b : Nat) (x y z : Int) (w : World) (h0 : w.cell? ⟨b, 0, none⟩ = some (.int .i64 x)) (h1 : w.cell? ⟨b, 1, none⟩ = some (.int .i64 y)) (h2 : w.cell? ⟨b, 2, none⟩ = some (.int .i64 z))
    (hx : In30 x) (hy : In30 y) (hz : In30 z) :
    Calls Try.prog 36 #[.slice (some ⟨b, 0, none⟩) 3 3] w fun e w' => e = .returned .nilIface ∧ w = w' :=
  near_ok b 3 [x, y, z] w (by omega)
    (fun j hj => by match j, hj with | 0, _ => exact h0 | 1, _ => exact h1 | 2, _ => exact h2)
    (fun j hj => by match j, hj with | 0, _ => exact hx | 1, _ => exact hy | 2, _ => exact hz)

theorem near3_bad (b : Nat) (x y z : Int) (w : World) (h0 : w.cell? ⟨b, 0, none⟩ = some (.int .i64 x)) (h1 : w.cell? ⟨b, 1, none⟩ = some (.int .i64 y)) (h2 : w.cell? ⟨b, 2, none⟩ = some (.int .i64 z))
    (h : ¬ (In30 x ∧ In30 y ∧ In30 z)) :
    Calls Try.prog 36 #[.slice (some ⟨b, 0, none⟩) 3 3] w fun e w' => e = .returned (errv 3) ∧ w = w' := by
  have hc : ∀ j, j < 3 → w.cell? ⟨b, j, none⟩ = some (.int .i64 ([x, y, z].getD j 0)) :=
    fun j hj => by match j, hj with | 0, _ => exact h0 | 1, _ => exact h1 | 2, _ => exact h2
  by_cases hx : In30 x
  · by_cases hy : In30 y
    · exact near_bad b 3 2 [x, y, z] w (by omega) (by omega) hc (fun j hj => by match j, hj with | 0, _ => exact hx | 1, _ => exact hy) (fun hz => h ⟨hx, hy, hz⟩)
    · exact near_bad b 3 1 [x, y, z] w (by omega) (by omega) hc (fun j hj => by match j, hj with | 0, _ => exact hx) hy
  · exact near_bad b 3 0 [x, y, z] w (by omega) (by omega) hc (fun j hj => absurd hj (by omega)) hx

theorem near2_ok (b : Nat) (x y : Int) (w : World) (h0 : w.cell? ⟨b, 0, none⟩ = some (.int .i64 x)) (h1 : w.cell? ⟨b, 1, none⟩ = some (.int .i64 y))
    (hx : In30 x) (hy : In30 y) :
    Calls Try.prog 36 #[.slice (some ⟨b, 0, none⟩) 2 2] w fun e w' => e = .returned .nilIface ∧ w = w' :=
  near_ok b 2 [x, y] w (by omega)
    (fun j hj => by match j, hj with | 0, _ => exact h0 | 1, _ => exact h1)
    (fun j hj => by match j, hj with | 0, _ => exact hx | 1, _ => exact hy)

theorem near2_bad (b : Nat) (x y : Int) (w : World) (h0 : w.cell? ⟨b, 0, none⟩ = some (.int .i64 x)) (h1 : w.cell? ⟨b, 1, none⟩ = some (.int .i64 y))
    (h : ¬ (In30 x ∧ In30 y)) :
    Calls Try.prog 36 #[.slice (some ⟨b, 0, none⟩) 2 2] w fun e w' => e = .returned (errv 3) ∧ w = w' := by
  have hc : ∀ j, j < 2 → w.cell? ⟨b, j, none⟩ = some (.int .i64 ([x, y].getD j 0)) :=
    fun j hj => by match j, hj with | 0, _ => exact h0 | 1, _ => exact h1
  by_cases hx : In30 x
  · exact near_bad b 2 1 [x, y] w (by omega) (by omega) hc (fun j hj => by match j, hj with | 0, _ => exact hx) (fun hy => h ⟨hx, hy⟩)
  · exact near_bad b 2 0 [x, y] w (by omega) (by omega) hc (fun j hj => absurd hj (by omega)) hx







theorem phases_ok (a b : Int) (w : World) (ha : In30 a) (hb : In30 b) :
    Calls Try.prog 37 #[.int .i64 a, .int .i64 b] w fun e w' =>
      e = .returned (.agg #[.int .i64 a, .int .i64 (Pl.pb a b), .int .i64 (-a - Pl.pb a b)]) ∧ Ext w w' := by
  have ⟨ha1, ha2⟩ := ha
  have ⟨hb1, hb2⟩ := hb
  have hpb := Pl.pb_bd a b 1073741824 ha hb
  unfold Pl.pb at hpb ⊢
  obtain ⟨hp1, hp2⟩ := hpb
  go_enter Try.func37, Try.ntmps37
  go_wp2
  go_returns
  exact ⟨rfl, (by repeat (first | with_reducible exact Ext.refl _ | with_reducible assumption | (with_reducible refine Ext.drew ?_) | (with_reducible refine Ext.drewN ?_ _) | (with_reducible refine Ext.alloc ?_ _) | (with_reducible refine Ext.setCell ?_ ?_ _) | (with_reducible refine Ext.trans ?_ (by with_reducible assumption)) | omega | (focus (simp <;> omega))))⟩

/-- The phases of a vector, as a value. -/
def phv (a b : Int) : Value := .agg #[.int .i64 a, .int .i64 (Pl.pb a b), .int .i64 (-a - Pl.pb a b)]

theorem back_ok (a b : Int) (w : World) (ha : In30 a) (hb : In30 b) :
    Calls Try.prog 20 #[.int .i64 a, .int .i64 b] w fun e w' =>
      e = .returned (.tuple #[phv a b, .nilIface]) ∧ Ext w w' := by
  unfold phv
  go_enter Try.func20, Try.ntmps20
  go_wp2_with (first | (go_at_call 36; refine (near2_ok _ a b _ (by simp) (by simp) ha hb).mono ?_; rintro e w' ⟨rfl, rfl⟩) | (go_at_call 37; refine (phases_ok a b _ ha hb).mono ?_; rintro e w1 ⟨rfl, hx1⟩; obtain ⟨c0, c1, c2, hf, hn⟩ := hx1.arr3 (n := w.heap.size) (u0 := .int .i64 0) (u1 := .int .i64 0) (u2 := .int .i64 0) (by simp <;> omega) (by simp [go_sem]) (by simp [go_sem]) (by simp [go_sem]) (fun o => by simp [go_sem])))
  refine bodyPost_ret (v := .tuple #[.agg #[.int .i64 a, .int .i64 (Pl.pb a b), .int .i64 (-a - Pl.pb a b)], .nilIface]) (by simp [results, Try.results20, go_sem, c0, c1, c2]) rfl ?_
  exact ⟨rfl, (by repeat (first | with_reducible exact Ext.refl _ | with_reducible assumption | (with_reducible refine Ext.drew ?_) | (with_reducible refine Ext.drewN ?_ _) | (with_reducible refine Ext.alloc ?_ _) | (with_reducible refine Ext.setCell ?_ ?_ _) | (with_reducible refine Ext.trans ?_ (by with_reducible assumption)) | omega | (focus (simp <;> omega))))⟩

theorem back_bad (a b : Int) (w : World) (h : ¬ (In30 a ∧ In30 b)) :
    Calls Try.prog 20 #[.int .i64 a, .int .i64 b] w fun e w' =>
      e = .returned (.tuple #[.agg #[.int .i64 0, .int .i64 0, .int .i64 0], errv 3]) ∧ Ext w w' := by
  have H := Lib.hid h
  clear h
  go_enter Try.func20, Try.ntmps20
  go_wp2_with (go_at_call 36; refine (near2_bad _ a b _ (by simp) (by simp) H.out).mono ?_; rw [errv_3]; rintro e w' ⟨rfl, rfl⟩)
  go_returns
  exact ⟨rfl, (by repeat (first | with_reducible exact Ext.refl _ | with_reducible assumption | (with_reducible refine Ext.drew ?_) | (with_reducible refine Ext.drewN ?_ _) | (with_reducible refine Ext.alloc ?_ _) | (with_reducible refine Ext.setCell ?_ ?_ _) | (with_reducible refine Ext.trans ?_ (by with_reducible assumption)) | omega | (focus (simp <;> omega))))⟩



end Go.Proofs.Ytfignlcplkihpaa
