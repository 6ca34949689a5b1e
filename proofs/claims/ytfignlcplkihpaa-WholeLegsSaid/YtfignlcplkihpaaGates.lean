/- The contracts of the small functions of package gates.
   Conditions: the bounds that each names. -/
import Derived.Test.YtfignlcplkihpaaOwnE
import Derived.Test.YtfignlcplkihpaaVector
import Derived.BigQuiet
import Derived.Deep.RegionHeld3
import Derived.Deep.DeepCutAuto
namespace Go.Proofs.Ytfignlcplkihpaa
open Go.ChangeShapes Go.WideShapes Go.ChangeAt Go.RowKit

theorem gwithin_t (n lo hi : Int) (w : World) (h1 : lo ≤ n) (h2 : n ≤ hi) :
    Calls Try.prog 26 #[.int .i64 n, .int .i64 lo, .int .i64 hi] w fun e w' => e = .returned (.bool true) ∧ w = w' := by
  go_enter Try.func26, Try.ntmps26
  go_wp2
  go_ret
  exact ⟨(by first | rfl | exact ret_true (by simp <;> omega)), rfl⟩
theorem gisPeriod_t (x : Int) (w : World) (h : PerOK x) :
    Calls Try.prog 31 #[.int .i64 x] w fun e w' => e = .returned (.bool true) ∧ Ext w w' := by
  go_enter Try.func31, Try.ntmps31
  go_wp2_with fail
  refine (gwithin_t _ _ _ _ h.1 h.2).mono ?_
  rintro e w1 ⟨rfl, rfl⟩
  go_wp2_with fail
  go_ret
  exact ⟨rfl, (by repeat (first | with_reducible exact Ext.refl _ | with_reducible assumption | (with_reducible refine Ext.drew ?_) | (with_reducible refine Ext.drewN ?_ _) | (with_reducible refine Ext.alloc ?_ _) | (with_reducible refine Ext.setCell ?_ ?_ _) | (with_reducible refine Ext.trans ?_ (by with_reducible assumption)) | omega | (focus (simp <;> omega))))⟩
/-- A state in its ranges. -/
def StIn (s d : Nat → Int) : Prop := ∀ i, i < 3 → (0 ≤ s i ∧ s i ≤ 2) ∧ (0 ≤ d i ∧ d i ≤ 4096)
set_option linter.unusedSimpArgs false in
set_option maxRecDepth 100000 in
set_option maxHeartbeats 1000000 in
theorem granges_t (s d : Nat → Int) (p q : Int) (w : World) (h : StIn s d) (hp : PerOK p) (hq : 1 ≤ q ∧ q ≤ 1024) :
    Calls Try.prog 25 #[.agg #[.int .i64 (s 0), .int .i64 (d 0), .int .i64 (s 1), .int .i64 (d 1), .int .i64 (s 2), .int .i64 (d 2)], .int .i64 p, .int .i64 q] w fun e w' => e = .returned (.bool true) ∧ Ext w w' := by
  have ⟨⟨a1, a2⟩, a3, a4⟩ := h 0 (by omega)
  have ⟨⟨b1, b2⟩, b3, b4⟩ := h 1 (by omega)
  have ⟨⟨c1, c2⟩, c3, c4⟩ := h 2 (by omega)
  obtain ⟨q1, q2⟩ := hq
  have HP := Lib.hid hp
  clear h hp
  generalize s 0 = s0 at *
  generalize d 0 = d0 at *
  generalize s 1 = s1 at *
  generalize d 1 = d1 at *
  generalize s 2 = s2 at *
  generalize d 2 = d2 at *
  have ix30 : ∀ w, (Instr.index 29 (.agg #[.int .i64 s0, .int .i64 d0, .int .i64 s1, .int .i64 d1, .int .i64 s2, .int .i64 d2]) (.int .i64 0)).run Try.prog w = .ok (.agg #[.int .i64 s0, .int .i64 d0]) w := fun _ => by kernel_rfl
  have ix31 : ∀ w, (Instr.index 29 (.agg #[.int .i64 s0, .int .i64 d0, .int .i64 s1, .int .i64 d1, .int .i64 s2, .int .i64 d2]) (.int .i64 1)).run Try.prog w = .ok (.agg #[.int .i64 s1, .int .i64 d1]) w := fun _ => by kernel_rfl
  have ix32 : ∀ w, (Instr.index 29 (.agg #[.int .i64 s0, .int .i64 d0, .int .i64 s1, .int .i64 d1, .int .i64 s2, .int .i64 d2]) (.int .i64 2)).run Try.prog w = .ok (.agg #[.int .i64 s2, .int .i64 d2]) w := fun _ => by kernel_rfl
  go_enter Try.func25, Try.ntmps25
  go_wp2_with fail
  refine wp_loop_rounds 4 ?_
  rw [rounds_succ]
  go_wp2_with (go_at_call 26; refine (gwithin_t _ _ _ _ (by omega) (by omega)).mono ?_; rintro e w9 ⟨rfl, rfl⟩)
  rw [rounds_succ]
  go_wp2_with (go_at_call 26; refine (gwithin_t _ _ _ _ (by omega) (by omega)).mono ?_; rintro e w9 ⟨rfl, rfl⟩)
  rw [rounds_succ]
  go_wp2_with (go_at_call 26; refine (gwithin_t _ _ _ _ (by omega) (by omega)).mono ?_; rintro e w9 ⟨rfl, rfl⟩)
  rw [rounds_succ]
  go_wp2_with fail
  refine (gisPeriod_t _ _ HP.out).mono ?_
  rintro e w8 ⟨rfl, hx8⟩
  go_wp2_with fail
  refine (gwithin_t _ _ _ _ q1 q2).mono ?_
  rintro e w9 ⟨rfl, rfl⟩
  go_wp2_with fail
  go_ret
  exact ⟨rfl, (by repeat (first | with_reducible exact Ext.refl _ | with_reducible assumption | (with_reducible refine Ext.drew ?_) | (with_reducible refine Ext.drewN ?_ _) | (with_reducible refine Ext.alloc ?_ _) | (with_reducible refine Ext.setCell ?_ ?_ _) | (with_reducible refine Ext.trans ?_ (by with_reducible assumption)) | omega | (focus (simp <;> omega))))⟩
theorem number_any (i : Nat) (s : Int) (w : World) (hi : i < 3) :
    Calls Try.prog 29 #[.int .i64 i, .int .i64 s] w fun e w' => e = .returned (.int .i64 (Pl.nmb i s)) ∧ w = w' := by
  have e1 : IntKind.i64.wrap (2 * (i : Int)) = 2 * i := IntWalk.i64_in _ (by omega)
  have e2 : IntKind.i64.wrap (2 * (i : Int) + 1) = 2 * i + 1 := IntWalk.i64_in _ (by omega)
  unfold Pl.nmb
  by_cases h : s = 2
  · subst h
    rw [if_pos rfl]
    go_enter Try.func29, Try.ntmps29
    go_wp2
    go_ret
    exact ⟨rfl, rfl⟩
  · have h2 : (s == 2) = false := by simpa using h
    rw [if_neg h]
    go_enter Try.func29, Try.ntmps29
    go_wp2
    go_ret
    exact ⟨rfl, rfl⟩
theorem wanted_any (C : Pl.GC) (i : Nat) (t : Int) (w : World) :
    Calls Try.prog 28 #[.agg #[.int .i64 (C.f i), .int .i64 (C.g i)], .int .i64 t, .int .i64 C.trip] w fun e w' => e = .returned (.int .i64 (Pl.want C i t)) ∧ Ext w w' := by
  unfold Pl.want
  generalize C.f i = f
  generalize C.g i = g
  generalize C.trip = p
  by_cases h : p ≤ t
  · rw [if_pos h]
    go_enter Try.func28, Try.ntmps28
    go_wp2
    go_ret
    exact ⟨rfl, (by repeat (first | with_reducible exact Ext.refl _ | with_reducible assumption | (with_reducible refine Ext.drew ?_) | (with_reducible refine Ext.drewN ?_ _) | (with_reducible refine Ext.alloc ?_ _) | (with_reducible refine Ext.setCell ?_ ?_ _) | (with_reducible refine Ext.trans ?_ (by with_reducible assumption)) | omega | (focus (simp <;> omega))))⟩
  · have h' : t < p := by omega
    rw [if_neg h]
    by_cases h1 : f ≤ t
    · by_cases h2 : t < g
      · rw [if_pos ⟨h1, h2⟩]
        clear h
        go_enter Try.func28, Try.ntmps28
        go_wp2
        go_ret
        exact ⟨rfl, (by repeat (first | with_reducible exact Ext.refl _ | with_reducible assumption | (with_reducible refine Ext.drew ?_) | (with_reducible refine Ext.drewN ?_ _) | (with_reducible refine Ext.alloc ?_ _) | (with_reducible refine Ext.setCell ?_ ?_ _) | (with_reducible refine Ext.trans ?_ (by with_reducible assumption)) | omega | (focus (simp <;> omega))))⟩
      · have h2' : g ≤ t := by omega
        rw [if_neg (fun hh => h2 hh.2)]
        clear h h2
        go_enter Try.func28, Try.ntmps28
        go_wp2
        go_ret
        exact ⟨rfl, (by repeat (first | with_reducible exact Ext.refl _ | with_reducible assumption | (with_reducible refine Ext.drew ?_) | (with_reducible refine Ext.drewN ?_ _) | (with_reducible refine Ext.alloc ?_ _) | (with_reducible refine Ext.setCell ?_ ?_ _) | (with_reducible refine Ext.trans ?_ (by with_reducible assumption)) | omega | (focus (simp <;> omega))))⟩
    · have h1' : t < f := by omega
      rw [if_neg (fun hh => h1 hh.1)]
      clear h h1
      go_enter Try.func28, Try.ntmps28
      go_wp2
      go_ret
      exact ⟨rfl, (by repeat (first | with_reducible exact Ext.refl _ | with_reducible assumption | (with_reducible refine Ext.drew ?_) | (with_reducible refine Ext.drewN ?_ _) | (with_reducible refine Ext.alloc ?_ _) | (with_reducible refine Ext.setCell ?_ ?_ _) | (with_reducible refine Ext.trans ?_ (by with_reducible assumption)) | omega | (focus (simp <;> omega))))⟩

set_option linter.unusedSimpArgs false in
set_option maxRecDepth 100000 in
set_option maxHeartbeats 1000000 in
theorem on_any (s d : Nat → Int) (w : World) :
    Calls Try.prog 27 #[.agg #[.int .i64 (s 0), .int .i64 (d 0), .int .i64 (s 1), .int .i64 (d 1), .int .i64 (s 2), .int .i64 (d 2)]] w fun e w' => e = .returned (.agg #[.bool (s 0 == 2), .bool (s 0 == 1), .bool (s 1 == 2), .bool (s 1 == 1), .bool (s 2 == 2), .bool (s 2 == 1)]) ∧ Ext w w' := by
  generalize s 0 = s0 at *
  generalize d 0 = d0 at *
  generalize s 1 = s1 at *
  generalize d 1 = d1 at *
  generalize s 2 = s2 at *
  generalize d 2 = d2 at *
  have wl0 : IntKind.i64.wrap 0 = 0 := by decide
  have wl1 : IntKind.i64.wrap 1 = 1 := by decide
  have wl2 : IntKind.i64.wrap 2 = 2 := by decide
  have wl3 : IntKind.i64.wrap 3 = 3 := by decide
  have wl4 : IntKind.i64.wrap 4 = 4 := by decide
  have wl5 : IntKind.i64.wrap 5 = 5 := by decide
  have ix30 : ∀ w, (Instr.index 29 (.agg #[.int .i64 s0, .int .i64 d0, .int .i64 s1, .int .i64 d1, .int .i64 s2, .int .i64 d2]) (.int .i64 0)).run Try.prog w = .ok (.agg #[.int .i64 s0, .int .i64 d0]) w := fun _ => by kernel_rfl
  have ix31 : ∀ w, (Instr.index 29 (.agg #[.int .i64 s0, .int .i64 d0, .int .i64 s1, .int .i64 d1, .int .i64 s2, .int .i64 d2]) (.int .i64 1)).run Try.prog w = .ok (.agg #[.int .i64 s1, .int .i64 d1]) w := fun _ => by kernel_rfl
  have ix32 : ∀ w, (Instr.index 29 (.agg #[.int .i64 s0, .int .i64 d0, .int .i64 s1, .int .i64 d1, .int .i64 s2, .int .i64 d2]) (.int .i64 2)).run Try.prog w = .ok (.agg #[.int .i64 s2, .int .i64 d2]) w := fun _ => by kernel_rfl
  go_enter Try.func27, Try.ntmps27
  go_wp2_with fail
  refine wp_loop_rounds 4 ?_
  rw [rounds_succ]
  go_wp2_with fail
  go_region_held3 (fun V => V.cell? ⟨w.heap.size + 1 + 1 + 1, 0, none⟩ = some (.int .i64 s0)) ((simp [go_sem]; done)) (fail)
  go_wp2_with fail
  rw [rounds_succ]
  go_wp2_with fail
  go_region_held3 (fun V => V.cell? ⟨w.heap.size + 1 + 1 + 1 + 1, 0, none⟩ = some (.int .i64 s1)) ((simp [go_sem]; done)) (fail)
  go_wp2_with fail
  rw [rounds_succ]
  go_wp2_with fail
  go_region_held3 (fun V => V.cell? ⟨w.heap.size + 1 + 1 + 1 + 1 + 1, 0, none⟩ = some (.int .i64 s2)) ((simp [go_sem]; done)) (fail)
  go_wp2_with fail
  rw [rounds_succ]
  go_wp2_with fail
  go_returns
  exact ⟨rfl, (by repeat (first | with_reducible exact Ext.refl _ | with_reducible assumption | (with_reducible refine Ext.drew ?_) | (with_reducible refine Ext.drewN ?_ _) | (with_reducible refine Ext.alloc ?_ _) | (with_reducible refine Ext.setCell ?_ ?_ _) | (with_reducible refine Ext.trans ?_ (by with_reducible assumption)) | omega | (focus (simp <;> omega))))⟩

end Go.Proofs.Ytfignlcplkihpaa
