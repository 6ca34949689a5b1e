/- The laws' fixed calls (awake), fit, and both limits at one go: what they return and what is known of it.
   Conditions: none beyond each lemma's own. -/
import Derived.Test.YtpeboabgcjbjcaaOver
import Derived.Test.YtpeboabgcjbjcaaRefOver
import Derived.Test.YtpeboabgcjbjcaaCalls
namespace Go.Proofs.Ytpeboabgcjbjcaa
open Go.ChangeShapes Go.WideShapes Go.ChangeAt Go.RowKit

/-- u lies between 0 and x. -/
def Betw (u x : Int) : Prop := (0 ≤ x → 0 ≤ u ∧ u ≤ x) ∧ (x ≤ 0 → u ≤ 0 ∧ x ≤ u)
theorem Betw.refl (x : Int) : Betw x x := ⟨fun h => ⟨h, Int.le_refl _⟩, fun h => ⟨h, Int.le_refl _⟩⟩
theorem Betw.abs {u x : Int} (h : Betw u x) : max u (-u) ≤ max x (-x) := by
  obtain ⟨a, b⟩ := h; omega
theorem Betw.sign {u x : Int} (h : Betw u x) : 0 ≤ u * x := Pl.mul_sign ⟨fun q => (h.1 q).1, fun q => (h.2 q).1⟩
theorem Betw.volt {u x : Int} (h : Betw u x) (hx : VoltOK x) : VoltOK u := by
  obtain ⟨a, b⟩ := h; obtain ⟨c, d⟩ := hx; exact ⟨by omega, by omega⟩

/-- What Circle leaves. -/
def CircF (x y l u v : Int) (b : Bool) : Prop :=
  Betw u x ∧ Betw v y ∧ u * u + v * v ≤ Pl.rad l * Pl.rad l ∧ max (x * v - y * u) (-(x * v - y * u)) ≤ max x (-x) + max y (-y) ∧
  (b = true → Pl.rad l * Pl.rad l < x * x + y * y) ∧ (b = false → x * x + y * y ≤ Pl.rad l * Pl.rad l ∧ u = x ∧ v = y)
theorem dir_self (x y : Int) : max (x * y - y * x) (-(x * y - y * x)) ≤ max x (-x) + max y (-y) := by
  have e : x * y - y * x = 0 := by rw [Int.mul_comm y x]; omega
  rw [e]; omega
theorem circle_any (x y l : Int) (h : OverOK x y l) : ∃ u v b, CircF x y l u v b ∧ ∀ w : World,
    Calls Try.prog 12 #[.int .i64 x, .int .i64 y, .int .i64 l] w fun e w' => e = .returned (.tuple #[.int .i64 u, .int .i64 v, .bool b, .nilIface]) ∧ Ext w w' := by
  have rb := Pl.rad_bd l h.1.1 h.1.2
  rcases Int.lt_or_le (Pl.rad l * Pl.rad l) (x * x + y * y) with hi | hi
  · refine ⟨_, _, true, ?_, fun w => circle_cut x y l w h hi⟩
    have ⟨l0, l1, l2⟩ := scale_facts (over_within h) hi
    have f1 := Pl.sc_bd x (Pl.rad l) (ups x y) (by omega) (by unfold ups; omega) l0
    have f2 := Pl.sc_bd y (Pl.rad l) (ups x y) (by omega) (by unfold ups; omega) l0
    refine ⟨f1, f2, Pl.sc_in x y _ _ l0 (Pl.upq_ge _), Pl.direct x y _ _ (Pl.rad l) (ups x y) l0 (Pl.td_err _ _ l0) (Pl.td_err _ _ l0), fun _ => hi, fun q => by cases q⟩
  · exact ⟨x, y, false, ⟨Betw.refl x, Betw.refl y, hi, dir_self x y, fun q => (by cases q), fun _ => ⟨hi, rfl, rfl⟩⟩, fun w => circle_in x y l w h hi⟩
/-- What Hexagon leaves. -/
def HexF (x y l u v : Int) (b : Bool) : Prop :=
  Betw u x ∧ Betw v y ∧ Pl.sp u v ≤ l ∧ max (x * v - y * u) (-(x * v - y * u)) ≤ max x (-x) + max y (-y) ∧
  (b = true → l < Pl.sp x y ∧ (24 ≤ Pl.rad l → (Pl.rad l - 24) * (Pl.rad l - 24) ≤ u * u + v * v)) ∧ (b = false → Pl.sp x y ≤ l ∧ u = x ∧ v = y)
theorem hexagon_any (x y l : Int) (h : OverOK x y l) : ∃ u v b, HexF x y l u v b ∧ ∀ w : World,
    Calls Try.prog 15 #[.int .i64 x, .int .i64 y, .int .i64 l] w fun e w' => e = .returned (.tuple #[.int .i64 u, .int .i64 v, .bool b, .nilIface]) ∧ Ext w w' := by
  rcases Int.lt_or_le l (Pl.sp x y) with hi | hi
  · refine ⟨_, _, true, ?_, fun w => hexagon_cut x y l w h hi⟩
    have ⟨n0, n1, _, _, q1, q2, q3, q4⟩ := hex_facts h hi
    exact ⟨⟨q1, q2⟩, ⟨q3, q4⟩, Pl.hex_in x y l h.1.1 hi, Pl.direct x y _ _ (l - 8) (Pl.sp x y) n0 (Pl.td_err _ _ n0) (Pl.td_err _ _ n0), fun _ => ⟨hi, Pl.more x y l h.1.1 h.1.2 hi⟩, fun q => by cases q⟩
  · exact ⟨x, y, false, ⟨Betw.refl x, Betw.refl y, hi, dir_self x y, fun q => (by cases q), fun _ => ⟨hi, rfl, rfl⟩⟩, fun w => hexagon_in x y l w h hi⟩

theorem fit22 (x y l : Int) (w : World) :
    Calls Try.prog 17 #[.int .i64 x, .int .i64 y, .int .i64 l] w fun e w' =>
      e = .returned (.tuple #[.int .i64 (clip x (-1048576) 1048576), .int .i64 (clip y (-1048576) 1048576), .int .i64 (clip l 16 1048576)]) ∧ Ext w w' := by
  go_enter Try.func17, Try.ntmps17
  go_wp2_with fail
  refine (clip_any x (-1048576) 1048576 _).mono ?_
  rintro e w1 ⟨rfl, rfl⟩
  go_wp2_with fail
  refine (clip_any y (-1048576) 1048576 _).mono ?_
  rintro e w2 ⟨rfl, rfl⟩
  go_wp2_with fail
  refine (clip_any l 16 1048576 _).mono ?_
  rintro e w3 ⟨rfl, rfl⟩
  go_wp2_with fail
  go_returns
  exact ⟨rfl, (by repeat (first | with_reducible exact Ext.refl _ | with_reducible assumption | (with_reducible refine Ext.drew ?_) | (with_reducible refine Ext.drewN ?_ _) | (with_reducible refine Ext.alloc ?_ _) | (with_reducible refine Ext.setCell ?_ ?_ _) | (with_reducible refine Ext.trans ?_ (by with_reducible assumption)) | omega | (focus (simp <;> omega))))⟩

theorem awake22 (w : World) :
    Calls Try.prog 11 #[] w fun e w' => e = .returned (.bool true) ∧ Ext w w' := by
  have ok : OverOK 1000 0 1000 := ⟨⟨by decide, by decide⟩, ⟨by decide, by decide⟩, ⟨by decide, by decide⟩⟩
  have r0 : Pl.rad 1000 = 575 := by decide
  have q5 : Pl.isq (1000 * 1000 + 0 * 0) = 1000 := (Pl.isq_unique (n := 1000 * 1000 + 0 * 0) (r := 1000) (by decide) (by decide) (by decide) (by decide)).symm
  have q4 : ups 1000 0 = 1000 := by unfold ups Pl.upq; rw [q5]; decide
  have i1 : Pl.rad 1000 * Pl.rad 1000 < 1000 * 1000 + 0 * 0 := by rw [r0]; decide
  have s1 : Pl.sp 1000 0 = 1500 := by decide
  have i2 : (1000 : Int) < Pl.sp 1000 0 := by rw [s1]; decide
  have d1 : ((1000 : Int) * Pl.rad 1000).tdiv (ups 1000 0) = 575 := by rw [r0, q4]; decide
  have d2 : ((0 : Int) * Pl.rad 1000).tdiv (ups 1000 0) = 0 := by rw [r0, q4]; decide
  have d3 : ((1000 : Int) * (1000 - 8)).tdiv (Pl.sp 1000 0) = 661 := by rw [s1]; decide
  have d4 : ((0 : Int) * (1000 - 8)).tdiv (Pl.sp 1000 0) = 0 := by rw [s1]; decide
  have c1 := fun w => circle_cut 1000 0 1000 w ok i1
  have c2 := fun w => hexagon_cut 1000 0 1000 w ok i2
  rw [d1, d2] at c1
  rw [d3, d4] at c2
  have C1 := Lib.hid c1
  have C2 := Lib.hid c2
  clear c1 c2 d1 d2 d3 d4 i1 i2 s1 q4 q5 r0
  go_enter Try.func11, Try.ntmps11
  go_wp2_with fail
  refine (C1.out _).mono ?_
  rintro e w1 ⟨rfl, hxw1⟩
  go_wp2_with fail
  refine (C2.out _).mono ?_
  rintro e w2 ⟨rfl, hxw2⟩
  go_wp2_with fail
  go_ret
  exact ⟨(by first | rfl | exact ret_true (by simp <;> omega)), (by repeat (first | with_reducible exact Ext.refl _ | with_reducible assumption | (with_reducible refine Ext.drew ?_) | (with_reducible refine Ext.drewN ?_ _) | (with_reducible refine Ext.alloc ?_ _) | (with_reducible refine Ext.setCell ?_ ?_ _) | (with_reducible refine Ext.trans ?_ (by with_reducible assumption)) | omega | (focus (simp <;> omega))))⟩

end Go.Proofs.Ytpeboabgcjbjcaa
