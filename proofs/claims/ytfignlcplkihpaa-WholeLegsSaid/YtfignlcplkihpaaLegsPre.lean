/- What the law of the legs calls ahead of gates.Run, in letters; the law's early exits.
   Conditions: the bounds that each names. -/
import Derived.Test.YtfignlcplkihpaaCentred
import Derived.Test.YtfignlcplkihpaaOverC
import Derived.Test.YtfignlcplkihpaaCalls
import Derived.Test.YtfignlcplkihpaaOpenTop
namespace Go.Proofs.Ytfignlcplkihpaa
open Go.ChangeShapes Go.WideShapes Go.ChangeAt Go.RowKit

theorem circ_any (x y l : Int) (h : OverOK x y l) : ∃ u v b, VoltOK u ∧ VoltOK v ∧ ∀ w : World,
    Calls Try.prog 7 #[.int .i64 x, .int .i64 y, .int .i64 l] w fun e w' => e = .returned (.tuple #[.int .i64 u, .int .i64 v, .bool b, .nilIface]) ∧ Ext w w' := by
  have rb := Pl.rad_bd l h.1.1 h.1.2
  rcases Int.lt_or_le (Pl.rad l * Pl.rad l) (x * x + y * y) with hi | hi
  · have ⟨l0, l1, l2⟩ := scale_facts (over_within h) hi
    have f1 := Pl.sc_bd x (Pl.rad l) (ups x y) (by omega) (by unfold ups; omega) l0
    have f2 := Pl.sc_bd y (Pl.rad l) (ups x y) (by omega) (by unfold ups; omega) l0
    obtain ⟨a1, a2⟩ := f1
    obtain ⟨b1, b2⟩ := f2
    have ⟨_, ⟨c1, c2⟩, ⟨d1, d2⟩⟩ := h
    exact ⟨_, _, true, ⟨by omega, by omega⟩, ⟨by omega, by omega⟩, fun w => circle_cut x y l w h hi⟩
  · exact ⟨x, y, false, h.2.1, h.2.2, fun w => circle_in x y l w h hi⟩
theorem cn_bd' {T n : Int} (hT : 0 ≤ T) : 0 ≤ Pl.cn T n ∧ Pl.cn T n ≤ T := by unfold Pl.cn; omega
theorem duty_any (x y l p : Int) (h : DutyOK x y l p) : ∃ c0 c1 c2 b, (0 ≤ c0 ∧ c0 ≤ p) ∧ (0 ≤ c1 ∧ c1 ≤ p) ∧ (0 ≤ c2 ∧ c2 ≤ p) ∧ ∀ w : World,
    Calls Try.prog 9 #[.int .i64 x, .int .i64 y, .int .i64 l, .int .i64 p] w fun e w' => e = .returned (.tuple #[.agg #[.int .i64 c0, .int .i64 c1, .int .i64 c2, .bool b], .nilIface]) ∧ Ext w w' := by
  have hp : 0 ≤ p := by have := h.2.1.1; omega
  exact ⟨_, _, _, _, cn_bd' hp, cn_bd' hp, cn_bd' hp, fun w => duty_ok x y l p w h⟩
theorem clip_ext (n lo hi : Int) (w : World) :
    Calls Try.prog 8 #[.int .i64 n, .int .i64 lo, .int .i64 hi] w fun e w' => e = .returned (.int .i64 (clip n lo hi)) ∧ Ext w w' :=
  (clip_any n lo hi w).mono fun _ _ h => ⟨h.1, by rw [h.2]; exact Ext.refl _⟩


set_option linter.unusedSimpArgs false in
set_option maxRecDepth 100000 in
set_option maxHeartbeats 4000000 in
theorem legs_out (a0 a2 : Option Addr) (n0 k0 n2 k2 : Nat) (L P M D : Int) (w : World) (h : ¬ FrameOK L P M D ∨ FrameOK L P M D ∧ 20 < n0 ∨ FrameOK L P M D ∧ n0 ≤ 20 ∧ 600 < P) :
    Calls Try.prog 3 #[.slice a0 n0 k0, .agg #[.int .i64 L, .int .i64 P, .int .i64 M, .int .i64 D], .slice a2 n2 k2] w fun e w' => e = .returned (.bool true) ∧ Ext w w' := by
  have B := Blk.new w [.int .i64 L, .int .i64 P, .int .i64 M, .int .i64 D] 24
  rcases h with h | ⟨h, hn⟩ | ⟨h, hn, hp⟩
  · skip
    have HF := Lib.hid (fun V => ok_f L P M D V h)
    clear h
    go_enter Try.func3, Try.ntmps3
    go_wp2_with fail
    refine (centred_t _).mono ?_
    rintro e w1 ⟨rfl, hx1⟩
    have B := B.ext hx1
    have b0 := B.at 0 _ rfl
    have b1 := B.at 1 _ rfl
    have b2 := B.at 2 _ rfl
    have b3 := B.at 3 _ rfl
    have bl := B.lt
    have bf := B.fr
    go_wp2_with fail
    refine (HF.out _).mono ?_
    rintro e w2 ⟨rfl, hx2⟩
    have B := B.ext hx2
    have b0 := B.at 0 _ rfl
    have b1 := B.at 1 _ rfl
    have b2 := B.at 2 _ rfl
    have b3 := B.at 3 _ rfl
    have bl := B.lt
    have bf := B.fr
    go_wp2_with fail
    refine (centred_t _).mono ?_
    rintro e w3 ⟨rfl, hx3⟩
    go_wp2_with fail
    go_ret
    exact ⟨(by first | rfl | exact ret_true (by simp <;> omega)), (by repeat (first | with_reducible exact Ext.refl _ | with_reducible assumption | (with_reducible refine Ext.drew ?_) | (with_reducible refine Ext.drewN ?_ _) | (with_reducible refine Ext.alloc ?_ _) | (with_reducible refine Ext.setCell ?_ ?_ _) | (with_reducible refine Ext.trans ?_ (by with_reducible assumption)) | omega | (focus (simp <;> omega))))⟩
  · skip
    have q1 : decide ((20 : Int) < (n0 : Int)) = true := decide_eq_true (by omega)
    have q2 : (20 : Int) < (n0 : Int) := by omega
    have HF := Lib.hid (fun V => ok_t L P M D V h)
    clear h
    go_enter Try.func3, Try.ntmps3
    go_wp2_with fail
    refine (centred_t _).mono ?_
    rintro e w1 ⟨rfl, hx1⟩
    have B := B.ext hx1
    have b0 := B.at 0 _ rfl
    have b1 := B.at 1 _ rfl
    have b2 := B.at 2 _ rfl
    have b3 := B.at 3 _ rfl
    have bl := B.lt
    have bf := B.fr
    go_wp2_with fail
    refine (HF.out _).mono ?_
    rintro e w2 ⟨rfl, hx2⟩
    have B := B.ext hx2
    have b0 := B.at 0 _ rfl
    have b1 := B.at 1 _ rfl
    have b2 := B.at 2 _ rfl
    have b3 := B.at 3 _ rfl
    have bl := B.lt
    have bf := B.fr
    go_wp2_with fail
    refine (centred_t _).mono ?_
    rintro e w3 ⟨rfl, hx3⟩
    go_wp2_with fail
    go_ret
    exact ⟨(by first | rfl | exact ret_true (by simp <;> omega)), (by repeat (first | with_reducible exact Ext.refl _ | with_reducible assumption | (with_reducible refine Ext.drew ?_) | (with_reducible refine Ext.drewN ?_ _) | (with_reducible refine Ext.alloc ?_ _) | (with_reducible refine Ext.setCell ?_ ?_ _) | (with_reducible refine Ext.trans ?_ (by with_reducible assumption)) | omega | (focus (simp <;> omega))))⟩
  · skip
    have q1 : decide ((20 : Int) < (n0 : Int)) = false := decide_eq_false (by omega)
    have q2 : (n0 : Int) ≤ 20 := by omega
    have q3 : decide ((600 : Int) < P) = true := decide_eq_true hp
    have HF := Lib.hid (fun V => ok_t L P M D V h)
    clear h
    go_enter Try.func3, Try.ntmps3
    go_wp2_with fail
    refine (centred_t _).mono ?_
    rintro e w1 ⟨rfl, hx1⟩
    have B := B.ext hx1
    have b0 := B.at 0 _ rfl
    have b1 := B.at 1 _ rfl
    have b2 := B.at 2 _ rfl
    have b3 := B.at 3 _ rfl
    have bl := B.lt
    have bf := B.fr
    go_wp2_with fail
    refine (HF.out _).mono ?_
    rintro e w2 ⟨rfl, hx2⟩
    have B := B.ext hx2
    have b0 := B.at 0 _ rfl
    have b1 := B.at 1 _ rfl
    have b2 := B.at 2 _ rfl
    have b3 := B.at 3 _ rfl
    have bl := B.lt
    have bf := B.fr
    go_wp2_with fail
    refine (centred_t _).mono ?_
    rintro e w3 ⟨rfl, hx3⟩
    go_wp2_with fail
    go_ret
    exact ⟨(by first | rfl | exact ret_true (by simp <;> omega)), (by repeat (first | with_reducible exact Ext.refl _ | with_reducible assumption | (with_reducible refine Ext.drew ?_) | (with_reducible refine Ext.drewN ?_ _) | (with_reducible refine Ext.alloc ?_ _) | (with_reducible refine Ext.setCell ?_ ?_ _) | (with_reducible refine Ext.trans ?_ (by with_reducible assumption)) | omega | (focus (simp <;> omega))))⟩

end Go.Proofs.Ytfignlcplkihpaa
