/- The contracts of the law's frame check and of gates.Fresh.
   Conditions: none. -/
import Derived.Test.YtfignlcplkihpaaGates
import Derived.BigQuiet
namespace Go.Proofs.Ytfignlcplkihpaa
open Go.ChangeShapes Go.WideShapes Go.ChangeAt Go.RowKit

/-- The frame is permitted. -/
def FrameOK (L P M D : Int) : Prop := 16 ≤ L ∧ L ≤ 1048576 ∧ 64 ≤ P ∧ P ≤ 4096 ∧ 1 ≤ M ∧ M ≤ P / 4 ∧ 1 ≤ D ∧ D ≤ M ∧ D ≤ 1024
instance (L P M D : Int) : Decidable (FrameOK L P M D) := by unfold FrameOK; exact inferInstance
theorem p4 {P : Int} (h : 64 ≤ P) (h2 : P ≤ 4096) : P.tdiv 4 = P / 4 := Int.tdiv_eq_ediv_of_nonneg (by omega)

set_option linter.unusedSimpArgs false in
set_option maxRecDepth 100000 in
set_option maxHeartbeats 4000000 in
theorem ok_f (L P M D : Int) (w : World) (h : ¬ FrameOK L P M D) :
    Calls Try.prog 5 #[.agg #[.int .i64 L, .int .i64 P, .int .i64 M, .int .i64 D]] w fun e w' => e = .returned (.bool false) ∧ Ext w w' := by
  by_cases h0 : 16 ≤ L
  rotate_left
  · clear h
    have k0 : decide (16 ≤ L) = false := decide_eq_false h0
    go_enter Try.func5, Try.ntmps5
    go_wp2_with fail
    go_ret
    exact ⟨(by first | rfl | exact ret_true (by simp <;> omega)), (by repeat (first | with_reducible exact Ext.refl _ | with_reducible assumption | (with_reducible refine Ext.drew ?_) | (with_reducible refine Ext.drewN ?_ _) | (with_reducible refine Ext.alloc ?_ _) | (with_reducible refine Ext.setCell ?_ ?_ _) | (with_reducible refine Ext.trans ?_ (by with_reducible assumption)) | omega | (focus (simp <;> omega))))⟩
  by_cases h1 : L ≤ 1048576
  rotate_left
  · clear h
    have k0 : decide (16 ≤ L) = true := decide_eq_true h0
    have k1 : decide (L ≤ 1048576) = false := decide_eq_false h1
    go_enter Try.func5, Try.ntmps5
    go_wp2_with fail
    go_ret
    exact ⟨(by first | rfl | exact ret_true (by simp <;> omega)), (by repeat (first | with_reducible exact Ext.refl _ | with_reducible assumption | (with_reducible refine Ext.drew ?_) | (with_reducible refine Ext.drewN ?_ _) | (with_reducible refine Ext.alloc ?_ _) | (with_reducible refine Ext.setCell ?_ ?_ _) | (with_reducible refine Ext.trans ?_ (by with_reducible assumption)) | omega | (focus (simp <;> omega))))⟩
  by_cases h2 : 64 ≤ P
  rotate_left
  · clear h
    have k0 : decide (16 ≤ L) = true := decide_eq_true h0
    have k1 : decide (L ≤ 1048576) = true := decide_eq_true h1
    have k2 : decide (64 ≤ P) = false := decide_eq_false h2
    go_enter Try.func5, Try.ntmps5
    go_wp2_with fail
    go_ret
    exact ⟨(by first | rfl | exact ret_true (by simp <;> omega)), (by repeat (first | with_reducible exact Ext.refl _ | with_reducible assumption | (with_reducible refine Ext.drew ?_) | (with_reducible refine Ext.drewN ?_ _) | (with_reducible refine Ext.alloc ?_ _) | (with_reducible refine Ext.setCell ?_ ?_ _) | (with_reducible refine Ext.trans ?_ (by with_reducible assumption)) | omega | (focus (simp <;> omega))))⟩
  by_cases h3 : P ≤ 4096
  rotate_left
  · clear h
    have k0 : decide (16 ≤ L) = true := decide_eq_true h0
    have k1 : decide (L ≤ 1048576) = true := decide_eq_true h1
    have k2 : decide (64 ≤ P) = true := decide_eq_true h2
    have k3 : decide (P ≤ 4096) = false := decide_eq_false h3
    go_enter Try.func5, Try.ntmps5
    go_wp2_with fail
    go_ret
    exact ⟨(by first | rfl | exact ret_true (by simp <;> omega)), (by repeat (first | with_reducible exact Ext.refl _ | with_reducible assumption | (with_reducible refine Ext.drew ?_) | (with_reducible refine Ext.drewN ?_ _) | (with_reducible refine Ext.alloc ?_ _) | (with_reducible refine Ext.setCell ?_ ?_ _) | (with_reducible refine Ext.trans ?_ (by with_reducible assumption)) | omega | (focus (simp <;> omega))))⟩
  by_cases h4 : 1 ≤ M
  rotate_left
  · clear h
    have k0 : decide (16 ≤ L) = true := decide_eq_true h0
    have k1 : decide (L ≤ 1048576) = true := decide_eq_true h1
    have k2 : decide (64 ≤ P) = true := decide_eq_true h2
    have k3 : decide (P ≤ 4096) = true := decide_eq_true h3
    have k4 : decide (1 ≤ M) = false := decide_eq_false h4
    go_enter Try.func5, Try.ntmps5
    go_wp2_with fail
    go_ret
    exact ⟨(by first | rfl | exact ret_true (by simp <;> omega)), (by repeat (first | with_reducible exact Ext.refl _ | with_reducible assumption | (with_reducible refine Ext.drew ?_) | (with_reducible refine Ext.drewN ?_ _) | (with_reducible refine Ext.alloc ?_ _) | (with_reducible refine Ext.setCell ?_ ?_ _) | (with_reducible refine Ext.trans ?_ (by with_reducible assumption)) | omega | (focus (simp <;> omega))))⟩
  by_cases h5 : M ≤ P / 4
  rotate_left
  · clear h
    have k0 : decide (16 ≤ L) = true := decide_eq_true h0
    have k1 : decide (L ≤ 1048576) = true := decide_eq_true h1
    have k2 : decide (64 ≤ P) = true := decide_eq_true h2
    have k3 : decide (P ≤ 4096) = true := decide_eq_true h3
    have k4 : decide (1 ≤ M) = true := decide_eq_true h4
    have w4 : IntKind.i64.wrap (P / 4) = P / 4 := IntWalk.i64_in _ (by omega)
    have t4 : P.tdiv 4 = P / 4 := p4 h2 h3
    have k5 : decide (M ≤ P / 4) = false := decide_eq_false h5
    go_enter Try.func5, Try.ntmps5
    go_wp2_with fail
    go_ret
    exact ⟨(by first | rfl | exact ret_true (by simp <;> omega)), (by repeat (first | with_reducible exact Ext.refl _ | with_reducible assumption | (with_reducible refine Ext.drew ?_) | (with_reducible refine Ext.drewN ?_ _) | (with_reducible refine Ext.alloc ?_ _) | (with_reducible refine Ext.setCell ?_ ?_ _) | (with_reducible refine Ext.trans ?_ (by with_reducible assumption)) | omega | (focus (simp <;> omega))))⟩
  by_cases h6 : 1 ≤ D
  rotate_left
  · clear h
    have k0 : decide (16 ≤ L) = true := decide_eq_true h0
    have k1 : decide (L ≤ 1048576) = true := decide_eq_true h1
    have k2 : decide (64 ≤ P) = true := decide_eq_true h2
    have k3 : decide (P ≤ 4096) = true := decide_eq_true h3
    have k4 : decide (1 ≤ M) = true := decide_eq_true h4
    have w4 : IntKind.i64.wrap (P / 4) = P / 4 := IntWalk.i64_in _ (by omega)
    have t4 : P.tdiv 4 = P / 4 := p4 h2 h3
    have k5 : decide (M ≤ P / 4) = true := decide_eq_true h5
    have k6 : decide (1 ≤ D) = false := decide_eq_false h6
    go_enter Try.func5, Try.ntmps5
    go_wp2_with fail
    go_ret
    exact ⟨(by first | rfl | exact ret_true (by simp <;> omega)), (by repeat (first | with_reducible exact Ext.refl _ | with_reducible assumption | (with_reducible refine Ext.drew ?_) | (with_reducible refine Ext.drewN ?_ _) | (with_reducible refine Ext.alloc ?_ _) | (with_reducible refine Ext.setCell ?_ ?_ _) | (with_reducible refine Ext.trans ?_ (by with_reducible assumption)) | omega | (focus (simp <;> omega))))⟩
  by_cases h7 : D ≤ M
  rotate_left
  · clear h
    have k0 : decide (16 ≤ L) = true := decide_eq_true h0
    have k1 : decide (L ≤ 1048576) = true := decide_eq_true h1
    have k2 : decide (64 ≤ P) = true := decide_eq_true h2
    have k3 : decide (P ≤ 4096) = true := decide_eq_true h3
    have k4 : decide (1 ≤ M) = true := decide_eq_true h4
    have w4 : IntKind.i64.wrap (P / 4) = P / 4 := IntWalk.i64_in _ (by omega)
    have t4 : P.tdiv 4 = P / 4 := p4 h2 h3
    have k5 : decide (M ≤ P / 4) = true := decide_eq_true h5
    have k6 : decide (1 ≤ D) = true := decide_eq_true h6
    have k7 : decide (D ≤ M) = false := decide_eq_false h7
    go_enter Try.func5, Try.ntmps5
    go_wp2_with fail
    go_ret
    exact ⟨(by first | rfl | exact ret_true (by simp <;> omega)), (by repeat (first | with_reducible exact Ext.refl _ | with_reducible assumption | (with_reducible refine Ext.drew ?_) | (with_reducible refine Ext.drewN ?_ _) | (with_reducible refine Ext.alloc ?_ _) | (with_reducible refine Ext.setCell ?_ ?_ _) | (with_reducible refine Ext.trans ?_ (by with_reducible assumption)) | omega | (focus (simp <;> omega))))⟩
  by_cases h8 : D ≤ 1024
  rotate_left
  · clear h
    exact absurd (by omega) h8
  exact absurd ⟨h0, h1, h2, h3, h4, h5, h6, h7, h8⟩ h
set_option linter.unusedSimpArgs false in
set_option maxRecDepth 100000 in
set_option maxHeartbeats 4000000 in
theorem ok_t (L P M D : Int) (w : World) (h : FrameOK L P M D) :
    Calls Try.prog 5 #[.agg #[.int .i64 L, .int .i64 P, .int .i64 M, .int .i64 D]] w fun e w' => e = .returned (.bool true) ∧ Ext w w' := by
  obtain ⟨h0, h1, h2, h3, h4, h5, h6, h7, h8⟩ := h
  have k0 : decide (16 ≤ L) = true := decide_eq_true h0
  have k1 : decide (L ≤ 1048576) = true := decide_eq_true h1
  have k2 : decide (64 ≤ P) = true := decide_eq_true h2
  have k3 : decide (P ≤ 4096) = true := decide_eq_true h3
  have k4 : decide (1 ≤ M) = true := decide_eq_true h4
  have w4 : IntKind.i64.wrap (P / 4) = P / 4 := IntWalk.i64_in _ (by omega)
  have t4 : P.tdiv 4 = P / 4 := p4 h2 h3
  have k5 : decide (M ≤ P / 4) = true := decide_eq_true h5
  have k6 : decide (1 ≤ D) = true := decide_eq_true h6
  have k7 : decide (D ≤ M) = true := decide_eq_true h7
  have k8 : decide (D ≤ 1024) = true := decide_eq_true h8
  go_enter Try.func5, Try.ntmps5
  go_wp2_with fail
  go_ret
  exact ⟨(by first | rfl | exact ret_true (by simp <;> omega)), (by repeat (first | with_reducible exact Ext.refl _ | with_reducible assumption | (with_reducible refine Ext.drew ?_) | (with_reducible refine Ext.drewN ?_ _) | (with_reducible refine Ext.alloc ?_ _) | (with_reducible refine Ext.setCell ?_ ?_ _) | (with_reducible refine Ext.trans ?_ (by with_reducible assumption)) | omega | (focus (simp <;> omega))))⟩

theorem fresh_ret {W : World} {n : Nat} {u0 u1 u2 u3 u4 u5 : Value} {tmps : Array Value} (Z : Blk W n [u0, u1, u2, u3, u4, u5]) (h : tmps[0]? = some (.pointer (some ⟨n, 0, none⟩))) :
    (results Try.f6 tmps).run Try.prog W = .ok (.agg #[u0, u1, u2, u3, u4, u5]) W := by
  have z0 := Z.at 0 _ rfl
  have z1 := Z.at 1 _ rfl
  have z2 := Z.at 2 _ rfl
  have z3 := Z.at 3 _ rfl
  have z4 := Z.at 4 _ rfl
  have z5 := Z.at 5 _ rfl
  simp [results, Try.results6, go_sem, h, z0, z1, z2, z3, z4, z5]
set_option linter.unusedSimpArgs false in
set_option maxRecDepth 100000 in
set_option maxHeartbeats 4000000 in
theorem fresh_t (w : World) :
    Calls Try.prog 6 #[] w fun e w' => e = .returned (.agg #[.int .i64 0, .int .i64 4096, .int .i64 0, .int .i64 4096, .int .i64 0, .int .i64 4096]) ∧ Ext w w' := by
  have FB := Blk.new w [.int .i64 0, .int .i64 4096, .int .i64 0, .int .i64 4096, .int .i64 0, .int .i64 4096] 29
  go_enter Try.func6, Try.ntmps6
  go_wp2_with fail
  refine bodyPost_ret (fresh_ret (FB.alloc _) rfl) rfl ⟨rfl, ?_⟩
  exact ((Ext.refl w).alloc _).alloc _

end Go.Proofs.Ytfignlcplkihpaa
