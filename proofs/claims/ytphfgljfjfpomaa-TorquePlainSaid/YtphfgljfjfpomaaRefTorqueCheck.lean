/- The contract of the reference's Check (chapter 36).
   Conditions: none. -/
import Derived.Test.YtphfgljfjfpomaaTorqueCheck
namespace Go.Proofs.Ytphfgljfjfpomaa
open Go.ChangeShapes Go.WideShapes Go.ChangeAt Go.RowKit

set_option maxRecDepth 100000 in
set_option maxHeartbeats 2000000 in
theorem check36 (t : Tc) (w : World) (h : TcAt w t) :
    Calls Try.prog 10 #[.agg #[.int .i64 t.most, .int .i64 t.per, .int .i64 t.mx, .slice t.c0.a t.c0.v.nx t.c0.k, .slice t.c0.b t.c0.v.ny t.c0.l, .slice t.c1.a t.c1.v.nx t.c1.k, .slice t.c1.b t.c1.v.ny t.c1.l, .slice t.c2.a t.c2.v.nx t.c2.k, .slice t.c2.b t.c2.v.ny t.c2.l, .slice t.c3.a t.c3.v.nx t.c3.k, .slice t.c3.b t.c3.v.ny t.c3.l]] w fun e w' => e = .returned (.int .i64 (tck t)) ∧ Ext w w' := by
  by_cases hr : TRange t
  · have ⟨⟨q0, q1⟩, ⟨q2, q3⟩, ⟨q4, q5⟩⟩ := hr
    have TK : Hid (tck t = if Pl.chk t.c0.v ≠ 0 then Pl.chk t.c0.v else if Pl.chk t.c1.v ≠ 0 then Pl.chk t.c1.v else if Pl.chk t.c2.v ≠ 0 then Pl.chk t.c2.v else Pl.chk t.c3.v) := Lib.hid (by unfold tck; rw [if_neg (fun hh => hh hr)])
    generalize tck t = r at *
    have HH := Lib.hid h
    clear h hr
    go_enter Try.func10, Try.ntmps10
    go_wp2_with fail
    go_loopw [44] (fun i wr => ∃ j : Nat, j ≤ 4 ∧ i = .int .i64 j ∧ Hid ((0 < j → Pl.chk t.c0.v = 0) ∧ (1 < j → Pl.chk t.c1.v = 0) ∧ (2 < j → Pl.chk t.c2.v = 0) ∧ (3 < j → Pl.chk t.c3.v = 0)) ∧ Blk wr (w.heap.size + 1) [.slice t.c0.a t.c0.v.nx t.c0.k, .slice t.c0.b t.c0.v.ny t.c0.l, .slice t.c1.a t.c1.v.nx t.c1.k, .slice t.c1.b t.c1.v.ny t.c1.l, .slice t.c2.a t.c2.v.nx t.c2.k, .slice t.c2.b t.c2.v.ny t.c2.l, .slice t.c3.a t.c3.v.nx t.c3.k, .slice t.c3.b t.c3.v.ny t.c3.l] ∧ Ext w wr) (fun i _ => 4 - (intOf i).toNat)
    case atStart => exact ⟨0, by omega, rfl, Lib.hid ⟨fun h => absurd h (by omega), fun h => absurd h (by omega), fun h => absurd h (by omega), fun h => absurd h (by omega)⟩, Blk.new1 w _ _ _, (by repeat (first | with_reducible exact Ext.refl _ | with_reducible assumption | (with_reducible refine Ext.drew ?_) | (with_reducible refine Ext.drewN ?_ _) | (with_reducible refine Ext.alloc ?_ _) | (with_reducible refine Ext.setCell ?_ ?_ _) | (with_reducible refine Ext.trans ?_ (by with_reducible assumption)) | omega | (focus (simp <;> omega))))⟩
    case round =>
      obtain ⟨j, hj, rfl, I, B, hxr⟩ := hrel
      have bn := B.lt
      have hj5 : j = 0 ∨ j = 1 ∨ j = 2 ∨ j = 3 ∨ j = 4 := by omega
      rcases hj5 with rfl | rfl | rfl | rfl | rfl
      · have d0 := B.at 0 _ rfl
        have d1 := B.at 1 _ rfl
        by_cases hz : Pl.chk t.c0.v = 0
        · have I2 : Hid ((0 < 1 → Pl.chk t.c0.v = 0) ∧ (1 < 1 → Pl.chk t.c1.v = 0) ∧ (2 < 1 → Pl.chk t.c2.v = 0) ∧ (3 < 1 → Pl.chk t.c3.v = 0)) := Lib.hid ⟨fun _ => hz, fun h => absurd h (by omega), fun h => absurd h (by omega), fun h => absurd h (by omega)⟩
          have HZ := Lib.hid hz
          clear hz
          go_wp2_with fail
          refine (check09_cu t.c0 (HH.out.c0.ext (by repeat (first | with_reducible exact Ext.refl _ | with_reducible assumption | (with_reducible refine Ext.drew ?_) | (with_reducible refine Ext.drewN ?_ _) | (with_reducible refine Ext.alloc ?_ _) | (with_reducible refine Ext.setCell ?_ ?_ _) | (with_reducible refine Ext.trans ?_ (by with_reducible assumption)) | omega | (focus (simp <;> omega)))))).mono ?_
          rw [HZ.out]
          rintro e w1 ⟨rfl, hx1⟩
          have B1 := (B.alloc (.cells #[.slice t.c0.a t.c0.v.nx t.c0.k, .slice t.c0.b t.c0.v.ny t.c0.l] 24)).ext hx1
          go_wp2_with fail
          go_roundw
          case rel => exact ⟨1, by omega, by go_num, I2, B1, (by repeat (first | with_reducible exact Ext.refl _ | with_reducible assumption | (with_reducible refine Ext.drew ?_) | (with_reducible refine Ext.drewN ?_ _) | (with_reducible refine Ext.alloc ?_ _) | (with_reducible refine Ext.setCell ?_ ?_ _) | (with_reducible refine Ext.trans ?_ (by with_reducible assumption)) | omega | (focus (simp <;> omega))))⟩
          case measure => simp [intOf]
        · have RR : Hid (r = Pl.chk t.c0.v) := Lib.hid (by rw [TK.out, if_pos hz])
          have he : (Pl.chk t.c0.v != 0) = true := by simpa using hz
          skip
          skip
          go_wp2_with fail
          refine (check09_cu t.c0 (HH.out.c0.ext (by repeat (first | with_reducible exact Ext.refl _ | with_reducible assumption | (with_reducible refine Ext.drew ?_) | (with_reducible refine Ext.drewN ?_ _) | (with_reducible refine Ext.alloc ?_ _) | (with_reducible refine Ext.setCell ?_ ?_ _) | (with_reducible refine Ext.trans ?_ (by with_reducible assumption)) | omega | (focus (simp <;> omega)))))).mono ?_
          skip
          rintro e w1 ⟨rfl, hx1⟩
          go_wp2_with fail
          go_ret
          exact ⟨by rw [RR.out]; rfl, (by repeat (first | with_reducible exact Ext.refl _ | with_reducible assumption | (with_reducible refine Ext.drew ?_) | (with_reducible refine Ext.drewN ?_ _) | (with_reducible refine Ext.alloc ?_ _) | (with_reducible refine Ext.setCell ?_ ?_ _) | (with_reducible refine Ext.trans ?_ (by with_reducible assumption)) | omega | (focus (simp <;> omega))))⟩
      · have d0 := B.at 2 _ rfl
        have d1 := B.at 3 _ rfl
        by_cases hz : Pl.chk t.c1.v = 0
        · have I2 : Hid ((0 < 2 → Pl.chk t.c0.v = 0) ∧ (1 < 2 → Pl.chk t.c1.v = 0) ∧ (2 < 2 → Pl.chk t.c2.v = 0) ∧ (3 < 2 → Pl.chk t.c3.v = 0)) := Lib.hid ⟨fun _ => I.out.1 (by omega), fun _ => hz, fun h => absurd h (by omega), fun h => absurd h (by omega)⟩
          have HZ := Lib.hid hz
          clear hz
          go_wp2_with fail
          refine (check09_cu t.c1 (HH.out.c1.ext (by repeat (first | with_reducible exact Ext.refl _ | with_reducible assumption | (with_reducible refine Ext.drew ?_) | (with_reducible refine Ext.drewN ?_ _) | (with_reducible refine Ext.alloc ?_ _) | (with_reducible refine Ext.setCell ?_ ?_ _) | (with_reducible refine Ext.trans ?_ (by with_reducible assumption)) | omega | (focus (simp <;> omega)))))).mono ?_
          rw [HZ.out]
          rintro e w1 ⟨rfl, hx1⟩
          have B1 := (B.alloc (.cells #[.slice t.c1.a t.c1.v.nx t.c1.k, .slice t.c1.b t.c1.v.ny t.c1.l] 24)).ext hx1
          go_wp2_with fail
          go_roundw
          case rel => exact ⟨2, by omega, by go_num, I2, B1, (by repeat (first | with_reducible exact Ext.refl _ | with_reducible assumption | (with_reducible refine Ext.drew ?_) | (with_reducible refine Ext.drewN ?_ _) | (with_reducible refine Ext.alloc ?_ _) | (with_reducible refine Ext.setCell ?_ ?_ _) | (with_reducible refine Ext.trans ?_ (by with_reducible assumption)) | omega | (focus (simp <;> omega))))⟩
          case measure => simp [intOf]
        · have RR : Hid (r = Pl.chk t.c1.v) := Lib.hid (by rw [TK.out, if_neg (fun hh => hh (I.out.1 (by omega))), if_pos hz])
          have he : (Pl.chk t.c1.v != 0) = true := by simpa using hz
          skip
          skip
          go_wp2_with fail
          refine (check09_cu t.c1 (HH.out.c1.ext (by repeat (first | with_reducible exact Ext.refl _ | with_reducible assumption | (with_reducible refine Ext.drew ?_) | (with_reducible refine Ext.drewN ?_ _) | (with_reducible refine Ext.alloc ?_ _) | (with_reducible refine Ext.setCell ?_ ?_ _) | (with_reducible refine Ext.trans ?_ (by with_reducible assumption)) | omega | (focus (simp <;> omega)))))).mono ?_
          skip
          rintro e w1 ⟨rfl, hx1⟩
          go_wp2_with fail
          go_ret
          exact ⟨by rw [RR.out]; rfl, (by repeat (first | with_reducible exact Ext.refl _ | with_reducible assumption | (with_reducible refine Ext.drew ?_) | (with_reducible refine Ext.drewN ?_ _) | (with_reducible refine Ext.alloc ?_ _) | (with_reducible refine Ext.setCell ?_ ?_ _) | (with_reducible refine Ext.trans ?_ (by with_reducible assumption)) | omega | (focus (simp <;> omega))))⟩
      · have d0 := B.at 4 _ rfl
        have d1 := B.at 5 _ rfl
        by_cases hz : Pl.chk t.c2.v = 0
        · have I2 : Hid ((0 < 3 → Pl.chk t.c0.v = 0) ∧ (1 < 3 → Pl.chk t.c1.v = 0) ∧ (2 < 3 → Pl.chk t.c2.v = 0) ∧ (3 < 3 → Pl.chk t.c3.v = 0)) := Lib.hid ⟨fun _ => I.out.1 (by omega), fun _ => I.out.2.1 (by omega), fun _ => hz, fun h => absurd h (by omega)⟩
          have HZ := Lib.hid hz
          clear hz
          go_wp2_with fail
          refine (check09_cu t.c2 (HH.out.c2.ext (by repeat (first | with_reducible exact Ext.refl _ | with_reducible assumption | (with_reducible refine Ext.drew ?_) | (with_reducible refine Ext.drewN ?_ _) | (with_reducible refine Ext.alloc ?_ _) | (with_reducible refine Ext.setCell ?_ ?_ _) | (with_reducible refine Ext.trans ?_ (by with_reducible assumption)) | omega | (focus (simp <;> omega)))))).mono ?_
          rw [HZ.out]
          rintro e w1 ⟨rfl, hx1⟩
          have B1 := (B.alloc (.cells #[.slice t.c2.a t.c2.v.nx t.c2.k, .slice t.c2.b t.c2.v.ny t.c2.l] 24)).ext hx1
          go_wp2_with fail
          go_roundw
          case rel => exact ⟨3, by omega, by go_num, I2, B1, (by repeat (first | with_reducible exact Ext.refl _ | with_reducible assumption | (with_reducible refine Ext.drew ?_) | (with_reducible refine Ext.drewN ?_ _) | (with_reducible refine Ext.alloc ?_ _) | (with_reducible refine Ext.setCell ?_ ?_ _) | (with_reducible refine Ext.trans ?_ (by with_reducible assumption)) | omega | (focus (simp <;> omega))))⟩
          case measure => simp [intOf]
        · have RR : Hid (r = Pl.chk t.c2.v) := Lib.hid (by rw [TK.out, if_neg (fun hh => hh (I.out.1 (by omega))), if_neg (fun hh => hh (I.out.2.1 (by omega))), if_pos hz])
          have he : (Pl.chk t.c2.v != 0) = true := by simpa using hz
          skip
          skip
          go_wp2_with fail
          refine (check09_cu t.c2 (HH.out.c2.ext (by repeat (first | with_reducible exact Ext.refl _ | with_reducible assumption | (with_reducible refine Ext.drew ?_) | (with_reducible refine Ext.drewN ?_ _) | (with_reducible refine Ext.alloc ?_ _) | (with_reducible refine Ext.setCell ?_ ?_ _) | (with_reducible refine Ext.trans ?_ (by with_reducible assumption)) | omega | (focus (simp <;> omega)))))).mono ?_
          skip
          rintro e w1 ⟨rfl, hx1⟩
          go_wp2_with fail
          go_ret
          exact ⟨by rw [RR.out]; rfl, (by repeat (first | with_reducible exact Ext.refl _ | with_reducible assumption | (with_reducible refine Ext.drew ?_) | (with_reducible refine Ext.drewN ?_ _) | (with_reducible refine Ext.alloc ?_ _) | (with_reducible refine Ext.setCell ?_ ?_ _) | (with_reducible refine Ext.trans ?_ (by with_reducible assumption)) | omega | (focus (simp <;> omega))))⟩
      · have d0 := B.at 6 _ rfl
        have d1 := B.at 7 _ rfl
        by_cases hz : Pl.chk t.c3.v = 0
        · have I2 : Hid ((0 < 4 → Pl.chk t.c0.v = 0) ∧ (1 < 4 → Pl.chk t.c1.v = 0) ∧ (2 < 4 → Pl.chk t.c2.v = 0) ∧ (3 < 4 → Pl.chk t.c3.v = 0)) := Lib.hid ⟨fun _ => I.out.1 (by omega), fun _ => I.out.2.1 (by omega), fun _ => I.out.2.2.1 (by omega), fun _ => hz⟩
          have HZ := Lib.hid hz
          clear hz
          go_wp2_with fail
          refine (check09_cu t.c3 (HH.out.c3.ext (by repeat (first | with_reducible exact Ext.refl _ | with_reducible assumption | (with_reducible refine Ext.drew ?_) | (with_reducible refine Ext.drewN ?_ _) | (with_reducible refine Ext.alloc ?_ _) | (with_reducible refine Ext.setCell ?_ ?_ _) | (with_reducible refine Ext.trans ?_ (by with_reducible assumption)) | omega | (focus (simp <;> omega)))))).mono ?_
          rw [HZ.out]
          rintro e w1 ⟨rfl, hx1⟩
          have B1 := (B.alloc (.cells #[.slice t.c3.a t.c3.v.nx t.c3.k, .slice t.c3.b t.c3.v.ny t.c3.l] 24)).ext hx1
          go_wp2_with fail
          go_roundw
          case rel => exact ⟨4, by omega, by go_num, I2, B1, (by repeat (first | with_reducible exact Ext.refl _ | with_reducible assumption | (with_reducible refine Ext.drew ?_) | (with_reducible refine Ext.drewN ?_ _) | (with_reducible refine Ext.alloc ?_ _) | (with_reducible refine Ext.setCell ?_ ?_ _) | (with_reducible refine Ext.trans ?_ (by with_reducible assumption)) | omega | (focus (simp <;> omega))))⟩
          case measure => simp [intOf]
        · have RR : Hid (r = Pl.chk t.c3.v) := Lib.hid (by rw [TK.out, if_neg (fun hh => hh (I.out.1 (by omega))), if_neg (fun hh => hh (I.out.2.1 (by omega))), if_neg (fun hh => hh (I.out.2.2.1 (by omega)))])
          have he : (Pl.chk t.c3.v != 0) = true := by simpa using hz
          skip
          skip
          go_wp2_with fail
          refine (check09_cu t.c3 (HH.out.c3.ext (by repeat (first | with_reducible exact Ext.refl _ | with_reducible assumption | (with_reducible refine Ext.drew ?_) | (with_reducible refine Ext.drewN ?_ _) | (with_reducible refine Ext.alloc ?_ _) | (with_reducible refine Ext.setCell ?_ ?_ _) | (with_reducible refine Ext.trans ?_ (by with_reducible assumption)) | omega | (focus (simp <;> omega)))))).mono ?_
          skip
          rintro e w1 ⟨rfl, hx1⟩
          go_wp2_with fail
          go_ret
          exact ⟨by rw [RR.out]; rfl, (by repeat (first | with_reducible exact Ext.refl _ | with_reducible assumption | (with_reducible refine Ext.drew ?_) | (with_reducible refine Ext.drewN ?_ _) | (with_reducible refine Ext.alloc ?_ _) | (with_reducible refine Ext.setCell ?_ ?_ _) | (with_reducible refine Ext.trans ?_ (by with_reducible assumption)) | omega | (focus (simp <;> omega))))⟩
      · have RR : Hid (r = 0) := Lib.hid (by rw [TK.out, if_neg (fun hh => hh (I.out.1 (by omega))), if_neg (fun hh => hh (I.out.2.1 (by omega))), if_neg (fun hh => hh (I.out.2.2.1 (by omega)))]; exact I.out.2.2.2 (by omega))
        go_wp2_with fail
        go_ret
        exact ⟨by rw [RR.out]; rfl, (by repeat (first | with_reducible exact Ext.refl _ | with_reducible assumption | (with_reducible refine Ext.drew ?_) | (with_reducible refine Ext.drewN ?_ _) | (with_reducible refine Ext.alloc ?_ _) | (with_reducible refine Ext.setCell ?_ ?_ _) | (with_reducible refine Ext.trans ?_ (by with_reducible assumption)) | omega | (focus (simp <;> omega))))⟩
  · have e3 : tck t = 3 := by unfold tck; rw [if_pos hr]
    rw [e3]
    have hc : (t.most < 0) ∨ (0 ≤ t.most ∧ 16777216 < t.most) ∨ (0 ≤ t.most ∧ t.most ≤ 16777216 ∧ t.per < 1) ∨ (0 ≤ t.most ∧ t.most ≤ 16777216 ∧ 1 ≤ t.per ∧ 1048576 < t.per) ∨ (0 ≤ t.most ∧ t.most ≤ 16777216 ∧ 1 ≤ t.per ∧ t.per ≤ 1048576 ∧ t.mx < 0) ∨ (0 ≤ t.most ∧ t.most ≤ 16777216 ∧ 1 ≤ t.per ∧ t.per ≤ 1048576 ∧ 0 ≤ t.mx ∧ 1048576 < t.mx) := by
      have : ¬ ((0 ≤ t.most ∧ t.most ≤ 16777216) ∧ (1 ≤ t.per ∧ t.per ≤ 1048576) ∧ (0 ≤ t.mx ∧ t.mx ≤ 1048576)) := hr
      omega
    clear hr h e3
    generalize t.most = most at *
    generalize t.per = per at *
    generalize t.mx = mx at *
    rcases hc with q0 | ⟨q0, q1⟩ | ⟨q0, q1, q2⟩ | ⟨q0, q1, q2, q3⟩ | ⟨q0, q1, q2, q3, q4⟩ | ⟨q0, q1, q2, q3, q4, q5⟩
    all_goals
      go_enter Try.func10, Try.ntmps10
      go_wp2_with fail
      go_ret
      exact ⟨rfl, (by repeat (first | with_reducible exact Ext.refl _ | with_reducible assumption | (with_reducible refine Ext.drew ?_) | (with_reducible refine Ext.drewN ?_ _) | (with_reducible refine Ext.alloc ?_ _) | (with_reducible refine Ext.setCell ?_ ?_ _) | (with_reducible refine Ext.trans ?_ (by with_reducible assumption)) | omega | (focus (simp <;> omega))))⟩

end Go.Proofs.Ytphfgljfjfpomaa
