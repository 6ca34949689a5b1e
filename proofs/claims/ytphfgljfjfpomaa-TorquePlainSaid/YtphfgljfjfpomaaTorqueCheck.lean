/- The contracts of package torque's functions, each walked once; what a configuration is and what is computed of it.
   Conditions: the bounds that each names. -/
import Derived.Test.YtphfgljfjfpomaaRefCurveVal
import Derived.Test.YtphfgljfjfpomaaRoot
import Derived.Test.YtphfgljfjfpomaaCalls
import Derived.Deep.RegionHeld3
namespace Go.Proofs.Ytphfgljfjfpomaa
open Go.ChangeShapes Go.WideShapes Go.ChangeAt Go.RowKit

structure Tc where
  most : Int
  per : Int
  mx : Int
  c0 : Cu
  c1 : Cu
  c2 : Cu
  c3 : Cu
structure TcAt (w : World) (t : Tc) : Prop where
  c0 : CuAt w t.c0
  c1 : CuAt w t.c1
  c2 : CuAt w t.c2
  c3 : CuAt w t.c3
theorem TcAt.ext {w w' : World} {t : Tc} (h : TcAt w t) (hx : Ext w w') : TcAt w' t := ⟨h.c0.ext hx, h.c1.ext hx, h.c2.ext hx, h.c3.ext hx⟩
def TRange (t : Tc) : Prop := (0 ≤ t.most ∧ t.most ≤ 16777216) ∧ (1 ≤ t.per ∧ t.per ≤ 1048576) ∧ (0 ≤ t.mx ∧ t.mx ≤ 1048576)
instance (t : Tc) : Decidable (TRange t) := by unfold TRange; exact inferInstance
/-- The number of a configuration's first error. -/
def tck (t : Tc) : Int := if ¬ TRange t then 3 else if Pl.chk t.c0.v ≠ 0 then Pl.chk t.c0.v else if Pl.chk t.c1.v ≠ 0 then Pl.chk t.c1.v else if Pl.chk t.c2.v ≠ 0 then Pl.chk t.c2.v else Pl.chk t.c3.v
structure TOk (t : Tc) : Prop where
  rg : TRange t
  k0 : Pl.chk t.c0.v = 0
  k1 : Pl.chk t.c1.v = 0
  k2 : Pl.chk t.c2.v = 0
  k3 : Pl.chk t.c3.v = 0
theorem tok_of {t : Tc} (h : tck t = 0) : TOk t := by
  unfold tck at h
  split at h
  · omega
  · rename_i h1
    split at h
    · rename_i h2; exact absurd h h2
    · rename_i h2
      split at h
      · rename_i h3; exact absurd h h3
      · rename_i h3
        split at h
        · rename_i h4; exact absurd h h4
        · rename_i h4
          exact ⟨Decidable.not_not.1 h1, Decidable.not_not.1 h2, Decidable.not_not.1 h3, Decidable.not_not.1 h4, h⟩

/-- At of a curve that Check accepts. -/
theorem cAt_any {w : World} (c : Cu) (q : Int) (hc : Pl.chk c.v = 0) (h : CuAt w c) :
    Calls Try.prog 33 #[.agg #[.slice c.a c.v.nx c.k, .slice c.b c.v.ny c.l], .int .i64 q] w fun e w' => e = .returned (.tuple #[.int .i64 (Pl.atv c.v q), .nilIface]) ∧ Ext w w' := by
  have sm := (Pl.good_of _ hc).same
  have hy := h.y
  rw [← sm] at hy ⊢
  exact cAt_ok c.a c.b c.k c.l c.v q w hc h.x hy
theorem at09_cu {w : World} (c : Cu) (q : Int) (hc : Pl.chk c.v = 0) (h : CuAt w c) (hq : I64 q) :
    Calls Try.prog 36 #[.agg #[.slice c.a c.v.nx c.k, .slice c.b c.v.ny c.l], .int .i64 q] w fun e w' => e = .returned (.int .i64 (Pl.atv c.v q)) ∧ Ext w w' := by
  have g := Pl.good_of _ hc
  have hy := h.y
  rw [← g.same] at hy ⊢
  exact at09_any c.a c.b c.k c.l c.v q w g h.x hy hq
theorem ccheck_cu {w : World} (c : Cu) (h : CuAt w c) : Calls Try.prog 32 #[.agg #[.slice c.a c.v.nx c.k, .slice c.b c.v.ny c.l]] w fun e w' => e = .returned (errv (Pl.chk c.v)) ∧ Ext w w' :=
  ccheck c.a c.b c.k c.l c.v w h.x h.y h.lx h.ly
theorem check09_cu {w : World} (c : Cu) (h : CuAt w c) : Calls Try.prog 23 #[.agg #[.slice c.a c.v.nx c.k, .slice c.b c.v.ny c.l]] w fun e w' => e = .returned (.int .i64 (Pl.chk c.v)) ∧ Ext w w' :=
  check09 c.a c.b c.k c.l c.v w h.x h.y h.lx h.ly

set_option maxRecDepth 100000 in
set_option maxHeartbeats 2000000 in
theorem tcheck (t : Tc) (w : World) (h : TcAt w t) :
    Calls Try.prog 21 #[.agg #[.int .i64 t.most, .int .i64 t.per, .int .i64 t.mx, .slice t.c0.a t.c0.v.nx t.c0.k, .slice t.c0.b t.c0.v.ny t.c0.l, .slice t.c1.a t.c1.v.nx t.c1.k, .slice t.c1.b t.c1.v.ny t.c1.l, .slice t.c2.a t.c2.v.nx t.c2.k, .slice t.c2.b t.c2.v.ny t.c2.l, .slice t.c3.a t.c3.v.nx t.c3.k, .slice t.c3.b t.c3.v.ny t.c3.l]] w fun e w' => e = .returned (errv (tck t)) ∧ Ext w w' := by
  by_cases hr : TRange t
  · have ⟨⟨q0, q1⟩, ⟨q2, q3⟩, ⟨q4, q5⟩⟩ := hr
    have TK : Hid (tck t = if Pl.chk t.c0.v ≠ 0 then Pl.chk t.c0.v else if Pl.chk t.c1.v ≠ 0 then Pl.chk t.c1.v else if Pl.chk t.c2.v ≠ 0 then Pl.chk t.c2.v else Pl.chk t.c3.v) := Lib.hid (by unfold tck; rw [if_neg (fun hh => hh hr)])
    generalize tck t = r at *
    have HH := Lib.hid h
    clear h hr
    go_enter Try.func21, Try.ntmps21
    go_wp2_with fail
    go_loopw [45] (fun i wr => ∃ j : Nat, j ≤ 4 ∧ i = .int .i64 j ∧ Hid ((0 < j → Pl.chk t.c0.v = 0) ∧ (1 < j → Pl.chk t.c1.v = 0) ∧ (2 < j → Pl.chk t.c2.v = 0) ∧ (3 < j → Pl.chk t.c3.v = 0)) ∧ Blk wr (w.heap.size + 1) [.slice t.c0.a t.c0.v.nx t.c0.k, .slice t.c0.b t.c0.v.ny t.c0.l, .slice t.c1.a t.c1.v.nx t.c1.k, .slice t.c1.b t.c1.v.ny t.c1.l, .slice t.c2.a t.c2.v.nx t.c2.k, .slice t.c2.b t.c2.v.ny t.c2.l, .slice t.c3.a t.c3.v.nx t.c3.k, .slice t.c3.b t.c3.v.ny t.c3.l] ∧ Ext w wr) (fun i _ => 4 - (intOf i).toNat)
    case atStart => exact ⟨0, by omega, rfl, Lib.hid ⟨fun h => absurd h (by omega), fun h => absurd h (by omega), fun h => absurd h (by omega), fun h => absurd h (by omega)⟩, Blk.new1 w _ _ _, (by repeat (first | with_reducible exact Ext.refl _ | with_reducible assumption | (with_reducible refine Ext.drew ?_) | (with_reducible refine Ext.drewN ?_ _) | (with_reducible refine Ext.alloc ?_ _) | (with_reducible refine Ext.setCell ?_ ?_ _) | (with_reducible refine Ext.trans ?_ (by with_reducible assumption)) | omega | (focus (simp <;> omega))))⟩
    case round =>
      obtain ⟨j, hj, rfl, I, B, hxr⟩ := hrel
      have bn := B.lt
      have hj5 : j = 0 ∨ j = 1 ∨ j = 2 ∨ j = 3 ∨ j = 4 := by omega
      rcases hj5 with rfl | rfl | rfl | rfl | rfl
      · have d0 := B.at 0 _ rfl
        have d1 := B.at 1 _ rfl
        by_cases hz : Pl.chk t.c0.v = 0
        · have I2 : Hid ((0 < 1 → Pl.chk t.c0.v = 0) ∧ (1 < 1 → Pl.chk t.c1.v = 0) ∧ (2 < 1 → Pl.chk t.c2.v = 0) ∧ (3 < 1 → Pl.chk t.c3.v = 0)) := Lib.hid ⟨fun _ => hz, fun h => absurd h (by omega), fun h => absurd h (by omega), fun h => absurd h (by omega)⟩
          have HZ := Lib.hid hz
          clear hz
          go_wp2_with fail
          refine (ccheck_cu t.c0 (HH.out.c0.ext (by repeat (first | with_reducible exact Ext.refl _ | with_reducible assumption | (with_reducible refine Ext.drew ?_) | (with_reducible refine Ext.drewN ?_ _) | (with_reducible refine Ext.alloc ?_ _) | (with_reducible refine Ext.setCell ?_ ?_ _) | (with_reducible refine Ext.trans ?_ (by with_reducible assumption)) | omega | (focus (simp <;> omega)))))).mono ?_
          rw [HZ.out, errv_0]
          rintro e w1 ⟨rfl, hx1⟩
          have B1 := (B.alloc (.cells #[.slice t.c0.a t.c0.v.nx t.c0.k, .slice t.c0.b t.c0.v.ny t.c0.l] 24)).ext hx1
          go_wp2_with fail
          go_roundw
          case rel => exact ⟨1, by omega, by go_num, I2, B1, (by repeat (first | with_reducible exact Ext.refl _ | with_reducible assumption | (with_reducible refine Ext.drew ?_) | (with_reducible refine Ext.drewN ?_ _) | (with_reducible refine Ext.alloc ?_ _) | (with_reducible refine Ext.setCell ?_ ?_ _) | (with_reducible refine Ext.trans ?_ (by with_reducible assumption)) | omega | (focus (simp <;> omega))))⟩
          case measure => simp [intOf]
        · have RR : Hid (r = Pl.chk t.c0.v) := Lib.hid (by rw [TK.out, if_pos hz])
          have he : errv (Pl.chk t.c0.v) = .iface 64 (.int .i64 (Pl.chk t.c0.v)) := by unfold errv; rw [if_neg hz]
          have HE := Lib.hid he
          clear he
          go_wp2_with fail
          refine (ccheck_cu t.c0 (HH.out.c0.ext (by repeat (first | with_reducible exact Ext.refl _ | with_reducible assumption | (with_reducible refine Ext.drew ?_) | (with_reducible refine Ext.drewN ?_ _) | (with_reducible refine Ext.alloc ?_ _) | (with_reducible refine Ext.setCell ?_ ?_ _) | (with_reducible refine Ext.trans ?_ (by with_reducible assumption)) | omega | (focus (simp <;> omega)))))).mono ?_
          rw [HE.out]
          rintro e w1 ⟨rfl, hx1⟩
          go_wp2_with fail
          go_ret
          exact ⟨by rw [RR.out]; exact congrArg Ending.returned HE.out.symm, (by repeat (first | with_reducible exact Ext.refl _ | with_reducible assumption | (with_reducible refine Ext.drew ?_) | (with_reducible refine Ext.drewN ?_ _) | (with_reducible refine Ext.alloc ?_ _) | (with_reducible refine Ext.setCell ?_ ?_ _) | (with_reducible refine Ext.trans ?_ (by with_reducible assumption)) | omega | (focus (simp <;> omega))))⟩
      · have d0 := B.at 2 _ rfl
        have d1 := B.at 3 _ rfl
        by_cases hz : Pl.chk t.c1.v = 0
        · have I2 : Hid ((0 < 2 → Pl.chk t.c0.v = 0) ∧ (1 < 2 → Pl.chk t.c1.v = 0) ∧ (2 < 2 → Pl.chk t.c2.v = 0) ∧ (3 < 2 → Pl.chk t.c3.v = 0)) := Lib.hid ⟨fun _ => I.out.1 (by omega), fun _ => hz, fun h => absurd h (by omega), fun h => absurd h (by omega)⟩
          have HZ := Lib.hid hz
          clear hz
          go_wp2_with fail
          refine (ccheck_cu t.c1 (HH.out.c1.ext (by repeat (first | with_reducible exact Ext.refl _ | with_reducible assumption | (with_reducible refine Ext.drew ?_) | (with_reducible refine Ext.drewN ?_ _) | (with_reducible refine Ext.alloc ?_ _) | (with_reducible refine Ext.setCell ?_ ?_ _) | (with_reducible refine Ext.trans ?_ (by with_reducible assumption)) | omega | (focus (simp <;> omega)))))).mono ?_
          rw [HZ.out, errv_0]
          rintro e w1 ⟨rfl, hx1⟩
          have B1 := (B.alloc (.cells #[.slice t.c1.a t.c1.v.nx t.c1.k, .slice t.c1.b t.c1.v.ny t.c1.l] 24)).ext hx1
          go_wp2_with fail
          go_roundw
          case rel => exact ⟨2, by omega, by go_num, I2, B1, (by repeat (first | with_reducible exact Ext.refl _ | with_reducible assumption | (with_reducible refine Ext.drew ?_) | (with_reducible refine Ext.drewN ?_ _) | (with_reducible refine Ext.alloc ?_ _) | (with_reducible refine Ext.setCell ?_ ?_ _) | (with_reducible refine Ext.trans ?_ (by with_reducible assumption)) | omega | (focus (simp <;> omega))))⟩
          case measure => simp [intOf]
        · have RR : Hid (r = Pl.chk t.c1.v) := Lib.hid (by rw [TK.out, if_neg (fun hh => hh (I.out.1 (by omega))), if_pos hz])
          have he : errv (Pl.chk t.c1.v) = .iface 64 (.int .i64 (Pl.chk t.c1.v)) := by unfold errv; rw [if_neg hz]
          have HE := Lib.hid he
          clear he
          go_wp2_with fail
          refine (ccheck_cu t.c1 (HH.out.c1.ext (by repeat (first | with_reducible exact Ext.refl _ | with_reducible assumption | (with_reducible refine Ext.drew ?_) | (with_reducible refine Ext.drewN ?_ _) | (with_reducible refine Ext.alloc ?_ _) | (with_reducible refine Ext.setCell ?_ ?_ _) | (with_reducible refine Ext.trans ?_ (by with_reducible assumption)) | omega | (focus (simp <;> omega)))))).mono ?_
          rw [HE.out]
          rintro e w1 ⟨rfl, hx1⟩
          go_wp2_with fail
          go_ret
          exact ⟨by rw [RR.out]; exact congrArg Ending.returned HE.out.symm, (by repeat (first | with_reducible exact Ext.refl _ | with_reducible assumption | (with_reducible refine Ext.drew ?_) | (with_reducible refine Ext.drewN ?_ _) | (with_reducible refine Ext.alloc ?_ _) | (with_reducible refine Ext.setCell ?_ ?_ _) | (with_reducible refine Ext.trans ?_ (by with_reducible assumption)) | omega | (focus (simp <;> omega))))⟩
      · have d0 := B.at 4 _ rfl
        have d1 := B.at 5 _ rfl
        by_cases hz : Pl.chk t.c2.v = 0
        · have I2 : Hid ((0 < 3 → Pl.chk t.c0.v = 0) ∧ (1 < 3 → Pl.chk t.c1.v = 0) ∧ (2 < 3 → Pl.chk t.c2.v = 0) ∧ (3 < 3 → Pl.chk t.c3.v = 0)) := Lib.hid ⟨fun _ => I.out.1 (by omega), fun _ => I.out.2.1 (by omega), fun _ => hz, fun h => absurd h (by omega)⟩
          have HZ := Lib.hid hz
          clear hz
          go_wp2_with fail
          refine (ccheck_cu t.c2 (HH.out.c2.ext (by repeat (first | with_reducible exact Ext.refl _ | with_reducible assumption | (with_reducible refine Ext.drew ?_) | (with_reducible refine Ext.drewN ?_ _) | (with_reducible refine Ext.alloc ?_ _) | (with_reducible refine Ext.setCell ?_ ?_ _) | (with_reducible refine Ext.trans ?_ (by with_reducible assumption)) | omega | (focus (simp <;> omega)))))).mono ?_
          rw [HZ.out, errv_0]
          rintro e w1 ⟨rfl, hx1⟩
          have B1 := (B.alloc (.cells #[.slice t.c2.a t.c2.v.nx t.c2.k, .slice t.c2.b t.c2.v.ny t.c2.l] 24)).ext hx1
          go_wp2_with fail
          go_roundw
          case rel => exact ⟨3, by omega, by go_num, I2, B1, (by repeat (first | with_reducible exact Ext.refl _ | with_reducible assumption | (with_reducible refine Ext.drew ?_) | (with_reducible refine Ext.drewN ?_ _) | (with_reducible refine Ext.alloc ?_ _) | (with_reducible refine Ext.setCell ?_ ?_ _) | (with_reducible refine Ext.trans ?_ (by with_reducible assumption)) | omega | (focus (simp <;> omega))))⟩
          case measure => simp [intOf]
        · have RR : Hid (r = Pl.chk t.c2.v) := Lib.hid (by rw [TK.out, if_neg (fun hh => hh (I.out.1 (by omega))), if_neg (fun hh => hh (I.out.2.1 (by omega))), if_pos hz])
          have he : errv (Pl.chk t.c2.v) = .iface 64 (.int .i64 (Pl.chk t.c2.v)) := by unfold errv; rw [if_neg hz]
          have HE := Lib.hid he
          clear he
          go_wp2_with fail
          refine (ccheck_cu t.c2 (HH.out.c2.ext (by repeat (first | with_reducible exact Ext.refl _ | with_reducible assumption | (with_reducible refine Ext.drew ?_) | (with_reducible refine Ext.drewN ?_ _) | (with_reducible refine Ext.alloc ?_ _) | (with_reducible refine Ext.setCell ?_ ?_ _) | (with_reducible refine Ext.trans ?_ (by with_reducible assumption)) | omega | (focus (simp <;> omega)))))).mono ?_
          rw [HE.out]
          rintro e w1 ⟨rfl, hx1⟩
          go_wp2_with fail
          go_ret
          exact ⟨by rw [RR.out]; exact congrArg Ending.returned HE.out.symm, (by repeat (first | with_reducible exact Ext.refl _ | with_reducible assumption | (with_reducible refine Ext.drew ?_) | (with_reducible refine Ext.drewN ?_ _) | (with_reducible refine Ext.alloc ?_ _) | (with_reducible refine Ext.setCell ?_ ?_ _) | (with_reducible refine Ext.trans ?_ (by with_reducible assumption)) | omega | (focus (simp <;> omega))))⟩
      · have d0 := B.at 6 _ rfl
        have d1 := B.at 7 _ rfl
        by_cases hz : Pl.chk t.c3.v = 0
        · have I2 : Hid ((0 < 4 → Pl.chk t.c0.v = 0) ∧ (1 < 4 → Pl.chk t.c1.v = 0) ∧ (2 < 4 → Pl.chk t.c2.v = 0) ∧ (3 < 4 → Pl.chk t.c3.v = 0)) := Lib.hid ⟨fun _ => I.out.1 (by omega), fun _ => I.out.2.1 (by omega), fun _ => I.out.2.2.1 (by omega), fun _ => hz⟩
          have HZ := Lib.hid hz
          clear hz
          go_wp2_with fail
          refine (ccheck_cu t.c3 (HH.out.c3.ext (by repeat (first | with_reducible exact Ext.refl _ | with_reducible assumption | (with_reducible refine Ext.drew ?_) | (with_reducible refine Ext.drewN ?_ _) | (with_reducible refine Ext.alloc ?_ _) | (with_reducible refine Ext.setCell ?_ ?_ _) | (with_reducible refine Ext.trans ?_ (by with_reducible assumption)) | omega | (focus (simp <;> omega)))))).mono ?_
          rw [HZ.out, errv_0]
          rintro e w1 ⟨rfl, hx1⟩
          have B1 := (B.alloc (.cells #[.slice t.c3.a t.c3.v.nx t.c3.k, .slice t.c3.b t.c3.v.ny t.c3.l] 24)).ext hx1
          go_wp2_with fail
          go_roundw
          case rel => exact ⟨4, by omega, by go_num, I2, B1, (by repeat (first | with_reducible exact Ext.refl _ | with_reducible assumption | (with_reducible refine Ext.drew ?_) | (with_reducible refine Ext.drewN ?_ _) | (with_reducible refine Ext.alloc ?_ _) | (with_reducible refine Ext.setCell ?_ ?_ _) | (with_reducible refine Ext.trans ?_ (by with_reducible assumption)) | omega | (focus (simp <;> omega))))⟩
          case measure => simp [intOf]
        · have RR : Hid (r = Pl.chk t.c3.v) := Lib.hid (by rw [TK.out, if_neg (fun hh => hh (I.out.1 (by omega))), if_neg (fun hh => hh (I.out.2.1 (by omega))), if_neg (fun hh => hh (I.out.2.2.1 (by omega)))])
          have he : errv (Pl.chk t.c3.v) = .iface 64 (.int .i64 (Pl.chk t.c3.v)) := by unfold errv; rw [if_neg hz]
          have HE := Lib.hid he
          clear he
          go_wp2_with fail
          refine (ccheck_cu t.c3 (HH.out.c3.ext (by repeat (first | with_reducible exact Ext.refl _ | with_reducible assumption | (with_reducible refine Ext.drew ?_) | (with_reducible refine Ext.drewN ?_ _) | (with_reducible refine Ext.alloc ?_ _) | (with_reducible refine Ext.setCell ?_ ?_ _) | (with_reducible refine Ext.trans ?_ (by with_reducible assumption)) | omega | (focus (simp <;> omega)))))).mono ?_
          rw [HE.out]
          rintro e w1 ⟨rfl, hx1⟩
          go_wp2_with fail
          go_ret
          exact ⟨by rw [RR.out]; exact congrArg Ending.returned HE.out.symm, (by repeat (first | with_reducible exact Ext.refl _ | with_reducible assumption | (with_reducible refine Ext.drew ?_) | (with_reducible refine Ext.drewN ?_ _) | (with_reducible refine Ext.alloc ?_ _) | (with_reducible refine Ext.setCell ?_ ?_ _) | (with_reducible refine Ext.trans ?_ (by with_reducible assumption)) | omega | (focus (simp <;> omega))))⟩
      · have RR : Hid (r = 0) := Lib.hid (by rw [TK.out, if_neg (fun hh => hh (I.out.1 (by omega))), if_neg (fun hh => hh (I.out.2.1 (by omega))), if_neg (fun hh => hh (I.out.2.2.1 (by omega)))]; exact I.out.2.2.2 (by omega))
        go_wp2_with fail
        go_ret
        exact ⟨by rw [RR.out]; rfl, (by repeat (first | with_reducible exact Ext.refl _ | with_reducible assumption | (with_reducible refine Ext.drew ?_) | (with_reducible refine Ext.drewN ?_ _) | (with_reducible refine Ext.alloc ?_ _) | (with_reducible refine Ext.setCell ?_ ?_ _) | (with_reducible refine Ext.trans ?_ (by with_reducible assumption)) | omega | (focus (simp <;> omega))))⟩
  · have e3 : tck t = 3 := by unfold tck; rw [if_pos hr]
    rw [e3]
    have hc : (t.most < 0) ∨ (0 ≤ t.most ∧ 16777216 < t.most) ∨ (0 ≤ t.most ∧ t.most ≤ 16777216 ∧ t.per < 1) ∨ (0 ≤ t.most ∧ t.most ≤ 16777216 ∧ 1 ≤ t.per ∧ 1048576 < t.per) ∨ (0 ≤ t.most ∧ t.most ≤ 16777216 ∧ 1 ≤ t.per ∧ t.per ≤ 1048576 ∧ t.mx < 0) ∨ (0 ≤ t.most ∧ t.most ≤ 16777216 ∧ 1 ≤ t.per ∧ t.per ≤ 1048576 ∧ 0 ≤ t.mx ∧ 1048576 < t.mx) := by
      have : ¬ ((0 ≤ t.most ∧ t.most ≤ 16777216) ∧ (1 ≤ t.per ∧ t.per ≤ 1048576) ∧ (0 ≤ t.mx ∧ t.mx ≤ 1048576)) := hr
      omega
    clear hr h e3
    generalize t.most = most at *
    generalize t.per = per at *
    generalize t.mx = mx at *
    rcases hc with q0 | ⟨q0, q1⟩ | ⟨q0, q1, q2⟩ | ⟨q0, q1, q2, q3⟩ | ⟨q0, q1, q2, q3, q4⟩ | ⟨q0, q1, q2, q3, q4, q5⟩
    all_goals
      go_enter Try.func21, Try.ntmps21
      go_wp2_with fail
      go_ret
      exact ⟨rfl, (by repeat (first | with_reducible exact Ext.refl _ | with_reducible assumption | (with_reducible refine Ext.drew ?_) | (with_reducible refine Ext.drewN ?_ _) | (with_reducible refine Ext.alloc ?_ _) | (with_reducible refine Ext.setCell ?_ ?_ _) | (with_reducible refine Ext.trans ?_ (by with_reducible assumption)) | omega | (focus (simp <;> omega))))⟩

end Go.Proofs.Ytphfgljfjfpomaa
