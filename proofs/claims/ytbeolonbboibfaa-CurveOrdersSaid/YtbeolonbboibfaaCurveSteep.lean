/- The contracts of curve.Steepest and of the reference's, each walked once.
   Conditions: the curve is one that Check accepts, but for the errors. -/
import Derived.Test.YtbeolonbboibfaaRefCurveVal
namespace Go.Proofs.Ytbeolonbboibfaa
open Go.ChangeShapes Go.WideShapes Go.ChangeAt Go.RowKit

def stm (d : Int) : Int := max 0 (min d 2147483648)
/-- What the walks know of a segment, for Steepest. -/
theorem ste_facts {c : Pl.Cv} (g : Pl.Good c) {m : Int} (m0 : 0 ≤ m) (m1 : m ≤ 2147483648) {j : Nat} (j0 : 0 < j) (hj : j < c.nx) :
    (0 ≤ m * (c.y j - c.y (j - 1)) ∧ m * (c.y j - c.y (j - 1)) ≤ 4611686018427387904) ∧
    (m * (c.y j - c.y (j - 1)) + (c.x j - c.x (j - 1)) - 1) / (c.x j - c.x (j - 1)) = Pl.ce c m j ∧ (m * (c.y j - c.y (j - 1)) + (c.x j - c.x (j - 1)) - 1).tdiv (c.x j - c.x (j - 1)) = Pl.ce c m j ∧
    (0 ≤ Pl.ce c m j ∧ Pl.ce c m j ≤ 4611686020574871551) ∧
    (0 ≤ (m * (c.y j - c.y (j - 1))) / (c.x j - c.x (j - 1)) ∧ (m * (c.y j - c.y (j - 1))) / (c.x j - c.x (j - 1)) ≤ 4611686018427387904) ∧
    (if (m * (c.y j - c.y (j - 1))) % (c.x j - c.x (j - 1)) > 0 then (m * (c.y j - c.y (j - 1))) / (c.x j - c.x (j - 1)) + 1 else (m * (c.y j - c.y (j - 1))) / (c.x j - c.x (j - 1))) = Pl.ce c m j := by
  have a := Pl.ce_bd g m0 m1 j0 hj
  have d := Pl.dx_pos g j0 hj
  unfold Pl.dy at a
  unfold Pl.dx at d
  have e : (m * (c.y j - c.y (j - 1)) + (c.x j - c.x (j - 1)) - 1) / (c.x j - c.x (j - 1)) = Pl.ce c m j := rfl
  refine ⟨a.1, e, ?_, ⟨a.2.1, a.2.2.1⟩, ⟨Int.ediv_nonneg a.1.1 (by omega), Int.le_trans (Int.ediv_le_self _ a.1.1) a.1.2⟩, ?_⟩
  · rw [Int.tdiv_eq_ediv_of_nonneg (by omega)]; exact e
  · rw [Pl.ceil_two _ _ d]; exact e

set_option maxRecDepth 100000 in
set_option maxHeartbeats 1000000 in
theorem steepest_ok (a b : Option Addr) (k l : Nat) (c : Pl.Cv) (d : Int) (w : World) (h : Pl.chk c = 0) (hx : Row w a c.nx c.x) (hy : Row w b c.nx c.y) :
    Calls Try.prog 24 #[.agg #[.slice a c.nx k, .slice b c.nx l], .int .i64 d] w fun e w' => e = .returned (.tuple #[.int .i64 (Pl.stp c (stm d) c.nx), .nilIface]) ∧ Ext w w' := by
  have g := Pl.good_of c h
  have E0 : Ext w (w.alloc (.cells #[.slice a c.nx k, .slice b c.nx l] 24)) := (Ext.refl w).alloc _
  have hc := ccheck_eq a b k l c _ g.same (hx.ext E0) (hy.ext E0) (by have := g.few; unfold maxLen; omega)
  rw [h, errv_0] at hc
  have HC := Lib.hid hc
  clear hc
  have g2 := g.two
  have g3 := g.few
  obtain ⟨bx, ox, rfl, hbx, hcx⟩ := hx (by omega)
  obtain ⟨bY, oY, rfl, hby, hcy⟩ := hy (by omega)
  have n2 : (2 : Int) ≤ (c.nx : Int) := by omega
  have n3 : (c.nx : Int) ≤ 32 := by omega
  obtain ⟨m, hm⟩ : ∃ m, m = stm d := ⟨_, rfl⟩
  have m0 : 0 ≤ m := by rw [hm]; unfold stm; omega
  have m1 : m ≤ 2147483648 := by rw [hm]; unfold stm; omega
  have em : min (max d 0) 2147483648 = m := by rw [hm]; unfold stm; omega
  have em2 : max 0 (min d 2147483648) = m := by rw [hm]; rfl
  have B0 := Blk.new w [.slice (some ⟨bx, ox, none⟩) c.nx k, .slice (some ⟨bY, oY, none⟩) c.nx l] 24
  have b0' := B0.at 0 _ rfl
  have b1' := B0.at 1 _ rfl
  have HB := Lib.hid B0
  have HX := Lib.hid hcx
  have HY := Lib.hid hcy
  have HF : Hid (∀ j, 0 < j → j < c.nx → _) := Lib.hid (fun j j0 hj => And.intro (ste_facts g m0 m1 (j := j) j0 hj) (And.intro (And.intro (Pl.seg_bd g j0 hj (q := c.x j) (Int.le_of_lt (g.up j j0 hj).1) (Int.le_refl _)).1 (Pl.seg_bd g j0 hj (q := c.x j) (Int.le_of_lt (g.up j j0 hj).1) (Int.le_refl _)).2.1) (Pl.stp_succ c m j0)))
  have HL : Hid (∀ j, j ≤ c.nx → 0 ≤ Pl.stp c m j ∧ Pl.stp c m j ≤ 4611686020574871551) := Lib.hid (fun j hj => ⟨Pl.stp_nonneg c m j, Pl.stp_le g m0 m1 j hj⟩)
  have H1 : Hid (Pl.stp c m 1 = 0) := Lib.hid rfl
  rw [← hm]
  clear hx hy hcx hcy B0 g h hm
  go_enter Try.func24, Try.ntmps24
  go_wp2_with fail
  refine HC.out.mono ?_
  rintro e w1 ⟨rfl, hx1⟩
  have B1 := HB.out.ext hx1
  have b0 := B1.at 0 _ rfl
  have b1 := B1.at 1 _ rfl
  go_wp2_with fail
  go_loopw [7, 8] (fun s i wr => ∃ j : Nat, 0 < j ∧ j ≤ c.nx ∧ i = .int .i64 j ∧ s = .int .i64 (Pl.stp c m j) ∧ Blk wr w.heap.size [.slice (some ⟨bx, ox, none⟩) c.nx k, .slice (some ⟨bY, oY, none⟩) c.nx l] ∧ Ext w wr) (fun s i _ => c.nx - (intOf i).toNat)
  case atStart => exact ⟨1, by omega, by omega, rfl, by rw [H1.out], B1, (by repeat (first | with_reducible exact Ext.refl _ | with_reducible assumption | (with_reducible refine Ext.drew ?_) | (with_reducible refine Ext.drewN ?_ _) | (with_reducible refine Ext.alloc ?_ _) | (with_reducible refine Ext.setCell ?_ ?_ _) | (with_reducible refine Ext.trans ?_ (by with_reducible assumption)) | omega | (focus (simp <;> omega))))⟩
  case round =>
    obtain ⟨j, j0, hj', rfl, rfl, B, hxr⟩ := hrel
    have b0 := B.at 0 _ rfl
    have b1 := B.at 1 _ rfl
    have bn := B.lt
    have ⟨st0, st1⟩ := HL.out j hj'
    by_cases hj : j < c.nx
    · have ⟨⟨⟨f0, f1⟩, f2, f3, ⟨f4, f5⟩, ⟨f6, f7⟩, f8⟩, ⟨⟨d0, d1⟩, ⟨y0, y1⟩⟩, es⟩ := HF.out j j0 hj
      unfold Pl.dx at d0 d1
      unfold Pl.dy at y0 y1
      have ES := Lib.hid es
      have cx := (hxr.cell hbx).trans (HX.out j (by omega))
      have cy := (hxr.cell hby).trans (HY.out j (by omega))
      have px := (hxr.cell hbx).trans (HX.out (j - 1) (by omega))
      have py := (hxr.cell hby).trans (HY.out (j - 1) (by omega))
      have ej : ((j : Int) - 1).toNat = j - 1 := by omega
      have ej2 : (0 : Int) ≤ (j : Int) - 1 := by omega
      have ej3 : (j : Int) - 1 < (c.nx : Int) := by omega
      have ej5 : (j : Int) < (c.nx : Int) := by omega
      have ej4 : IntKind.i64.wrap ((j : Int) - 1) = (j : Int) - 1 := IntWalk.i64_in _ (by omega)
      clear es HF HL H1
      generalize Pl.stp c m j = s at *
      generalize Pl.ce c m j = cc at *
      generalize c.x j = xr at *
      generalize c.x (j - 1) = xp at *
      generalize c.y j = yr at *
      generalize c.y (j - 1) = yp at *
      have w1 : IntKind.i64.wrap (xr - xp) = xr - xp := IntWalk.i64_in _ (by omega)
      have w2 : IntKind.i64.wrap (yr - yp) = yr - yp := IntWalk.i64_in _ (by omega)
      have w3 : IntKind.i64.wrap (m * (yr - yp)) = m * (yr - yp) := IntWalk.i64_in _ (by omega)
      clear f8
      have dz : ¬ xr - xp = 0 := by omega
      go_wp2_with fail
      go_quiet (fail)
      go_wp2_with fail
      go_roundw
      case rel => exact ⟨j + 1, by omega, by omega, by go_num, by rw [ES.out], B.drewN _, (by repeat (first | with_reducible exact Ext.refl _ | with_reducible assumption | (with_reducible refine Ext.drew ?_) | (with_reducible refine Ext.drewN ?_ _) | (with_reducible refine Ext.alloc ?_ _) | (with_reducible refine Ext.setCell ?_ ?_ _) | (with_reducible refine Ext.trans ?_ (by with_reducible assumption)) | omega | (focus (simp <;> omega))))⟩
      case measure => simp [intOf]; omega
    · obtain rfl : j = c.nx := by omega
      have hge : (c.nx : Int) ≤ (c.nx : Int) := Int.le_refl _
      go_wp2_with fail
      go_ret2
      exact ⟨rfl, (by repeat (first | with_reducible exact Ext.refl _ | with_reducible assumption | (with_reducible refine Ext.drew ?_) | (with_reducible refine Ext.drewN ?_ _) | (with_reducible refine Ext.alloc ?_ _) | (with_reducible refine Ext.setCell ?_ ?_ _) | (with_reducible refine Ext.trans ?_ (by with_reducible assumption)) | omega | (focus (simp <;> omega))))⟩

set_option maxRecDepth 100000 in
set_option maxHeartbeats 1000000 in
theorem steepest09 (a b : Option Addr) (k l : Nat) (c : Pl.Cv) (d : Int) (w : World) (h : Pl.chk c = 0) (hx : Row w a c.nx c.x) (hy : Row w b c.nx c.y) :
    Calls Try.prog 25 #[.agg #[.slice a c.nx k, .slice b c.nx l], .int .i64 d] w fun e w' => e = .returned (.int .i64 (Pl.stp c (stm d) c.nx)) ∧ Ext w w' := by
  have g := Pl.good_of c h
  have g2 := g.two
  have g3 := g.few
  obtain ⟨bx, ox, rfl, hbx, hcx⟩ := hx (by omega)
  obtain ⟨bY, oY, rfl, hby, hcy⟩ := hy (by omega)
  have n2 : (2 : Int) ≤ (c.nx : Int) := by omega
  have n3 : (c.nx : Int) ≤ 32 := by omega
  obtain ⟨m, hm⟩ : ∃ m, m = stm d := ⟨_, rfl⟩
  have m0 : 0 ≤ m := by rw [hm]; unfold stm; omega
  have m1 : m ≤ 2147483648 := by rw [hm]; unfold stm; omega
  have em : min (max d 0) 2147483648 = m := by rw [hm]; unfold stm; omega
  have em2 : max 0 (min d 2147483648) = m := by rw [hm]; rfl
  have B0 := Blk.new w [.slice (some ⟨bx, ox, none⟩) c.nx k, .slice (some ⟨bY, oY, none⟩) c.nx l] 24
  have b0' := B0.at 0 _ rfl
  have b1' := B0.at 1 _ rfl
  have HB := Lib.hid B0
  have HX := Lib.hid hcx
  have HY := Lib.hid hcy
  have HF : Hid (∀ j, 0 < j → j < c.nx → _) := Lib.hid (fun j j0 hj => And.intro (ste_facts g m0 m1 (j := j) j0 hj) (And.intro (And.intro (Pl.seg_bd g j0 hj (q := c.x j) (Int.le_of_lt (g.up j j0 hj).1) (Int.le_refl _)).1 (Pl.seg_bd g j0 hj (q := c.x j) (Int.le_of_lt (g.up j j0 hj).1) (Int.le_refl _)).2.1) (Pl.stp_succ c m j0)))
  have HL : Hid (∀ j, j ≤ c.nx → 0 ≤ Pl.stp c m j ∧ Pl.stp c m j ≤ 4611686020574871551) := Lib.hid (fun j hj => ⟨Pl.stp_nonneg c m j, Pl.stp_le g m0 m1 j hj⟩)
  have H1 : Hid (Pl.stp c m 1 = 0) := Lib.hid rfl
  rw [← hm]
  clear hx hy hcx hcy B0 g h hm
  go_enter Try.func25, Try.ntmps25
  go_wp2_with fail
  go_loopw [5, 6] (fun s i wr => ∃ j : Nat, 0 < j ∧ j ≤ c.nx ∧ i = .int .i64 j ∧ s = .int .i64 (Pl.stp c m j) ∧ Blk wr w.heap.size [.slice (some ⟨bx, ox, none⟩) c.nx k, .slice (some ⟨bY, oY, none⟩) c.nx l] ∧ Ext w wr) (fun s i _ => c.nx - (intOf i).toNat)
  case atStart => exact ⟨1, by omega, by omega, rfl, by rw [H1.out], HB.out, (by repeat (first | with_reducible exact Ext.refl _ | with_reducible assumption | (with_reducible refine Ext.drew ?_) | (with_reducible refine Ext.drewN ?_ _) | (with_reducible refine Ext.alloc ?_ _) | (with_reducible refine Ext.setCell ?_ ?_ _) | (with_reducible refine Ext.trans ?_ (by with_reducible assumption)) | omega | (focus (simp <;> omega))))⟩
  case round =>
    obtain ⟨j, j0, hj', rfl, rfl, B, hxr⟩ := hrel
    have b0 := B.at 0 _ rfl
    have b1 := B.at 1 _ rfl
    have bn := B.lt
    have ⟨st0, st1⟩ := HL.out j hj'
    by_cases hj : j < c.nx
    · have ⟨⟨⟨f0, f1⟩, f2, f3, ⟨f4, f5⟩, ⟨f6, f7⟩, f8⟩, ⟨⟨d0, d1⟩, ⟨y0, y1⟩⟩, es⟩ := HF.out j j0 hj
      unfold Pl.dx at d0 d1
      unfold Pl.dy at y0 y1
      have ES := Lib.hid es
      have cx := (hxr.cell hbx).trans (HX.out j (by omega))
      have cy := (hxr.cell hby).trans (HY.out j (by omega))
      have px := (hxr.cell hbx).trans (HX.out (j - 1) (by omega))
      have py := (hxr.cell hby).trans (HY.out (j - 1) (by omega))
      have ej : ((j : Int) - 1).toNat = j - 1 := by omega
      have ej2 : (0 : Int) ≤ (j : Int) - 1 := by omega
      have ej3 : (j : Int) - 1 < (c.nx : Int) := by omega
      have ej5 : (j : Int) < (c.nx : Int) := by omega
      have ej4 : IntKind.i64.wrap ((j : Int) - 1) = (j : Int) - 1 := IntWalk.i64_in _ (by omega)
      clear es HF HL H1
      generalize Pl.stp c m j = s at *
      generalize Pl.ce c m j = cc at *
      generalize c.x j = xr at *
      generalize c.x (j - 1) = xp at *
      generalize c.y j = yr at *
      generalize c.y (j - 1) = yp at *
      have w1 : IntKind.i64.wrap (xr - xp) = xr - xp := IntWalk.i64_in _ (by omega)
      have w2 : IntKind.i64.wrap (yr - yp) = yr - yp := IntWalk.i64_in _ (by omega)
      have w3 : IntKind.i64.wrap (m * (yr - yp)) = m * (yr - yp) := IntWalk.i64_in _ (by omega)
      have t1 : (m * (yr - yp)).tdiv (xr - xp) = (m * (yr - yp)) / (xr - xp) := Int.tdiv_eq_ediv_of_nonneg f0
      have t2 : (m * (yr - yp)).tmod (xr - xp) = (m * (yr - yp)) % (xr - xp) := Int.tmod_eq_emod_of_nonneg f0
      have t3 := Int.emod_nonneg (m * (yr - yp)) (show xr - xp ≠ 0 by omega)
      generalize (m * (yr - yp)) % (xr - xp) = rr at *
      generalize (m * (yr - yp)) / (xr - xp) = qq at *
      have dz : ¬ xr - xp = 0 := by omega
      clear f2 f3
      by_cases hr : 0 < rr
      · rw [if_pos hr] at f8
        have F8 := Lib.hid f8
        clear f8
        go_wp2_with fail
        go_quiet (fail)
        go_wp2_with fail
        go_roundw
        case rel => exact ⟨j + 1, by omega, by omega, by go_num, by rw [ES.out, ← F8.out], B.drewN _, (by repeat (first | with_reducible exact Ext.refl _ | with_reducible assumption | (with_reducible refine Ext.drew ?_) | (with_reducible refine Ext.drewN ?_ _) | (with_reducible refine Ext.alloc ?_ _) | (with_reducible refine Ext.setCell ?_ ?_ _) | (with_reducible refine Ext.trans ?_ (by with_reducible assumption)) | omega | (focus (simp <;> omega))))⟩
        case measure => simp [intOf]; omega
      · rw [if_neg hr] at f8
        have F8 := Lib.hid f8
        clear f8
        go_wp2_with fail
        go_quiet (fail)
        go_wp2_with fail
        go_roundw
        case rel => exact ⟨j + 1, by omega, by omega, by go_num, by rw [ES.out, ← F8.out], B.drewN _, (by repeat (first | with_reducible exact Ext.refl _ | with_reducible assumption | (with_reducible refine Ext.drew ?_) | (with_reducible refine Ext.drewN ?_ _) | (with_reducible refine Ext.alloc ?_ _) | (with_reducible refine Ext.setCell ?_ ?_ _) | (with_reducible refine Ext.trans ?_ (by with_reducible assumption)) | omega | (focus (simp <;> omega))))⟩
        case measure => simp [intOf]; omega
    · obtain rfl : j = c.nx := by omega
      have hge : (c.nx : Int) ≤ (c.nx : Int) := Int.le_refl _
      go_wp2_with fail
      go_ret
      exact ⟨rfl, (by repeat (first | with_reducible exact Ext.refl _ | with_reducible assumption | (with_reducible refine Ext.drew ?_) | (with_reducible refine Ext.drewN ?_ _) | (with_reducible refine Ext.alloc ?_ _) | (with_reducible refine Ext.setCell ?_ ?_ _) | (with_reducible refine Ext.trans ?_ (by with_reducible assumption)) | omega | (focus (simp <;> omega))))⟩

theorem steepest_bad (a b : Option Addr) (k l : Nat) (c : Pl.Cv) (d : Int) (w : World) (h : Pl.chk c ≠ 0) (hx : Row w a c.nx c.x) (hy : Row w b c.ny c.y) (lx : c.nx ≤ maxLen) (ly : c.ny ≤ maxLen) :
    Calls Try.prog 24 #[.agg #[.slice a c.nx k, .slice b c.ny l], .int .i64 d] w fun e w' => e = .returned (.tuple #[.int .i64 0, errv (Pl.chk c)]) ∧ Ext w w' := by
  have E0 : Ext w (w.alloc (.cells #[.slice a c.nx k, .slice b c.ny l] 24)) := (Ext.refl w).alloc _
  have hc := ccheck a b k l c _ (hx.ext E0) (hy.ext E0) lx ly
  have he : errv (Pl.chk c) = .iface 51 (.int .i64 (Pl.chk c)) := by unfold errv; rw [if_neg h]
  rw [he] at hc ⊢
  have HC := Lib.hid hc
  clear hc hx hy E0 h he lx ly
  generalize Pl.chk c = r at *
  go_enter Try.func24, Try.ntmps24
  go_wp2_with fail
  refine HC.out.mono ?_
  rintro e w1 ⟨rfl, hx1⟩
  go_wp2_with fail
  go_ret2
  exact ⟨rfl, (by repeat (first | with_reducible exact Ext.refl _ | with_reducible assumption | (with_reducible refine Ext.drew ?_) | (with_reducible refine Ext.drewN ?_ _) | (with_reducible refine Ext.alloc ?_ _) | (with_reducible refine Ext.setCell ?_ ?_ _) | (with_reducible refine Ext.trans ?_ (by with_reducible assumption)) | omega | (focus (simp <;> omega))))⟩

end Go.Proofs.Ytbeolonbboibfaa
