/- The contracts of the reference's Value and At (chapter 9), each walked once.
   Conditions: the curve is one that Check accepts. -/
import Derived.Test.YtbeolonbboibfaaCurveVal
import Derived.Test.YtbeolonbboibfaaRefCurveCheck
namespace Go.Proofs.Ytbeolonbboibfaa
open Go.ChangeShapes Go.WideShapes Go.ChangeAt Go.RowKit

set_option maxRecDepth 100000 in
set_option maxHeartbeats 1000000 in
theorem value09 (a b : Option Addr) (k l : Nat) (c : Pl.Cv) (q : Int) (w : World) (g : Pl.Good c) (hx : Row w a c.nx c.x) (hy : Row w b c.nx c.y) (hq : I64 q) :
    Calls Try.prog 36 #[.agg #[.slice a c.nx k, .slice b c.nx l], .int .i64 q] w fun e w' => e = .returned (.tuple #[.int .i64 (Pl.vr c q).1, .int .i64 (Pl.vr c q).2]) ∧ Ext w w' := by
  have g2 := g.two
  have g3 := g.few
  obtain ⟨bx, ox, rfl, hbx, hcx⟩ := hx (by omega)
  obtain ⟨bY, oY, rfl, hby, hcy⟩ := hy (by omega)
  have n2 : (2 : Int) ≤ (c.nx : Int) := by omega
  have n3 : (c.nx : Int) ≤ 32 := by omega
  have B0 := Blk.new w [.slice (some ⟨bx, ox, none⟩) c.nx k, .slice (some ⟨bY, oY, none⟩) c.nx l] 24
  have E0 : Ext w (w.alloc (.cells #[.slice (some ⟨bx, ox, none⟩) c.nx k, .slice (some ⟨bY, oY, none⟩) c.nx l] 24)) := (Ext.refl w).alloc _
  have b0 := B0.at 0 _ rfl
  have b1 := B0.at 1 _ rfl
  have x0c := (E0.cell hbx).trans (hcx 0 (by omega))
  have y0c := (E0.cell hby).trans (hcy 0 (by omega))
  have x0w := hcx 0 (by omega)
  have y0w := hcy 0 (by omega)
  rw [Nat.add_zero] at x0c y0c x0w y0w
  by_cases q0 : q ≤ c.x 0
  · have ev : Pl.vr c q = (c.y 0, 1) := by unfold Pl.vr; rw [if_pos q0]
    rw [ev]
    clear ev B0 E0 hcx hcy hx hy
    generalize c.y 0 = yy at *
    generalize c.x 0 = xx at *
    go_enter Try.func36, Try.ntmps36
    go_wp2_with fail
    go_ret2
    exact ⟨rfl, (by repeat (first | with_reducible exact Ext.refl _ | with_reducible assumption | (with_reducible refine Ext.drew ?_) | (with_reducible refine Ext.drewN ?_ _) | (with_reducible refine Ext.alloc ?_ _) | (with_reducible refine Ext.setCell ?_ ?_ _) | (with_reducible refine Ext.trans ?_ (by with_reducible assumption)) | omega | (focus (simp <;> omega))))⟩
  · have ev : Pl.vr c q = Pl.vfrom c q (c.nx - 1) 1 := by unfold Pl.vr; rw [if_neg q0]
    have q0' : c.x 0 < q := by omega
    have Q0 := Lib.hid q0'
    have EV := Lib.hid ev
    have HX := Lib.hid hcx
    have HY := Lib.hid hcy
    have HB := Lib.hid B0
    have HQ := Lib.hid hq
    clear ev q0 hcx hcy hx hy B0 E0
    generalize Pl.vr c q = pr at *
    go_enter Try.func36, Try.ntmps36
    go_wp2_with fail
    go_loopw [7] (fun i wr => ∃ j : Nat, 0 < j ∧ j ≤ c.nx ∧ i = .int .i64 j ∧ Hid (pr = Pl.vfrom c q (c.nx - j) j) ∧ c.x (j - 1) ≤ q ∧ Blk wr w.heap.size [.slice (some ⟨bx, ox, none⟩) c.nx k, .slice (some ⟨bY, oY, none⟩) c.nx l] ∧ Ext w wr) (fun i _ => c.nx - (intOf i).toNat)
    case atStart => exact ⟨1, by omega, by omega, rfl, EV, by have := Q0.out; simp; omega, HB.out, (by repeat (first | with_reducible exact Ext.refl _ | with_reducible assumption | (with_reducible refine Ext.drew ?_) | (with_reducible refine Ext.drewN ?_ _) | (with_reducible refine Ext.alloc ?_ _) | (with_reducible refine Ext.setCell ?_ ?_ _) | (with_reducible refine Ext.trans ?_ (by with_reducible assumption)) | omega | (focus (simp <;> omega))))⟩
    case round =>
      clear b0 b1 x0c y0c x0w y0w EV HB q0'
      obtain ⟨j, j0, hj, rfl, hF, hq1, B, hxr⟩ := hrel
      have b0 := B.at 0 _ rfl
      have b1 := B.at 1 _ rfl
      have bn := B.lt
      by_cases hlt : j < c.nx
      · have hj := hlt
        have es : c.nx - j = (c.nx - (j + 1)) + 1 := by omega
        have hF' := hF.out
        rw [es, Pl.vfrom] at hF'
        have cx := (hxr.cell hbx).trans (HX.out j (by omega))
        have cy := (hxr.cell hby).trans (HY.out j (by omega))
        have px := (hxr.cell hbx).trans (HX.out (j - 1) (by omega))
        have py := (hxr.cell hby).trans (HY.out (j - 1) (by omega))
        by_cases hq2 : q ≤ c.x j
        · rw [if_pos hq2] at hF'
          have HP := Lib.hid hF'
          have ⟨⟨d0, d1⟩, ⟨y0, y1⟩, ⟨u0, u1⟩, ⟨m0, m1⟩, ⟨p0, p1⟩, ⟨s0, s1⟩⟩ := Pl.seg_bd g j0 hj hq1 hq2
          unfold Pl.sg at s0 s1
          unfold Pl.dx at d0 d1 m0 m1 s0 s1
          unfold Pl.dy at y0 y1 p0 p1 s0 s1
          have ej : ((j : Int) - 1).toNat = j - 1 := by omega
          have ej2 : (0 : Int) ≤ (j : Int) - 1 := by omega
          have ej3 : (j : Int) - 1 < (c.nx : Int) := by omega
          have ej5 : (j : Int) < (c.nx : Int) := by omega
          have ej4 : IntKind.i64.wrap ((j : Int) - 1) = (j : Int) - 1 := IntWalk.i64_in _ (by omega)
          have es2 : Pl.sg c j q = c.y (j - 1) * (c.x j - c.x (j - 1)) + (c.y j - c.y (j - 1)) * (q - c.x (j - 1)) := rfl
          have ed : Pl.dx c j = c.x j - c.x (j - 1) := rfl
          rw [es2, ed] at HP
          clear es es2 ed hF hF' HX HY Q0 HQ
          generalize c.x j = xr at *
          generalize c.x (j - 1) = xp at *
          generalize c.y j = yr at *
          generalize c.y (j - 1) = yp at *
          have w1 : IntKind.i64.wrap (xr - xp) = xr - xp := IntWalk.i64_in _ (by omega)
          have w2 : IntKind.i64.wrap (yr - yp) = yr - yp := IntWalk.i64_in _ (by omega)
          have w3 : IntKind.i64.wrap (yp * (xr - xp)) = yp * (xr - xp) := IntWalk.i64_in _ (by omega)
          have w4 : IntKind.i64.wrap (q - xp) = q - xp := IntWalk.i64_in _ (by omega)
          have w5 : IntKind.i64.wrap ((yr - yp) * (q - xp)) = (yr - yp) * (q - xp) := IntWalk.i64_in _ (by omega)
          have w6 : IntKind.i64.wrap (yp * (xr - xp) + (yr - yp) * (q - xp)) = yp * (xr - xp) + (yr - yp) * (q - xp) := IntWalk.i64_in _ (by omega)
          go_wp2_with fail
          go_quiet (fail)
          go_wp2_with fail
          go_quiet (fail)
          go_wp2_with fail
          go_ret2
          exact ⟨by rw [HP.out]; rfl, (by repeat (first | with_reducible exact Ext.refl _ | with_reducible assumption | (with_reducible refine Ext.drew ?_) | (with_reducible refine Ext.drewN ?_ _) | (with_reducible refine Ext.alloc ?_ _) | (with_reducible refine Ext.setCell ?_ ?_ _) | (with_reducible refine Ext.trans ?_ (by with_reducible assumption)) | omega | (focus (simp <;> omega))))⟩
        · rw [if_neg hq2] at hF'
          have HP := Lib.hid hF'
          have hq3 : c.x j < q := by omega
          have ej5 : (j : Int) < (c.nx : Int) := by omega
          have Q3 : Hid (c.x (j + 1 - 1) ≤ q) := Lib.hid (by simp only [Nat.add_sub_cancel]; omega)
          clear es hF hF' HX HY hq2 hq1 px py
          generalize c.x j = xr at *
          generalize c.y j = yr at *
          go_wp2_with fail
          go_roundw
          case rel => exact ⟨j + 1, by omega, by omega, by go_num, HP, Q3.out, B, (by repeat (first | with_reducible exact Ext.refl _ | with_reducible assumption | (with_reducible refine Ext.drew ?_) | (with_reducible refine Ext.drewN ?_ _) | (with_reducible refine Ext.alloc ?_ _) | (with_reducible refine Ext.setCell ?_ ?_ _) | (with_reducible refine Ext.trans ?_ (by with_reducible assumption)) | omega | (focus (simp <;> omega))))⟩
          case measure => simp [intOf]; omega
      · have e : c.nx - j = 0 := by omega
        have hF' := hF.out
        rw [e, Pl.vfrom] at hF'
        have HP := Lib.hid hF'
        have hge : (c.nx : Int) ≤ (j : Int) := by omega
        have ⟨ln1, ln2, ln3⟩ := last_facts g2 g3
        have yl := (hxr.cell hby).trans (HY.out (c.nx - 1) (by omega))
        clear hF hF' HX HY hq1
        generalize c.y (c.nx - 1) = yy at *
        go_wp2_with fail
        go_ret2
        exact ⟨by rw [HP.out]; rfl, (by repeat (first | with_reducible exact Ext.refl _ | with_reducible assumption | (with_reducible refine Ext.drew ?_) | (with_reducible refine Ext.drewN ?_ _) | (with_reducible refine Ext.alloc ?_ _) | (with_reducible refine Ext.setCell ?_ ?_ _) | (with_reducible refine Ext.trans ?_ (by with_reducible assumption)) | omega | (focus (simp <;> omega))))⟩

theorem vr_bd {c : Pl.Cv} (g : Pl.Good c) (q : Int) : ValBd (Pl.vr c q).1 (Pl.vr c q).2 := by
  have v := Pl.vr_val g q
  have g2 := g.two
  obtain ⟨hd, ⟨h1, h2, h3⟩ | ⟨h1, h2, h3⟩ | ⟨i, i0, hi, h1, h2, h3, h4⟩⟩ := v
  · have := g.iny 0 (by omega)
    rw [h2, h3]
    exact ⟨by omega, by omega⟩
  · have := g.iny (c.nx - 1) (by omega)
    rw [h2, h3]
    exact ⟨by omega, by omega⟩
  · have := Pl.seg_bd g i0 hi h1 h2
    rw [h3, h4]
    exact ⟨by omega, by omega⟩

theorem at09_any (a b : Option Addr) (k l : Nat) (c : Pl.Cv) (q : Int) (w : World) (g : Pl.Good c) (hx : Row w a c.nx c.x) (hy : Row w b c.nx c.y) (hq : I64 q) :
    Calls Try.prog 20 #[.agg #[.slice a c.nx k, .slice b c.nx l], .int .i64 q] w fun e w' => e = .returned (.int .i64 (Pl.atv c q)) ∧ Ext w w' := by
  have E0 : Ext w (w.alloc (.cells #[.slice a c.nx k, .slice b c.nx l] 24)) := (Ext.refl w).alloc _
  have hv := value09 a b k l c q _ g (hx.ext E0) (hy.ext E0) hq
  have h2 := vr_bd g q
  have ea : (Pl.vr c q).1.tdiv (Pl.vr c q).2 = Pl.atv c q := rfl
  generalize Pl.vr c q = pr at *
  obtain ⟨n, d⟩ := pr
  dsimp only at *
  have ⟨t1, t2⟩ := tdiv_bd h2
  obtain ⟨⟨n1, n2⟩, d1, d2⟩ := h2
  have EA := Lib.hid ea
  have d3 : ¬ d = 0 := by omega
  have w1' : IntKind.i64.wrap (n.tdiv d) = n.tdiv d := IntWalk.i64_in _ (by omega)
  have HV := Lib.hid hv
  clear hv hx hy E0 g ea hq
  go_enter Try.func20, Try.ntmps20
  go_wp2_with fail
  refine HV.out.mono ?_
  rintro e w1 ⟨rfl, hx1⟩
  go_wp2_with fail
  go_ret
  exact ⟨by rw [EA.out]; rfl, (by repeat (first | with_reducible exact Ext.refl _ | with_reducible assumption | (with_reducible refine Ext.drew ?_) | (with_reducible refine Ext.drewN ?_ _) | (with_reducible refine Ext.alloc ?_ _) | (with_reducible refine Ext.setCell ?_ ?_ _) | (with_reducible refine Ext.trans ?_ (by with_reducible assumption)) | omega | (focus (simp <;> omega))))⟩

end Go.Proofs.Ytbeolonbboibfaa
