/- The contracts of curve.value, at and At, each walked once.
   Conditions: the curve is one that Check accepts. -/
import Derived.Test.YtbeolonbboibfaaSearch
import Derived.Test.YtbeolonbboibfaaCurveCheck
import Derived.Test.YtbeolonbboibfaaPlainCurve2
namespace Go.Proofs.Ytbeolonbboibfaa
open Go.ChangeShapes Go.WideShapes Go.ChangeAt Go.RowKit

/-- A value's bounds. -/
def ValBd (n d : Int) : Prop := (-4611686018427387904 ≤ n ∧ n ≤ 4611686018427387904) ∧ 1 ≤ d ∧ d ≤ 2147483648
theorem last_facts {n : Nat} (h : 2 ≤ n) (h' : n ≤ 32) : ((n : Int) - 1).toNat = n - 1 ∧ (0 : Int) ≤ (n : Int) - 1 ∧ IntKind.i64.wrap ((n : Int) - 1) = (n : Int) - 1 :=
  ⟨by omega, by omega, IntWalk.i64_in _ (by omega)⟩

set_option maxRecDepth 100000 in
set_option maxHeartbeats 1000000 in
theorem cvalue (a b : Option Addr) (k l : Nat) (c : Pl.Cv) (q : Int) (w : World) (g : Pl.Good c) (hx : Row w a c.nx c.x) (hy : Row w b c.nx c.y) :
    Calls Try.prog 42 #[.agg #[.slice a c.nx k, .slice b c.nx l], .int .i64 q] w fun e w' => ∃ n d, (Pl.IsVal c q n d ∧ ValBd n d) ∧ e = .returned (.tuple #[.int .i64 n, .int .i64 d]) ∧ Ext w w' := by
  have g2 := g.two
  have g3 := g.few
  obtain ⟨bx, ox, rfl, hbx, hcx⟩ := hx (by omega)
  obtain ⟨bY, oY, rfl, hby, hcy⟩ := hy (by omega)
  have n2 : (2 : Int) ≤ (c.nx : Int) := by omega
  have n3 : (c.nx : Int) ≤ 32 := by omega
  have ⟨ln1, ln2, ln3⟩ := last_facts g2 g3
  have B0 := Blk.new w [.slice (some ⟨bx, ox, none⟩) c.nx k, .slice (some ⟨bY, oY, none⟩) c.nx l] 24
  have E0 : Ext w (w.alloc (.cells #[.slice (some ⟨bx, ox, none⟩) c.nx k, .slice (some ⟨bY, oY, none⟩) c.nx l] 24)) := (Ext.refl w).alloc _
  have b0 := B0.at 0 _ rfl
  have b1 := B0.at 1 _ rfl
  have x0c := (E0.cell hbx).trans (hcx 0 (by omega))
  have y0c := (E0.cell hby).trans (hcy 0 (by omega))
  have xlc := (E0.cell hbx).trans (hcx (c.nx - 1) (by omega))
  have ylc := (E0.cell hby).trans (hcy (c.nx - 1) (by omega))
  have x0w := hcx 0 (by omega)
  have y0w := hcy 0 (by omega)
  have xlw := hcx (c.nx - 1) (by omega)
  have ylw := hcy (c.nx - 1) (by omega)
  rw [Nat.add_zero] at x0c y0c x0w y0w
  have z0 := g.iny 0 (by omega)
  have z1 := g.iny (c.nx - 1) (by omega)
  have hxl := g.inx (c.nx - 1) (by omega)
  have hx0 := g.inx 0 (by omega)
  by_cases q0 : q ≤ c.x 0
  · have hv : Pl.IsVal c q (c.y 0) 1 := Pl.val_first q0
    have HV := Lib.hid hv
    have bd : ValBd (c.y 0) 1 := ⟨by omega, by omega⟩
    have BD := Lib.hid bd
    clear hv bd B0 E0 hcx hcy hx hy
    generalize c.y 0 = yy at *
    generalize c.x 0 = xx at *
    go_enter Try.func42, Try.ntmps42
    go_wp2_with fail
    go_ret2
    exact ⟨yy, 1, ⟨HV.out, BD.out⟩, rfl, (by repeat (first | with_reducible exact Ext.refl _ | with_reducible assumption | (with_reducible refine Ext.drew ?_) | (with_reducible refine Ext.drewN ?_ _) | (with_reducible refine Ext.alloc ?_ _) | (with_reducible refine Ext.setCell ?_ ?_ _) | (with_reducible refine Ext.trans ?_ (by with_reducible assumption)) | omega | (focus (simp <;> omega))))⟩
  · have q0' : c.x 0 < q := by omega
    clear q0
    by_cases q1 : c.x (c.nx - 1) ≤ q
    · have hv : Pl.IsVal c q (c.y (c.nx - 1)) 1 := Pl.val_last q1
      have HV := Lib.hid hv
      have bd : ValBd (c.y (c.nx - 1)) 1 := ⟨by omega, by omega⟩
      have BD := Lib.hid bd
      clear hv bd B0 E0 hcx hcy hx hy
      generalize c.y (c.nx - 1) = yy at *
      generalize c.x (c.nx - 1) = xx at *
      generalize c.x 0 = x0 at *
      go_enter Try.func42, Try.ntmps42
      go_wp2_with fail
      go_ret2
      exact ⟨yy, 1, ⟨HV.out, BD.out⟩, rfl, (by repeat (first | with_reducible exact Ext.refl _ | with_reducible assumption | (with_reducible refine Ext.drew ?_) | (with_reducible refine Ext.drewN ?_ _) | (with_reducible refine Ext.alloc ?_ _) | (with_reducible refine Ext.setCell ?_ ?_ _) | (with_reducible refine Ext.trans ?_ (by with_reducible assumption)) | omega | (focus (simp <;> omega))))⟩
    · have q1' : q < c.x (c.nx - 1) := by omega
      have q2 : IntKind.i64.wrap (q + 1) = q + 1 := IntWalk.i64_in _ (by omega)
      have hS := sints_any bx ox c.nx k c.x (q + 1) (w.alloc (.cells #[.slice (some ⟨bx, ox, none⟩) c.nx k, .slice (some ⟨bY, oY, none⟩) c.nx l] 24)) (Nat.lt_of_lt_of_le hbx E0.size)
        (fun j hj => (E0.cell hbx).trans (hcx j hj)) (by omega) (fun i j hij hj => (Pl.up_le g j i hij hj).1)
      have HS := Lib.hid hS
      have HX := Lib.hid hcx
      have HY := Lib.hid hcy
      have HB := Lib.hid B0
      have E0' := Lib.hid E0
      have Q0 := Lib.hid q0'
      have Q1 := Lib.hid q1'
      clear q1 hS hcx hcy B0 E0 hx hy z0 z1 y0c y0w ylc ylw
      go_enter Try.func42, Try.ntmps42
      go_wp2_with fail
      refine HS.out.mono ?_
      rintro e w1 ⟨j, ⟨t1, t2, t3⟩, rfl, hx1⟩
      have j0 : 0 < j := by
        rcases Nat.eq_zero_or_pos j with z | z
        · have := t3 0 (by omega) (by omega)
          have := Q0.out
          simp only [decide_eq_true_eq] at *
          omega
        · exact z
      have hj : j < c.nx := by
        rcases Nat.lt_or_ge j c.nx with z | z
        · exact z
        · have := t2 (c.nx - 1) (by omega)
          have := Q1.out
          simp only [decide_eq_false_iff_not] at *
          omega
      have hq1 : c.x (j - 1) ≤ q := by
        have := t2 (j - 1) (by omega)
        simp only [decide_eq_false_iff_not] at this
        omega
      have hq2 : q ≤ c.x j := by
        have := t3 j (by omega) hj
        simp only [decide_eq_true_eq] at this
        omega
      have E1 := E0'.out.trans hx1
      have B1 := HB.out.ext hx1
      have d0' := B1.at 0 _ rfl
      have d1' := B1.at 1 _ rfl
      have hv := Pl.val_seg g j0 hj hq1 hq2
      have HV := Lib.hid hv
      have bd : ValBd (Pl.sg c j q) (Pl.dx c j) := by
        have z := Pl.seg_bd g j0 hj hq1 hq2
        exact ⟨by omega, by omega⟩
      have BD := Lib.hid bd
      have cx := (E1.cell hbx).trans (HX.out j (by omega))
      have cy := (E1.cell hby).trans (HY.out j (by omega))
      have px := (E1.cell hbx).trans (HX.out (j - 1) (by omega))
      have py := (E1.cell hby).trans (HY.out (j - 1) (by omega))
      have ⟨⟨d0, d1⟩, ⟨y0, y1⟩, ⟨u0, u1⟩, ⟨m0, m1⟩, ⟨p0, p1⟩, ⟨s0, s1⟩⟩ := Pl.seg_bd g j0 hj hq1 hq2
      unfold Pl.sg at s0 s1
      unfold Pl.dx at d0 d1 m0 m1 s0 s1
      unfold Pl.dy at y0 y1 p0 p1 s0 s1
      have ej : ((j : Int) - 1).toNat = j - 1 := by omega
      have ej2 : (0 : Int) ≤ (j : Int) - 1 := by omega
      have ej3 : (j : Int) - 1 < (c.nx : Int) := by omega
      have ej5 : (j : Int) < (c.nx : Int) := by omega
      have ej4 : IntKind.i64.wrap ((j : Int) - 1) = (j : Int) - 1 := IntWalk.i64_in _ (by omega)
      have es : Pl.sg c j q = c.y (j - 1) * (c.x j - c.x (j - 1)) + (c.y j - c.y (j - 1)) * (q - c.x (j - 1)) := rfl
      have ed : Pl.dx c j = c.x j - c.x (j - 1) := rfl
      rw [es, ed] at HV BD
      clear es ed t1 t2 t3 hv bd Q0 Q1 q0' q1' x0c x0w xlc xlw
      generalize c.x 0 = x0 at *
      generalize c.x (c.nx - 1) = xl at *
      generalize c.x j = xr at *
      generalize c.x (j - 1) = xp at *
      generalize c.y j = yr at *
      generalize c.y (j - 1) = yp at *
      have w1 : IntKind.i64.wrap (xr - xp) = xr - xp := IntWalk.i64_in _ (by omega)
      have w2 : IntKind.i64.wrap (yr - yp) = yr - yp := IntWalk.i64_in _ (by omega)
      have w3 : IntKind.i64.wrap (yp * (xr - xp)) = yp * (xr - xp) := IntWalk.i64_in _ (by omega)
      have w4 : IntKind.i64.wrap (q - xp) = q - xp := IntWalk.i64_in _ (by omega)
      have w5 : IntKind.i64.wrap ((yr - yp) * (q - xp)) = (yr - yp) * (q - xp) := IntWalk.i64_in _ (by omega)
      have w6 : IntKind.i64.wrap (yp * (xr - xp) + (yr - yp) * (q - xp)) = yp * (xr - xp) + (yr - yp) * (q - xp) := IntWalk.i64_in _ (by omega)
      go_wp2_with fail
      go_quiet (fail)
      go_wp2_with fail
      go_quiet (fail)
      go_wp2_with fail
      go_ret2
      exact ⟨_, _, ⟨HV.out, BD.out⟩, rfl, (by repeat (first | with_reducible exact Ext.refl _ | with_reducible assumption | (with_reducible refine Ext.drew ?_) | (with_reducible refine Ext.drewN ?_ _) | (with_reducible refine Ext.alloc ?_ _) | (with_reducible refine Ext.setCell ?_ ?_ _) | (with_reducible refine Ext.trans ?_ (by with_reducible assumption)) | omega | (focus (simp <;> omega))))⟩

theorem tdiv_bd {n d : Int} (h : ValBd n d) : (-4611686018427387904 ≤ n.tdiv d ∧ n.tdiv d ≤ 4611686018427387904) := by
  have t := Pl.td n d (by have := h.2.1; omega)
  have h1 := h.1
  have h2 := h.2
  rcases t with ⟨a, b, e, f⟩ | ⟨a, b, e, f⟩
  · have := Int.mul_le_mul_of_nonneg_right h2.1 b
    omega
  · have := Int.mul_le_mul_of_nonneg_right h2.1 (show 0 ≤ -(n.tdiv d) by omega)
    rw [Int.one_mul, Int.mul_neg] at this
    omega

theorem cat_any (a b : Option Addr) (k l : Nat) (c : Pl.Cv) (q : Int) (w : World) (g : Pl.Good c) (hx : Row w a c.nx c.x) (hy : Row w b c.nx c.y) :
    Calls Try.prog 35 #[.agg #[.slice a c.nx k, .slice b c.nx l], .int .i64 q] w fun e w' => e = .returned (.int .i64 (Pl.atv c q)) ∧ Ext w w' := by
  have E0 : Ext w (w.alloc (.cells #[.slice a c.nx k, .slice b c.nx l] 24)) := (Ext.refl w).alloc _
  have hv := cvalue a b k l c q _ g (hx.ext E0) (hy.ext E0)
  have HV := Lib.hid hv
  have G := Lib.hid g
  clear hv hx hy E0 g
  go_enter Try.func35, Try.ntmps35
  go_wp2_with fail
  refine HV.out.mono ?_
  rintro e w1 ⟨n, d, ⟨h1, h2⟩, rfl, hx1⟩
  have ⟨t1, t2⟩ := tdiv_bd h2
  have ea := Pl.atv_of G.out h1
  obtain ⟨⟨n1, n2⟩, d1, d2⟩ := h2
  have EA := Lib.hid ea
  have d3 : ¬ d = 0 := by omega
  have w1' : IntKind.i64.wrap (n.tdiv d) = n.tdiv d := IntWalk.i64_in _ (by omega)
  clear h1 ea
  go_wp2_with fail
  go_ret
  exact ⟨by rw [EA.out]; rfl, (by repeat (first | with_reducible exact Ext.refl _ | with_reducible assumption | (with_reducible refine Ext.drew ?_) | (with_reducible refine Ext.drewN ?_ _) | (with_reducible refine Ext.alloc ?_ _) | (with_reducible refine Ext.setCell ?_ ?_ _) | (with_reducible refine Ext.trans ?_ (by with_reducible assumption)) | omega | (focus (simp <;> omega))))⟩

theorem cAt_ok (a b : Option Addr) (k l : Nat) (c : Pl.Cv) (q : Int) (w : World) (h : Pl.chk c = 0) (hx : Row w a c.nx c.x) (hy : Row w b c.nx c.y) :
    Calls Try.prog 19 #[.agg #[.slice a c.nx k, .slice b c.nx l], .int .i64 q] w fun e w' => e = .returned (.tuple #[.int .i64 (Pl.atv c q), .nilIface]) ∧ Ext w w' := by
  have g := Pl.good_of c h
  have E0 : Ext w (w.alloc (.cells #[.slice a c.nx k, .slice b c.nx l] 24)) := (Ext.refl w).alloc _
  have hc := ccheck_eq a b k l c _ g.same (hx.ext E0) (hy.ext E0) (by have := g.few; unfold maxLen; omega)
  rw [h] at hc
  have HC := Lib.hid hc
  have G := Lib.hid g
  have HX := Lib.hid hx
  have HY := Lib.hid hy
  have E0' := Lib.hid E0
  clear hc hx hy E0 g h
  go_enter Try.func19, Try.ntmps19
  go_wp2_with fail
  refine HC.out.mono ?_
  rw [errv_0]
  rintro e w1 ⟨rfl, hx1⟩
  have A := (Blk.new w [.slice a c.nx k, .slice b c.nx l] 24).ext hx1
  have a0 := A.at 0 _ rfl
  have a1 := A.at 1 _ rfl
  have an := A.lt
  have E1 := E0'.out.trans hx1
  go_wp2_with fail
  refine (cat_any a b k l c q _ G.out (HX.out.ext E1) (HY.out.ext E1)).mono ?_
  rintro e w2 ⟨rfl, hx2⟩
  go_wp2_with fail
  go_ret2
  exact ⟨rfl, (by repeat (first | with_reducible exact Ext.refl _ | with_reducible assumption | (with_reducible refine Ext.drew ?_) | (with_reducible refine Ext.drewN ?_ _) | (with_reducible refine Ext.alloc ?_ _) | (with_reducible refine Ext.setCell ?_ ?_ _) | (with_reducible refine Ext.trans ?_ (by with_reducible assumption)) | omega | (focus (simp <;> omega))))⟩
theorem cAt_bad (a b : Option Addr) (k l : Nat) (c : Pl.Cv) (q : Int) (w : World) (h : Pl.chk c ≠ 0) (hx : Row w a c.nx c.x) (hy : Row w b c.ny c.y) (lx : c.nx ≤ maxLen) (ly : c.ny ≤ maxLen) :
    Calls Try.prog 19 #[.agg #[.slice a c.nx k, .slice b c.ny l], .int .i64 q] w fun e w' => e = .returned (.tuple #[.int .i64 0, errv (Pl.chk c)]) ∧ Ext w w' := by
  have E0 : Ext w (w.alloc (.cells #[.slice a c.nx k, .slice b c.ny l] 24)) := (Ext.refl w).alloc _
  have hc := ccheck a b k l c _ (hx.ext E0) (hy.ext E0) lx ly
  have he : errv (Pl.chk c) = .iface 51 (.int .i64 (Pl.chk c)) := by unfold errv; rw [if_neg h]
  rw [he] at hc ⊢
  have HC := Lib.hid hc
  clear hc hx hy E0 h he lx ly
  generalize Pl.chk c = r at *
  go_enter Try.func19, Try.ntmps19
  go_wp2_with fail
  refine HC.out.mono ?_
  rintro e w1 ⟨rfl, hx1⟩
  go_wp2_with fail
  go_ret2
  exact ⟨rfl, (by repeat (first | with_reducible exact Ext.refl _ | with_reducible assumption | (with_reducible refine Ext.drew ?_) | (with_reducible refine Ext.drewN ?_ _) | (with_reducible refine Ext.alloc ?_ _) | (with_reducible refine Ext.setCell ?_ ?_ _) | (with_reducible refine Ext.trans ?_ (by with_reducible assumption)) | omega | (focus (simp <;> omega))))⟩

end Go.Proofs.Ytbeolonbboibfaa
