/- TorqueLess: with a lower greatest torque the limit is lower, or 0; with another direction of the speed it is the same, at a higher speed or temperature it is not higher.
   Conditions: none: every input. -/
import Derived.Test.YtphfgljfjfpomaaAwakeTorque
import Derived.Test.YtphfgljfjfpomaaTorqueOpen
import Derived.Deep.RegionHeld3
import Derived.Deep.DeepCutAuto
namespace Go.Proofs.Ytphfgljfjfpomaa.torqueLess
open Go.ChangeShapes Go.WideShapes Go.ChangeAt Go.RowKit
set_option linter.unusedVariables false

theorem cell_al {W : World} {a : Addr} {u : Value} (o : Obj) (h : W.cell? a = some u) : (W.alloc o).cell? a = some u := by
  rw [World.cell?_alloc_some _ _ _ (by rw [h]; rfl)]; exact h
theorem cell_st {W : World} {n m o o' : Nat} {u v : Value} (hne : n ≠ m) (h : W.cell? ⟨m, o', none⟩ = some u) : (W.setCell ⟨n, o, none⟩ v).cell? ⟨m, o', none⟩ = some u := by
  rw [World.cell?_setCell_far _ _ _ _ hne]; exact h
theorem low_ok (t : Tc) (ok : TOk t) (o : Int) (h1 : 0 ≤ o) (h2 : o ≤ t.most) : TOk ⟨o, t.per, t.mx, t.c0, t.c1, t.c2, t.c3⟩ := by
  have ⟨⟨mo0, mo1⟩, pe, mx⟩ := ok.rg
  exact ⟨⟨⟨h1, (show o ≤ 16777216 by omega)⟩, pe, mx⟩, ok.k0, ok.k1, ok.k2, ok.k3⟩
theorem less_low (t : Tc) (o s p : Int) (h2 : o ≤ t.most) : lim ⟨o, t.per, t.mx, t.c0, t.c1, t.c2, t.c3⟩ s p = max 0 (lim t s p - (t.most - o)) := by
  unfold lim
  show max 0 (o - max 0 (max (Pl.atv t.c0.v (tn s)) (Pl.atv t.c1.v p))) = _
  omega
theorem less_back (t : Tc) (s p : Int) (h1 : -1073741824 ≤ s) (h2 : s ≤ 1073741824) : lim t (-s) p = lim t s p := by
  have e : tn (-s) = tn s := by
    have e1 : max (clv (-s)) (-(clv (-s))) = max (clv s) (-(clv s)) := by unfold clv clip; omega
    unfold tn; rw [e1]
  unfold lim; rw [e]
theorem less_more (t : Tc) (ok : TOk t) (s p y1 y2 : Int) (h1 : -1073741824 ≤ s) (h2 : s ≤ 1073741824) (h3 : 0 ≤ y1) (h4 : 0 ≤ y2) : lim t (max s (-s) + y1) (p + y2) ≤ lim t s p := by
  have e : tn s ≤ tn (max s (-s) + y1) := by
    have e1 : max (clv s) (-(clv s)) ≤ max (clv (max s (-s) + y1)) (-(clv (max s (-s) + y1))) := by unfold clv clip; omega
    have t1 := Pl.td (max (clv s) (-(clv s))) 65536 (by omega)
    have t2 := Pl.td (max (clv (max s (-s) + y1)) (-(clv (max s (-s) + y1)))) 65536 (by omega)
    unfold tn; omega
  have a := Pl.atv_mono (Pl.good_of _ ok.k0) e
  have b := Pl.atv_mono (Pl.good_of _ ok.k1) (show p ≤ p + y2 by omega)
  unfold lim
  omega
set_option maxRecDepth 100000 in
set_option maxHeartbeats 2000000 in
theorem walk_bad (t : Tc) (sp tp lk : Int) (b1 : I64 sp) (b2 : I64 tp) (b3 : I64 lk) (x0 x1 x2 : Int) (b4 : I64 x0) (b5 : I64 x1) (b6 : I64 x2) (w : World) (hk : tck t ≠ 0) (hw : TcAt w t) :
    Calls Try.prog 8 #[.agg #[.int .i64 t.most, .int .i64 t.per, .int .i64 t.mx, .slice t.c0.a t.c0.v.nx t.c0.k, .slice t.c0.b t.c0.v.ny t.c0.l, .slice t.c1.a t.c1.v.nx t.c1.k, .slice t.c1.b t.c1.v.ny t.c1.l, .slice t.c2.a t.c2.v.nx t.c2.k, .slice t.c2.b t.c2.v.ny t.c2.l, .slice t.c3.a t.c3.v.nx t.c3.k, .slice t.c3.b t.c3.v.ny t.c3.l], .agg #[.int .i64 sp, .int .i64 tp, .int .i64 lk], .agg #[.int .i64 x0, .int .i64 x1, .int .i64 x2]] w fun e w' => e = .returned (.bool true) ∧ Ext w w' := by
  obtain ⟨r, hr⟩ : ∃ r, r = tck t := ⟨_, rfl⟩
  have nz : (r != 0) = true := by rw [hr]; simpa using hk
  have RR := Lib.hid hr
  have HW := Lib.hid hw
  clear hk hw hr
  have E0 : Ext w (((w.alloc (.cells #[.int .i64 t.most, .int .i64 t.per, .int .i64 t.mx, .slice t.c0.a t.c0.v.nx t.c0.k, .slice t.c0.b t.c0.v.ny t.c0.l, .slice t.c1.a t.c1.v.nx t.c1.k, .slice t.c1.b t.c1.v.ny t.c1.l, .slice t.c2.a t.c2.v.nx t.c2.k, .slice t.c2.b t.c2.v.ny t.c2.l, .slice t.c3.a t.c3.v.nx t.c3.k, .slice t.c3.b t.c3.v.ny t.c3.l] 26)).alloc (.cells #[.int .i64 sp, .int .i64 tp, .int .i64 lk] 28)).alloc (.cells #[.int .i64 x0, .int .i64 x1, .int .i64 x2] 55)) := (((Ext.refl w).alloc _).alloc _).alloc _
  have T0 : Blk (((w.alloc (.cells #[.int .i64 t.most, .int .i64 t.per, .int .i64 t.mx, .slice t.c0.a t.c0.v.nx t.c0.k, .slice t.c0.b t.c0.v.ny t.c0.l, .slice t.c1.a t.c1.v.nx t.c1.k, .slice t.c1.b t.c1.v.ny t.c1.l, .slice t.c2.a t.c2.v.nx t.c2.k, .slice t.c2.b t.c2.v.ny t.c2.l, .slice t.c3.a t.c3.v.nx t.c3.k, .slice t.c3.b t.c3.v.ny t.c3.l] 26)).alloc (.cells #[.int .i64 sp, .int .i64 tp, .int .i64 lk] 28)).alloc (.cells #[.int .i64 x0, .int .i64 x1, .int .i64 x2] 55)) (w.heap.size) [.int .i64 t.most, .int .i64 t.per, .int .i64 t.mx, .slice t.c0.a t.c0.v.nx t.c0.k, .slice t.c0.b t.c0.v.ny t.c0.l, .slice t.c1.a t.c1.v.nx t.c1.k, .slice t.c1.b t.c1.v.ny t.c1.l, .slice t.c2.a t.c2.v.nx t.c2.k, .slice t.c2.b t.c2.v.ny t.c2.l, .slice t.c3.a t.c3.v.nx t.c3.k, .slice t.c3.b t.c3.v.ny t.c3.l] := by
    have hh := Blk.new w [.int .i64 t.most, .int .i64 t.per, .int .i64 t.mx, .slice t.c0.a t.c0.v.nx t.c0.k, .slice t.c0.b t.c0.v.ny t.c0.l, .slice t.c1.a t.c1.v.nx t.c1.k, .slice t.c1.b t.c1.v.ny t.c1.l, .slice t.c2.a t.c2.v.nx t.c2.k, .slice t.c2.b t.c2.v.ny t.c2.l, .slice t.c3.a t.c3.v.nx t.c3.k, .slice t.c3.b t.c3.v.ny t.c3.l] 26
    have e : (w).heap.size = w.heap.size := by simp
    rw [e] at hh
    exact (hh.alloc _).alloc _
  have HT := Lib.hid T0
  have I0 : Blk (((w.alloc (.cells #[.int .i64 t.most, .int .i64 t.per, .int .i64 t.mx, .slice t.c0.a t.c0.v.nx t.c0.k, .slice t.c0.b t.c0.v.ny t.c0.l, .slice t.c1.a t.c1.v.nx t.c1.k, .slice t.c1.b t.c1.v.ny t.c1.l, .slice t.c2.a t.c2.v.nx t.c2.k, .slice t.c2.b t.c2.v.ny t.c2.l, .slice t.c3.a t.c3.v.nx t.c3.k, .slice t.c3.b t.c3.v.ny t.c3.l] 26)).alloc (.cells #[.int .i64 sp, .int .i64 tp, .int .i64 lk] 28)).alloc (.cells #[.int .i64 x0, .int .i64 x1, .int .i64 x2] 55)) (w.heap.size + 1) [.int .i64 sp, .int .i64 tp, .int .i64 lk] := by
    have hh := Blk.new (w.alloc (.cells #[.int .i64 t.most, .int .i64 t.per, .int .i64 t.mx, .slice t.c0.a t.c0.v.nx t.c0.k, .slice t.c0.b t.c0.v.ny t.c0.l, .slice t.c1.a t.c1.v.nx t.c1.k, .slice t.c1.b t.c1.v.ny t.c1.l, .slice t.c2.a t.c2.v.nx t.c2.k, .slice t.c2.b t.c2.v.ny t.c2.l, .slice t.c3.a t.c3.v.nx t.c3.k, .slice t.c3.b t.c3.v.ny t.c3.l] 26)) [.int .i64 sp, .int .i64 tp, .int .i64 lk] 28
    have e : ((w.alloc (.cells #[.int .i64 t.most, .int .i64 t.per, .int .i64 t.mx, .slice t.c0.a t.c0.v.nx t.c0.k, .slice t.c0.b t.c0.v.ny t.c0.l, .slice t.c1.a t.c1.v.nx t.c1.k, .slice t.c1.b t.c1.v.ny t.c1.l, .slice t.c2.a t.c2.v.nx t.c2.k, .slice t.c2.b t.c2.v.ny t.c2.l, .slice t.c3.a t.c3.v.nx t.c3.k, .slice t.c3.b t.c3.v.ny t.c3.l] 26))).heap.size = w.heap.size + 1 := by simp
    rw [e] at hh
    exact hh.alloc _
  have HI := Lib.hid I0
  have X0 : Blk (((w.alloc (.cells #[.int .i64 t.most, .int .i64 t.per, .int .i64 t.mx, .slice t.c0.a t.c0.v.nx t.c0.k, .slice t.c0.b t.c0.v.ny t.c0.l, .slice t.c1.a t.c1.v.nx t.c1.k, .slice t.c1.b t.c1.v.ny t.c1.l, .slice t.c2.a t.c2.v.nx t.c2.k, .slice t.c2.b t.c2.v.ny t.c2.l, .slice t.c3.a t.c3.v.nx t.c3.k, .slice t.c3.b t.c3.v.ny t.c3.l] 26)).alloc (.cells #[.int .i64 sp, .int .i64 tp, .int .i64 lk] 28)).alloc (.cells #[.int .i64 x0, .int .i64 x1, .int .i64 x2] 55)) (w.heap.size + 1 + 1) [.int .i64 x0, .int .i64 x1, .int .i64 x2] := by
    have hh := Blk.new ((w.alloc (.cells #[.int .i64 t.most, .int .i64 t.per, .int .i64 t.mx, .slice t.c0.a t.c0.v.nx t.c0.k, .slice t.c0.b t.c0.v.ny t.c0.l, .slice t.c1.a t.c1.v.nx t.c1.k, .slice t.c1.b t.c1.v.ny t.c1.l, .slice t.c2.a t.c2.v.nx t.c2.k, .slice t.c2.b t.c2.v.ny t.c2.l, .slice t.c3.a t.c3.v.nx t.c3.k, .slice t.c3.b t.c3.v.ny t.c3.l] 26)).alloc (.cells #[.int .i64 sp, .int .i64 tp, .int .i64 lk] 28)) [.int .i64 x0, .int .i64 x1, .int .i64 x2] 55
    have e : (((w.alloc (.cells #[.int .i64 t.most, .int .i64 t.per, .int .i64 t.mx, .slice t.c0.a t.c0.v.nx t.c0.k, .slice t.c0.b t.c0.v.ny t.c0.l, .slice t.c1.a t.c1.v.nx t.c1.k, .slice t.c1.b t.c1.v.ny t.c1.l, .slice t.c2.a t.c2.v.nx t.c2.k, .slice t.c2.b t.c2.v.ny t.c2.l, .slice t.c3.a t.c3.v.nx t.c3.k, .slice t.c3.b t.c3.v.ny t.c3.l] 26)).alloc (.cells #[.int .i64 sp, .int .i64 tp, .int .i64 lk] 28))).heap.size = w.heap.size + 1 + 1 := by simp
    rw [e] at hh
    exact hh
  have HX := Lib.hid X0
  have HE := Lib.hid E0
  clear E0 T0 I0 X0
  go_enter Try.func8, Try.ntmps8
  go_wp2_with fail
  refine (few_any t _).mono ?_
  rintro e w1 ⟨bb, rfl, hx1⟩
  have E1 := HE.out.trans hx1
  have T1 := HT.out.ext hx1
  have I1 := HI.out.ext hx1
  have X1 := HX.out.ext hx1
  have Tc0_1 := T1.at 0 _ rfl
  have Tc1_1 := T1.at 1 _ rfl
  have Tc2_1 := T1.at 2 _ rfl
  have Tc3_1 := T1.at 3 _ rfl
  have Tc4_1 := T1.at 4 _ rfl
  have Tc5_1 := T1.at 5 _ rfl
  have Tc6_1 := T1.at 6 _ rfl
  have Tc7_1 := T1.at 7 _ rfl
  have Tc8_1 := T1.at 8 _ rfl
  have Tc9_1 := T1.at 9 _ rfl
  have Tc10_1 := T1.at 10 _ rfl
  have Tn_1 := T1.lt
  have Ic0_1 := I1.at 0 _ rfl
  have Ic1_1 := I1.at 1 _ rfl
  have Ic2_1 := I1.at 2 _ rfl
  have In_1 := I1.lt
  have Xc0_1 := X1.at 0 _ rfl
  have Xc1_1 := X1.at 1 _ rfl
  have Xc2_1 := X1.at 2 _ rfl
  have Xn_1 := X1.lt
  cases bb
  · skip
    go_wp2_with fail
    refine (awake36 _).mono ?_
    rintro e wz ⟨rfl, hxz⟩
    go_wp2_with fail
    go_ret
    exact ⟨(by first | rfl | exact ret_true (by simp <;> omega)), (by repeat (first | with_reducible exact Ext.refl _ | with_reducible assumption | (with_reducible refine Ext.drew ?_) | (with_reducible refine Ext.drewN ?_ _) | (with_reducible refine Ext.alloc ?_ _) | (with_reducible refine Ext.setCell ?_ ?_ _) | (with_reducible refine Ext.trans ?_ (by with_reducible assumption)) | omega | (focus (simp <;> omega))))⟩
  · skip
    go_wp2_with fail
    refine (check36 t _ (HW.out.ext E1)).mono ?_
    rw [← RR.out]
    rintro e w2 ⟨rfl, hx2⟩
    have F2 : Ext w1 w2 := (by repeat (first | with_reducible exact Ext.refl _ | with_reducible assumption | (with_reducible refine Ext.drew ?_) | (with_reducible refine Ext.drewN ?_ _) | (with_reducible refine Ext.alloc ?_ _) | (with_reducible refine Ext.setCell ?_ ?_ _) | (with_reducible refine Ext.trans ?_ (by with_reducible assumption)) | omega | (focus (simp <;> omega))))
    have E2 := E1.trans F2
    have T2 := T1.ext F2
    have I2 := I1.ext F2
    have X2 := X1.ext F2
    clear Tc0_1 Tc1_1 Tc2_1 Tc3_1 Tc4_1 Tc5_1 Tc6_1 Tc7_1 Tc8_1 Tc9_1 Tc10_1 Ic0_1 Ic1_1 Ic2_1 Xc0_1 Xc1_1 Xc2_1
    have Tc0_2 := T2.at 0 _ rfl
    have Tc1_2 := T2.at 1 _ rfl
    have Tc2_2 := T2.at 2 _ rfl
    have Tc3_2 := T2.at 3 _ rfl
    have Tc4_2 := T2.at 4 _ rfl
    have Tc5_2 := T2.at 5 _ rfl
    have Tc6_2 := T2.at 6 _ rfl
    have Tc7_2 := T2.at 7 _ rfl
    have Tc8_2 := T2.at 8 _ rfl
    have Tc9_2 := T2.at 9 _ rfl
    have Tc10_2 := T2.at 10 _ rfl
    have Tn_2 := T2.lt
    have Ic0_2 := I2.at 0 _ rfl
    have Ic1_2 := I2.at 1 _ rfl
    have Ic2_2 := I2.at 2 _ rfl
    have In_2 := I2.lt
    have Xc0_2 := X2.at 0 _ rfl
    have Xc1_2 := X2.at 1 _ rfl
    have Xc2_2 := X2.at 2 _ rfl
    have Xn_2 := X2.lt
    go_wp2_with fail
    refine (awake36 _).mono ?_
    rintro e wz ⟨rfl, hxz⟩
    go_wp2_with fail
    go_ret
    exact ⟨(by first | rfl | exact ret_true (by simp <;> omega)), (by repeat (first | with_reducible exact Ext.refl _ | with_reducible assumption | (with_reducible refine Ext.drew ?_) | (with_reducible refine Ext.drewN ?_ _) | (with_reducible refine Ext.alloc ?_ _) | (with_reducible refine Ext.setCell ?_ ?_ _) | (with_reducible refine Ext.trans ?_ (by with_reducible assumption)) | omega | (focus (simp <;> omega))))⟩

set_option maxRecDepth 100000 in
set_option maxHeartbeats 2000000 in
theorem walk_ok (t : Tc) (sp tp lk : Int) (b1 : I64 sp) (b2 : I64 tp) (b3 : I64 lk) (x0 x1 x2 : Int) (b4 : I64 x0) (b5 : I64 x1) (b6 : I64 x2) (w : World) (hk : tck t = 0) (hw : TcAt w t) :
    Calls Try.prog 8 #[.agg #[.int .i64 t.most, .int .i64 t.per, .int .i64 t.mx, .slice t.c0.a t.c0.v.nx t.c0.k, .slice t.c0.b t.c0.v.ny t.c0.l, .slice t.c1.a t.c1.v.nx t.c1.k, .slice t.c1.b t.c1.v.ny t.c1.l, .slice t.c2.a t.c2.v.nx t.c2.k, .slice t.c2.b t.c2.v.ny t.c2.l, .slice t.c3.a t.c3.v.nx t.c3.k, .slice t.c3.b t.c3.v.ny t.c3.l], .agg #[.int .i64 sp, .int .i64 tp, .int .i64 lk], .agg #[.int .i64 x0, .int .i64 x1, .int .i64 x2]] w fun e w' => e = .returned (.bool true) ∧ Ext w w' := by
  have ok := tok_of hk
  have OK := Lib.hid ok
  have TK := Lib.hid hk
  have HW := Lib.hid hw
  have ⟨⟨mo0, mo1⟩, ⟨pe0, pe1⟩, ⟨mx0, mx1⟩⟩ := ok.rg
  obtain ⟨o, ho⟩ : ∃ o, o = clip x0 0 t.most := ⟨_, rfl⟩
  have ⟨o1, o2⟩ := clip_bd x0 0 t.most mo0
  rw [← ho] at o1 o2
  obtain ⟨s, hs⟩ : ∃ s, s = clip sp (-1073741824) 1073741824 := ⟨_, rfl⟩
  have ⟨s1, s2⟩ := clip_bd sp (-1073741824) 1073741824 (by omega)
  rw [← hs] at s1 s2
  obtain ⟨p, hp⟩ : ∃ p, p = clip tp (-1099511627776) 1099511627776 := ⟨_, rfl⟩
  have ⟨p1, p2⟩ := clip_bd tp (-1099511627776) 1099511627776 (by omega)
  rw [← hp] at p1 p2
  obtain ⟨y1, hy1⟩ : ∃ y, y = clip x1 0 1099511627776 := ⟨_, rfl⟩
  have ⟨y11, y12⟩ := clip_bd x1 0 1099511627776 (by omega)
  rw [← hy1] at y11 y12
  obtain ⟨y2, hy2⟩ : ∃ y, y = clip x2 0 1099511627776 := ⟨_, rfl⟩
  have ⟨y21, y22⟩ := clip_bd x2 0 1099511627776 (by omega)
  rw [← hy2] at y21 y22
  have H0 := Lib.hid ho
  have H1 := Lib.hid hs
  have H2 := Lib.hid hp
  have HY := Lib.hid hy1
  have HZ := Lib.hid hy2
  clear ho hs hp hy1 hy2 b1 b2 b3 b4 b5 b6
  have HA := Lib.hid (fun V => abs_any s V ⟨by omega, by omega⟩)
  have l1 := less_low t o s p o2
  have l2 := less_back t s p (by omega) (by omega)
  have l3 := less_more t ok s p y1 y2 (by omega) (by omega) (by omega) (by omega)
  have l4 := lim_bd t ok.rg s p
  obtain ⟨a9, ha9⟩ : ∃ a, a = lim t s p := ⟨_, rfl⟩
  obtain ⟨b9, hb9⟩ : ∃ a, a = lim ⟨o, t.per, t.mx, t.c0, t.c1, t.c2, t.c3⟩ s p := ⟨_, rfl⟩
  obtain ⟨h9, hh9⟩ : ∃ a, a = lim t (max s (-s) + y1) (p + y2) := ⟨_, rfl⟩
  rw [← ha9, ← hb9] at l1
  rw [← ha9] at l2 l3 l4
  rw [← hh9] at l3
  have R1 : Hid (∀ V, Ext w V → Calls Try.prog 16 #[.agg #[.int .i64 t.most, .int .i64 t.per, .int .i64 t.mx, .slice t.c0.a t.c0.v.nx t.c0.k, .slice t.c0.b t.c0.v.ny t.c0.l, .slice t.c1.a t.c1.v.nx t.c1.k, .slice t.c1.b t.c1.v.ny t.c1.l, .slice t.c2.a t.c2.v.nx t.c2.k, .slice t.c2.b t.c2.v.ny t.c2.l, .slice t.c3.a t.c3.v.nx t.c3.k, .slice t.c3.b t.c3.v.ny t.c3.l], .agg #[.int .i64 s, .int .i64 p, .int .i64 lk]] V fun e w' => e = .returned (.tuple #[.int .i64 a9, .nilIface]) ∧ Ext V w') :=
    Lib.hid (fun V hV => by
      have h := tLimit_ok t s p lk V ok hk (hw.ext hV)
      rw [← ha9] at h
      exact h)
  have R2 : Hid (∀ V, Ext w V → Calls Try.prog 16 #[.agg #[.int .i64 o, .int .i64 t.per, .int .i64 t.mx, .slice t.c0.a t.c0.v.nx t.c0.k, .slice t.c0.b t.c0.v.ny t.c0.l, .slice t.c1.a t.c1.v.nx t.c1.k, .slice t.c1.b t.c1.v.ny t.c1.l, .slice t.c2.a t.c2.v.nx t.c2.k, .slice t.c2.b t.c2.v.ny t.c2.l, .slice t.c3.a t.c3.v.nx t.c3.k, .slice t.c3.b t.c3.v.ny t.c3.l], .agg #[.int .i64 s, .int .i64 p, .int .i64 lk]] V fun e w' => e = .returned (.tuple #[.int .i64 b9, .nilIface]) ∧ Ext V w') :=
    Lib.hid (fun V hV => by
      have h := tLimit_ok ⟨o, t.per, t.mx, t.c0, t.c1, t.c2, t.c3⟩ s p lk V (low_ok t ok o o1 o2) (tck_ok (low_ok t ok o o1 o2)) ⟨hw.c0.ext hV, hw.c1.ext hV, hw.c2.ext hV, hw.c3.ext hV⟩
      rw [← hb9] at h
      exact h)
  have R3 : Hid (∀ V, Ext w V → Calls Try.prog 16 #[.agg #[.int .i64 t.most, .int .i64 t.per, .int .i64 t.mx, .slice t.c0.a t.c0.v.nx t.c0.k, .slice t.c0.b t.c0.v.ny t.c0.l, .slice t.c1.a t.c1.v.nx t.c1.k, .slice t.c1.b t.c1.v.ny t.c1.l, .slice t.c2.a t.c2.v.nx t.c2.k, .slice t.c2.b t.c2.v.ny t.c2.l, .slice t.c3.a t.c3.v.nx t.c3.k, .slice t.c3.b t.c3.v.ny t.c3.l], .agg #[.int .i64 (-s), .int .i64 p, .int .i64 lk]] V fun e w' => e = .returned (.tuple #[.int .i64 a9, .nilIface]) ∧ Ext V w') :=
    Lib.hid (fun V hV => by
      have h := tLimit_ok t (-s) p lk V ok hk (hw.ext hV)
      rw [l2] at h
      exact h)
  have R4 : Hid (∀ V, Ext w V → Calls Try.prog 16 #[.agg #[.int .i64 t.most, .int .i64 t.per, .int .i64 t.mx, .slice t.c0.a t.c0.v.nx t.c0.k, .slice t.c0.b t.c0.v.ny t.c0.l, .slice t.c1.a t.c1.v.nx t.c1.k, .slice t.c1.b t.c1.v.ny t.c1.l, .slice t.c2.a t.c2.v.nx t.c2.k, .slice t.c2.b t.c2.v.ny t.c2.l, .slice t.c3.a t.c3.v.nx t.c3.k, .slice t.c3.b t.c3.v.ny t.c3.l], .agg #[.int .i64 (max s (-s) + y1), .int .i64 (p + y2), .int .i64 lk]] V fun e w' => e = .returned (.tuple #[.int .i64 h9, .nilIface]) ∧ Ext V w') :=
    Lib.hid (fun V hV => by
      have h := tLimit_ok t (max s (-s) + y1) (p + y2) lk V ok hk (hw.ext hV)
      rw [← hh9] at h
      exact h)
  clear ha9 hb9 hh9 l2
  have wv : IntKind.i64.wrap (max s (-s) + y1) = max s (-s) + y1 := IntWalk.i64_in _ (by omega)
  have wp : IntKind.i64.wrap (p + y2) = p + y2 := IntWalk.i64_in _ (by omega)
  clear hk hw ok
  have E0 : Ext w (((w.alloc (.cells #[.int .i64 t.most, .int .i64 t.per, .int .i64 t.mx, .slice t.c0.a t.c0.v.nx t.c0.k, .slice t.c0.b t.c0.v.ny t.c0.l, .slice t.c1.a t.c1.v.nx t.c1.k, .slice t.c1.b t.c1.v.ny t.c1.l, .slice t.c2.a t.c2.v.nx t.c2.k, .slice t.c2.b t.c2.v.ny t.c2.l, .slice t.c3.a t.c3.v.nx t.c3.k, .slice t.c3.b t.c3.v.ny t.c3.l] 26)).alloc (.cells #[.int .i64 sp, .int .i64 tp, .int .i64 lk] 28)).alloc (.cells #[.int .i64 x0, .int .i64 x1, .int .i64 x2] 55)) := (((Ext.refl w).alloc _).alloc _).alloc _
  have T0 : Blk (((w.alloc (.cells #[.int .i64 t.most, .int .i64 t.per, .int .i64 t.mx, .slice t.c0.a t.c0.v.nx t.c0.k, .slice t.c0.b t.c0.v.ny t.c0.l, .slice t.c1.a t.c1.v.nx t.c1.k, .slice t.c1.b t.c1.v.ny t.c1.l, .slice t.c2.a t.c2.v.nx t.c2.k, .slice t.c2.b t.c2.v.ny t.c2.l, .slice t.c3.a t.c3.v.nx t.c3.k, .slice t.c3.b t.c3.v.ny t.c3.l] 26)).alloc (.cells #[.int .i64 sp, .int .i64 tp, .int .i64 lk] 28)).alloc (.cells #[.int .i64 x0, .int .i64 x1, .int .i64 x2] 55)) (w.heap.size) [.int .i64 t.most, .int .i64 t.per, .int .i64 t.mx, .slice t.c0.a t.c0.v.nx t.c0.k, .slice t.c0.b t.c0.v.ny t.c0.l, .slice t.c1.a t.c1.v.nx t.c1.k, .slice t.c1.b t.c1.v.ny t.c1.l, .slice t.c2.a t.c2.v.nx t.c2.k, .slice t.c2.b t.c2.v.ny t.c2.l, .slice t.c3.a t.c3.v.nx t.c3.k, .slice t.c3.b t.c3.v.ny t.c3.l] := by
    have hh := Blk.new w [.int .i64 t.most, .int .i64 t.per, .int .i64 t.mx, .slice t.c0.a t.c0.v.nx t.c0.k, .slice t.c0.b t.c0.v.ny t.c0.l, .slice t.c1.a t.c1.v.nx t.c1.k, .slice t.c1.b t.c1.v.ny t.c1.l, .slice t.c2.a t.c2.v.nx t.c2.k, .slice t.c2.b t.c2.v.ny t.c2.l, .slice t.c3.a t.c3.v.nx t.c3.k, .slice t.c3.b t.c3.v.ny t.c3.l] 26
    have e : (w).heap.size = w.heap.size := by simp
    rw [e] at hh
    exact (hh.alloc _).alloc _
  have HT := Lib.hid T0
  have I0 : Blk (((w.alloc (.cells #[.int .i64 t.most, .int .i64 t.per, .int .i64 t.mx, .slice t.c0.a t.c0.v.nx t.c0.k, .slice t.c0.b t.c0.v.ny t.c0.l, .slice t.c1.a t.c1.v.nx t.c1.k, .slice t.c1.b t.c1.v.ny t.c1.l, .slice t.c2.a t.c2.v.nx t.c2.k, .slice t.c2.b t.c2.v.ny t.c2.l, .slice t.c3.a t.c3.v.nx t.c3.k, .slice t.c3.b t.c3.v.ny t.c3.l] 26)).alloc (.cells #[.int .i64 sp, .int .i64 tp, .int .i64 lk] 28)).alloc (.cells #[.int .i64 x0, .int .i64 x1, .int .i64 x2] 55)) (w.heap.size + 1) [.int .i64 sp, .int .i64 tp, .int .i64 lk] := by
    have hh := Blk.new (w.alloc (.cells #[.int .i64 t.most, .int .i64 t.per, .int .i64 t.mx, .slice t.c0.a t.c0.v.nx t.c0.k, .slice t.c0.b t.c0.v.ny t.c0.l, .slice t.c1.a t.c1.v.nx t.c1.k, .slice t.c1.b t.c1.v.ny t.c1.l, .slice t.c2.a t.c2.v.nx t.c2.k, .slice t.c2.b t.c2.v.ny t.c2.l, .slice t.c3.a t.c3.v.nx t.c3.k, .slice t.c3.b t.c3.v.ny t.c3.l] 26)) [.int .i64 sp, .int .i64 tp, .int .i64 lk] 28
    have e : ((w.alloc (.cells #[.int .i64 t.most, .int .i64 t.per, .int .i64 t.mx, .slice t.c0.a t.c0.v.nx t.c0.k, .slice t.c0.b t.c0.v.ny t.c0.l, .slice t.c1.a t.c1.v.nx t.c1.k, .slice t.c1.b t.c1.v.ny t.c1.l, .slice t.c2.a t.c2.v.nx t.c2.k, .slice t.c2.b t.c2.v.ny t.c2.l, .slice t.c3.a t.c3.v.nx t.c3.k, .slice t.c3.b t.c3.v.ny t.c3.l] 26))).heap.size = w.heap.size + 1 := by simp
    rw [e] at hh
    exact hh.alloc _
  have HI := Lib.hid I0
  have X0 : Blk (((w.alloc (.cells #[.int .i64 t.most, .int .i64 t.per, .int .i64 t.mx, .slice t.c0.a t.c0.v.nx t.c0.k, .slice t.c0.b t.c0.v.ny t.c0.l, .slice t.c1.a t.c1.v.nx t.c1.k, .slice t.c1.b t.c1.v.ny t.c1.l, .slice t.c2.a t.c2.v.nx t.c2.k, .slice t.c2.b t.c2.v.ny t.c2.l, .slice t.c3.a t.c3.v.nx t.c3.k, .slice t.c3.b t.c3.v.ny t.c3.l] 26)).alloc (.cells #[.int .i64 sp, .int .i64 tp, .int .i64 lk] 28)).alloc (.cells #[.int .i64 x0, .int .i64 x1, .int .i64 x2] 55)) (w.heap.size + 1 + 1) [.int .i64 x0, .int .i64 x1, .int .i64 x2] := by
    have hh := Blk.new ((w.alloc (.cells #[.int .i64 t.most, .int .i64 t.per, .int .i64 t.mx, .slice t.c0.a t.c0.v.nx t.c0.k, .slice t.c0.b t.c0.v.ny t.c0.l, .slice t.c1.a t.c1.v.nx t.c1.k, .slice t.c1.b t.c1.v.ny t.c1.l, .slice t.c2.a t.c2.v.nx t.c2.k, .slice t.c2.b t.c2.v.ny t.c2.l, .slice t.c3.a t.c3.v.nx t.c3.k, .slice t.c3.b t.c3.v.ny t.c3.l] 26)).alloc (.cells #[.int .i64 sp, .int .i64 tp, .int .i64 lk] 28)) [.int .i64 x0, .int .i64 x1, .int .i64 x2] 55
    have e : (((w.alloc (.cells #[.int .i64 t.most, .int .i64 t.per, .int .i64 t.mx, .slice t.c0.a t.c0.v.nx t.c0.k, .slice t.c0.b t.c0.v.ny t.c0.l, .slice t.c1.a t.c1.v.nx t.c1.k, .slice t.c1.b t.c1.v.ny t.c1.l, .slice t.c2.a t.c2.v.nx t.c2.k, .slice t.c2.b t.c2.v.ny t.c2.l, .slice t.c3.a t.c3.v.nx t.c3.k, .slice t.c3.b t.c3.v.ny t.c3.l] 26)).alloc (.cells #[.int .i64 sp, .int .i64 tp, .int .i64 lk] 28))).heap.size = w.heap.size + 1 + 1 := by simp
    rw [e] at hh
    exact hh
  have HX := Lib.hid X0
  have HE := Lib.hid E0
  clear E0 T0 I0 X0
  go_enter Try.func8, Try.ntmps8
  go_wp2_with fail
  refine (few_any t _).mono ?_
  rintro e w1 ⟨bb, rfl, hx1⟩
  have E1 := HE.out.trans hx1
  have T1 := HT.out.ext hx1
  have I1 := HI.out.ext hx1
  have X1 := HX.out.ext hx1
  have Tc0_1 := T1.at 0 _ rfl
  have Tc1_1 := T1.at 1 _ rfl
  have Tc2_1 := T1.at 2 _ rfl
  have Tc3_1 := T1.at 3 _ rfl
  have Tc4_1 := T1.at 4 _ rfl
  have Tc5_1 := T1.at 5 _ rfl
  have Tc6_1 := T1.at 6 _ rfl
  have Tc7_1 := T1.at 7 _ rfl
  have Tc8_1 := T1.at 8 _ rfl
  have Tc9_1 := T1.at 9 _ rfl
  have Tc10_1 := T1.at 10 _ rfl
  have Tn_1 := T1.lt
  have Ic0_1 := I1.at 0 _ rfl
  have Ic1_1 := I1.at 1 _ rfl
  have Ic2_1 := I1.at 2 _ rfl
  have In_1 := I1.lt
  have Xc0_1 := X1.at 0 _ rfl
  have Xc1_1 := X1.at 1 _ rfl
  have Xc2_1 := X1.at 2 _ rfl
  have Xn_1 := X1.lt
  cases bb
  · skip
    go_wp2_with fail
    refine (awake36 _).mono ?_
    rintro e wz ⟨rfl, hxz⟩
    go_wp2_with fail
    go_ret
    exact ⟨(by first | rfl | exact ret_true (by simp <;> omega)), (by repeat (first | with_reducible exact Ext.refl _ | with_reducible assumption | (with_reducible refine Ext.drew ?_) | (with_reducible refine Ext.drewN ?_ _) | (with_reducible refine Ext.alloc ?_ _) | (with_reducible refine Ext.setCell ?_ ?_ _) | (with_reducible refine Ext.trans ?_ (by with_reducible assumption)) | omega | (focus (simp <;> omega))))⟩
  · skip
    go_wp2_with fail
    refine (check36 t _ (HW.out.ext E1)).mono ?_
    rw [TK.out]
    rintro e w2 ⟨rfl, hx2⟩
    have F2 : Ext w1 w2 := (by repeat (first | with_reducible exact Ext.refl _ | with_reducible assumption | (with_reducible refine Ext.drew ?_) | (with_reducible refine Ext.drewN ?_ _) | (with_reducible refine Ext.alloc ?_ _) | (with_reducible refine Ext.setCell ?_ ?_ _) | (with_reducible refine Ext.trans ?_ (by with_reducible assumption)) | omega | (focus (simp <;> omega))))
    have E2 := E1.trans F2
    have T2 := T1.ext F2
    have I2 := I1.ext F2
    have X2 := X1.ext F2
    clear Tc0_1 Tc1_1 Tc2_1 Tc3_1 Tc4_1 Tc5_1 Tc6_1 Tc7_1 Tc8_1 Tc9_1 Tc10_1 Ic0_1 Ic1_1 Ic2_1 Xc0_1 Xc1_1 Xc2_1
    have Tc0_2 := T2.at 0 _ rfl
    have Tc1_2 := T2.at 1 _ rfl
    have Tc2_2 := T2.at 2 _ rfl
    have Tc3_2 := T2.at 3 _ rfl
    have Tc4_2 := T2.at 4 _ rfl
    have Tc5_2 := T2.at 5 _ rfl
    have Tc6_2 := T2.at 6 _ rfl
    have Tc7_2 := T2.at 7 _ rfl
    have Tc8_2 := T2.at 8 _ rfl
    have Tc9_2 := T2.at 9 _ rfl
    have Tc10_2 := T2.at 10 _ rfl
    have Tn_2 := T2.lt
    have Ic0_2 := I2.at 0 _ rfl
    have Ic1_2 := I2.at 1 _ rfl
    have Ic2_2 := I2.at 2 _ rfl
    have In_2 := I2.lt
    have Xc0_2 := X2.at 0 _ rfl
    have Xc1_2 := X2.at 1 _ rfl
    have Xc2_2 := X2.at 2 _ rfl
    have Xn_2 := X2.lt
    go_wp2_with fail
    refine (awake36 _).mono ?_
    rintro e w3 ⟨rfl, hx3⟩
    have F3 : Ext w2 w3 := (by repeat (first | with_reducible exact Ext.refl _ | with_reducible assumption | (with_reducible refine Ext.drew ?_) | (with_reducible refine Ext.drewN ?_ _) | (with_reducible refine Ext.alloc ?_ _) | (with_reducible refine Ext.setCell ?_ ?_ _) | (with_reducible refine Ext.trans ?_ (by with_reducible assumption)) | omega | (focus (simp <;> omega))))
    have E3 := E2.trans F3
    have T3 := T2.ext F3
    have I3 := I2.ext F3
    have X3 := X2.ext F3
    clear Tc0_2 Tc1_2 Tc2_2 Tc3_2 Tc4_2 Tc5_2 Tc6_2 Tc7_2 Tc8_2 Tc9_2 Tc10_2 Ic0_2 Ic1_2 Ic2_2 Xc0_2 Xc1_2 Xc2_2
    have Tc0_3 := T3.at 0 _ rfl
    have Tc1_3 := T3.at 1 _ rfl
    have Tc2_3 := T3.at 2 _ rfl
    have Tc3_3 := T3.at 3 _ rfl
    have Tc4_3 := T3.at 4 _ rfl
    have Tc5_3 := T3.at 5 _ rfl
    have Tc6_3 := T3.at 6 _ rfl
    have Tc7_3 := T3.at 7 _ rfl
    have Tc8_3 := T3.at 8 _ rfl
    have Tc9_3 := T3.at 9 _ rfl
    have Tc10_3 := T3.at 10 _ rfl
    have Tn_3 := T3.lt
    have Ic0_3 := I3.at 0 _ rfl
    have Ic1_3 := I3.at 1 _ rfl
    have Ic2_3 := I3.at 2 _ rfl
    have In_3 := I3.lt
    have Xc0_3 := X3.at 0 _ rfl
    have Xc1_3 := X3.at 1 _ rfl
    have Xc2_3 := X3.at 2 _ rfl
    have Xn_3 := X3.lt
    have If := I3.fr
    go_wp2_with fail
    refine (clip_any x0 0 t.most _).mono ?_
    rw [← H0.out]
    rintro e wq ⟨rfl, rfl⟩
    go_wp2_with fail
    refine (clip_any sp (-1073741824) 1073741824 _).mono ?_
    rw [← H1.out]
    rintro e wq ⟨rfl, rfl⟩
    go_wp2_with fail
    refine (clip_any tp (-1099511627776) 1099511627776 _).mono ?_
    rw [← H2.out]
    rintro e wq ⟨rfl, rfl⟩
    have tl := T3.lt
    have xl := X3.lt
    have E7 : Ext w (((w3.setCell ⟨w.heap.size + 1, 0, none⟩ (.int .i64 s)).setCell ⟨w.heap.size + 1, 1, none⟩ (.int .i64 p)).alloc (.cells #[.int .i64 o, .int .i64 t.per, .int .i64 t.mx, .slice t.c0.a t.c0.v.nx t.c0.k, .slice t.c0.b t.c0.v.ny t.c0.l, .slice t.c1.a t.c1.v.nx t.c1.k, .slice t.c1.b t.c1.v.ny t.c1.l, .slice t.c2.a t.c2.v.nx t.c2.k, .slice t.c2.b t.c2.v.ny t.c2.l, .slice t.c3.a t.c3.v.nx t.c3.k, .slice t.c3.b t.c3.v.ny t.c3.l] 26)) := ((E3.setCell (by simp) _).setCell (by simp) _).alloc _
    have T7 : Blk (((w3.setCell ⟨w.heap.size + 1, 0, none⟩ (.int .i64 s)).setCell ⟨w.heap.size + 1, 1, none⟩ (.int .i64 p)).alloc (.cells #[.int .i64 o, .int .i64 t.per, .int .i64 t.mx, .slice t.c0.a t.c0.v.nx t.c0.k, .slice t.c0.b t.c0.v.ny t.c0.l, .slice t.c1.a t.c1.v.nx t.c1.k, .slice t.c1.b t.c1.v.ny t.c1.l, .slice t.c2.a t.c2.v.nx t.c2.k, .slice t.c2.b t.c2.v.ny t.c2.l, .slice t.c3.a t.c3.v.nx t.c3.k, .slice t.c3.b t.c3.v.ny t.c3.l] 26)) w.heap.size [.int .i64 t.most, .int .i64 t.per, .int .i64 t.mx, .slice t.c0.a t.c0.v.nx t.c0.k, .slice t.c0.b t.c0.v.ny t.c0.l, .slice t.c1.a t.c1.v.nx t.c1.k, .slice t.c1.b t.c1.v.ny t.c1.l, .slice t.c2.a t.c2.v.nx t.c2.k, .slice t.c2.b t.c2.v.ny t.c2.l, .slice t.c3.a t.c3.v.nx t.c3.k, .slice t.c3.b t.c3.v.ny t.c3.l] := ((T3.far (by omega) _).far (by omega) _).alloc _
    have O7 : Blk (((w3.setCell ⟨w.heap.size + 1, 0, none⟩ (.int .i64 s)).setCell ⟨w.heap.size + 1, 1, none⟩ (.int .i64 p)).alloc (.cells #[.int .i64 o, .int .i64 t.per, .int .i64 t.mx, .slice t.c0.a t.c0.v.nx t.c0.k, .slice t.c0.b t.c0.v.ny t.c0.l, .slice t.c1.a t.c1.v.nx t.c1.k, .slice t.c1.b t.c1.v.ny t.c1.l, .slice t.c2.a t.c2.v.nx t.c2.k, .slice t.c2.b t.c2.v.ny t.c2.l, .slice t.c3.a t.c3.v.nx t.c3.k, .slice t.c3.b t.c3.v.ny t.c3.l] 26)) w3.heap.size [.int .i64 o, .int .i64 t.per, .int .i64 t.mx, .slice t.c0.a t.c0.v.nx t.c0.k, .slice t.c0.b t.c0.v.ny t.c0.l, .slice t.c1.a t.c1.v.nx t.c1.k, .slice t.c1.b t.c1.v.ny t.c1.l, .slice t.c2.a t.c2.v.nx t.c2.k, .slice t.c2.b t.c2.v.ny t.c2.l, .slice t.c3.a t.c3.v.nx t.c3.k, .slice t.c3.b t.c3.v.ny t.c3.l] := by
      have hh := Blk.new ((w3.setCell ⟨w.heap.size + 1, 0, none⟩ (.int .i64 s)).setCell ⟨w.heap.size + 1, 1, none⟩ (.int .i64 p)) [.int .i64 o, .int .i64 t.per, .int .i64 t.mx, .slice t.c0.a t.c0.v.nx t.c0.k, .slice t.c0.b t.c0.v.ny t.c0.l, .slice t.c1.a t.c1.v.nx t.c1.k, .slice t.c1.b t.c1.v.ny t.c1.l, .slice t.c2.a t.c2.v.nx t.c2.k, .slice t.c2.b t.c2.v.ny t.c2.l, .slice t.c3.a t.c3.v.nx t.c3.k, .slice t.c3.b t.c3.v.ny t.c3.l] 26
      have e : (((w3.setCell ⟨w.heap.size + 1, 0, none⟩ (.int .i64 s)).setCell ⟨w.heap.size + 1, 1, none⟩ (.int .i64 p))).heap.size = w3.heap.size := by simp
      rw [e] at hh
      exact hh
    have I7 : Blk (((w3.setCell ⟨w.heap.size + 1, 0, none⟩ (.int .i64 s)).setCell ⟨w.heap.size + 1, 1, none⟩ (.int .i64 p)).alloc (.cells #[.int .i64 o, .int .i64 t.per, .int .i64 t.mx, .slice t.c0.a t.c0.v.nx t.c0.k, .slice t.c0.b t.c0.v.ny t.c0.l, .slice t.c1.a t.c1.v.nx t.c1.k, .slice t.c1.b t.c1.v.ny t.c1.l, .slice t.c2.a t.c2.v.nx t.c2.k, .slice t.c2.b t.c2.v.ny t.c2.l, .slice t.c3.a t.c3.v.nx t.c3.k, .slice t.c3.b t.c3.v.ny t.c3.l] 26)) (w.heap.size + 1) [.int .i64 s, .int .i64 p, .int .i64 lk] := ((I3.set 0 (.int .i64 s) (by simp)).set 1 (.int .i64 p) (by simp)).alloc _
    have X7 : Blk (((w3.setCell ⟨w.heap.size + 1, 0, none⟩ (.int .i64 s)).setCell ⟨w.heap.size + 1, 1, none⟩ (.int .i64 p)).alloc (.cells #[.int .i64 o, .int .i64 t.per, .int .i64 t.mx, .slice t.c0.a t.c0.v.nx t.c0.k, .slice t.c0.b t.c0.v.ny t.c0.l, .slice t.c1.a t.c1.v.nx t.c1.k, .slice t.c1.b t.c1.v.ny t.c1.l, .slice t.c2.a t.c2.v.nx t.c2.k, .slice t.c2.b t.c2.v.ny t.c2.l, .slice t.c3.a t.c3.v.nx t.c3.k, .slice t.c3.b t.c3.v.ny t.c3.l] 26)) (w.heap.size + 1 + 1) [.int .i64 x0, .int .i64 x1, .int .i64 x2] := ((X3.far (by omega) _).far (by omega) _).alloc _
    go_upto_region 7 with fail
    obtain ⟨W7, hW7⟩ : ∃ W7 : World, W7 = (((w3.setCell ⟨w.heap.size + 1, 0, none⟩ (.int .i64 s)).setCell ⟨w.heap.size + 1, 1, none⟩ (.int .i64 p)).alloc (.cells #[.int .i64 o, .int .i64 t.per, .int .i64 t.mx, .slice t.c0.a t.c0.v.nx t.c0.k, .slice t.c0.b t.c0.v.ny t.c0.l, .slice t.c1.a t.c1.v.nx t.c1.k, .slice t.c1.b t.c1.v.ny t.c1.l, .slice t.c2.a t.c2.v.nx t.c2.k, .slice t.c2.b t.c2.v.ny t.c2.l, .slice t.c3.a t.c3.v.nx t.c3.k, .slice t.c3.b t.c3.v.ny t.c3.l] 26)) := ⟨_, rfl⟩
    rw [← hW7] at E7 T7 O7 I7 X7
    rw [← hW7]
    clear hW7 Tc0_3 Tc1_3 Tc2_3 Tc3_3 Tc4_3 Tc5_3 Tc6_3 Tc7_3 Tc8_3 Tc9_3 Tc10_3 Ic0_3 Ic1_3 Ic2_3 Xc0_3 Xc1_3 Xc2_3
    have i0 := I7.at 0 _ rfl
    have i1 := I7.at 1 _ rfl
    have i2 := I7.at 2 _ rfl
    have iL := I7.lt
    go_cut [8, 9] (fun s8 s9 wx => ∃ a b : Nat, s8 = .pointer (some ⟨a, 0, none⟩) ∧ s9 = .pointer (some ⟨b, 0, none⟩) ∧ Ext W7 wx ∧ Blk wx a [.int .i64 s, .int .i64 p, .int .i64 lk] ∧ Blk wx b [.int .i64 s, .int .i64 p, .int .i64 lk] ∧ W7.heap.size ≤ a ∧ W7.heap.size ≤ b ∧ a ≠ b)
    case first =>
      go_region_held3 (fun w' => w'.cell? ⟨w.heap.size + 1, 0, none⟩ = some (.int .i64 s) ∧ w'.cell? ⟨w.heap.size + 1, 1, none⟩ = some (.int .i64 p) ∧ w'.cell? ⟨w.heap.size + 1, 2, none⟩ = some (.int .i64 lk)) ((refine ⟨?_, ?_, ?_⟩ <;> first | assumption | (exact cell_al _ (by assumption)) | (exact cell_al _ (cell_al _ (by assumption))) | (exact cell_st (by omega) (cell_st (by omega) (cell_st (by omega) (by assumption)))))) (fail)
      all_goals
        have HA := ((Blk.new W7 [.int .i64 s, .int .i64 p, .int .i64 lk] 28).alloc (.cells #[.int .i64 s, .int .i64 p, .int .i64 lk] 28)).drew
        have HB := (Blk.new1 W7 (.cells #[.int .i64 s, .int .i64 p, .int .i64 lk] 28) [.int .i64 s, .int .i64 p, .int .i64 lk] 28).drew
        have EE : Ext W7 ((W7.alloc (.cells #[.int .i64 s, .int .i64 p, .int .i64 lk] 28)).alloc (.cells #[.int .i64 s, .int .i64 p, .int .i64 lk] 28)).drew := (((Ext.refl W7).alloc _).alloc _).drew
        go_wp2_with fail
        go_meet
        first
        | exact ⟨W7.heap.size, W7.heap.size + 1, rfl, rfl, EE, HA, HB, by omega, by omega, by omega⟩
        | exact ⟨W7.heap.size + 1, W7.heap.size, rfl, rfl, EE, HB, HA, by omega, by omega, by omega⟩
    case rest =>
      obtain ⟨a, b, rfl, rfl, E8, A8, B8, a8, b8, ab⟩ := hcut
      have z7 := E7.size
      have T8 := T7.ext E8
      have O8 := O7.ext E8
      have I8 := I7.ext E8
      have X8 := X7.ext E8
      have tl7 := T7.lt
      have ol7 := O7.lt
      have xl7 := X7.lt
      clear i0 i1 i2
      have i0 := I8.at 0 _ rfl
      have i1 := I8.at 1 _ rfl
      have a0c := A8.at 0 _ rfl
      have af := A8.fr
      have al := A8.lt
      have EA : Ext w (wc.setCell ⟨a, 0, none⟩ (.int .i64 (-s))) := (E7.trans E8).setCell (by simp; omega) _
      have AA : Blk (wc.setCell ⟨a, 0, none⟩ (.int .i64 (-s))) a [.int .i64 (-s), .int .i64 p, .int .i64 lk] := A8.set 0 _ (by simp)
      have BA := B8.far (m := a) (o := 0) ab (.int .i64 (-s))
      have TA := T8.far (m := a) (o := 0) (by omega) (.int .i64 (-s))
      have OA := O8.far (m := a) (o := 0) (by omega) (.int .i64 (-s))
      have IA := I8.far (m := a) (o := 0) (by omega) (.int .i64 (-s))
      have XA := X8.far (m := a) (o := 0) (by omega) (.int .i64 (-s))
      go_upto_region 9 with fail
      obtain ⟨WA, hWA⟩ : ∃ WA : World, WA = wc.setCell ⟨a, 0, none⟩ (.int .i64 (-s)) := ⟨_, rfl⟩
      rw [← hWA] at EA AA BA TA OA IA XA
      rw [← hWA]
      clear hWA i0 i1 a0c af al E7 E8 T7 O7 I7 X7 T8 O8 I8 X8 A8 B8
      have i0 := IA.at 0 _ rfl
      have i1 := IA.at 1 _ rfl
      have x1c := XA.at 1 _ rfl
      have x2c := XA.at 2 _ rfl
      have b0c := BA.at 0 _ rfl
      have bf := BA.fr
      have bl := BA.lt
      go_cut [] (fun wx => Ext w wx ∧ Blk wx w.heap.size [.int .i64 t.most, .int .i64 t.per, .int .i64 t.mx, .slice t.c0.a t.c0.v.nx t.c0.k, .slice t.c0.b t.c0.v.ny t.c0.l, .slice t.c1.a t.c1.v.nx t.c1.k, .slice t.c1.b t.c1.v.ny t.c1.l, .slice t.c2.a t.c2.v.nx t.c2.k, .slice t.c2.b t.c2.v.ny t.c2.l, .slice t.c3.a t.c3.v.nx t.c3.k, .slice t.c3.b t.c3.v.ny t.c3.l] ∧ Blk wx w3.heap.size [.int .i64 o, .int .i64 t.per, .int .i64 t.mx, .slice t.c0.a t.c0.v.nx t.c0.k, .slice t.c0.b t.c0.v.ny t.c0.l, .slice t.c1.a t.c1.v.nx t.c1.k, .slice t.c1.b t.c1.v.ny t.c1.l, .slice t.c2.a t.c2.v.nx t.c2.k, .slice t.c2.b t.c2.v.ny t.c2.l, .slice t.c3.a t.c3.v.nx t.c3.k, .slice t.c3.b t.c3.v.ny t.c3.l] ∧ Blk wx (w.heap.size + 1) [.int .i64 s, .int .i64 p, .int .i64 lk] ∧ Blk wx (w.heap.size + 1 + 1) [.int .i64 x0, .int .i64 x1, .int .i64 x2] ∧ Blk wx a [.int .i64 (-s), .int .i64 p, .int .i64 lk] ∧ Blk wx b [.int .i64 (max s (-s) + y1), .int .i64 p, .int .i64 lk])
      case first =>
        go_region_held3 (fun w' => w'.cell? ⟨w.heap.size + 1, 0, none⟩ = some (.int .i64 s) ∧ w'.cell? ⟨w.heap.size + 1 + 1, 1, none⟩ = some (.int .i64 x1)) ((refine ⟨?_, ?_⟩ <;> first | assumption | exact cell_st (by omega) (by assumption)))
          (first | (go_at_call 15; refine (HA.out _).mono ?_; rintro e w9 ⟨rfl, rfl⟩) | (go_at_call 22; refine (clip_any x1 0 1099511627776 _).mono ?_; rw [← HY.out]; rintro e w9 ⟨rfl, rfl⟩))
        all_goals
          go_wp2_with fail
          go_meet
          exact ⟨(EA.setCell (by simp; omega) _).drew, (TA.far (by omega) _).drew, (OA.far (by omega) _).drew, (IA.far (by omega) _).drew, (XA.far (by omega) _).drew, (AA.far (fun h => ab h.symm) _).drew, (BA.set 0 _ (by simp)).drew⟩
      case rest =>
        obtain ⟨E9, T9, O9, I9, X9, A9, B9⟩ := hcut
        clear i0 i1 x1c x2c b0c bf bl EA TA OA IA XA AA BA
        have i1 := I9.at 1 _ rfl
        have x2c := X9.at 2 _ rfl
        have b1c := B9.at 1 _ rfl
        have bf := B9.fr
        have bl := B9.lt
        go_upto_region 10 with fail
        go_cut [] (fun wx => Ext w wx ∧ Blk wx w.heap.size [.int .i64 t.most, .int .i64 t.per, .int .i64 t.mx, .slice t.c0.a t.c0.v.nx t.c0.k, .slice t.c0.b t.c0.v.ny t.c0.l, .slice t.c1.a t.c1.v.nx t.c1.k, .slice t.c1.b t.c1.v.ny t.c1.l, .slice t.c2.a t.c2.v.nx t.c2.k, .slice t.c2.b t.c2.v.ny t.c2.l, .slice t.c3.a t.c3.v.nx t.c3.k, .slice t.c3.b t.c3.v.ny t.c3.l] ∧ Blk wx w3.heap.size [.int .i64 o, .int .i64 t.per, .int .i64 t.mx, .slice t.c0.a t.c0.v.nx t.c0.k, .slice t.c0.b t.c0.v.ny t.c0.l, .slice t.c1.a t.c1.v.nx t.c1.k, .slice t.c1.b t.c1.v.ny t.c1.l, .slice t.c2.a t.c2.v.nx t.c2.k, .slice t.c2.b t.c2.v.ny t.c2.l, .slice t.c3.a t.c3.v.nx t.c3.k, .slice t.c3.b t.c3.v.ny t.c3.l] ∧ Blk wx (w.heap.size + 1) [.int .i64 s, .int .i64 p, .int .i64 lk] ∧ Blk wx a [.int .i64 (-s), .int .i64 p, .int .i64 lk] ∧ Blk wx b [.int .i64 (max s (-s) + y1), .int .i64 (p + y2), .int .i64 lk])
        case first =>
          go_region_held3 (fun w' => w'.cell? ⟨w.heap.size + 1, 1, none⟩ = some (.int .i64 p) ∧ w'.cell? ⟨w.heap.size + 1 + 1, 2, none⟩ = some (.int .i64 x2)) ((refine ⟨?_, ?_⟩ <;> first | assumption | exact cell_st (by omega) (by assumption)))
            (first | (go_at_call 22; refine (clip_any x2 0 1099511627776 _).mono ?_; rw [← HZ.out]; rintro e w9 ⟨rfl, rfl⟩))
          all_goals
            go_wp2_with fail
            go_meet
            exact ⟨(E9.setCell (by simp; omega) _).drew, (T9.far (by omega) _).drew, (O9.far (by omega) _).drew, (I9.far (by omega) _).drew, (A9.far (fun h => ab h.symm) _).drew, (B9.set 1 _ (by simp)).drew⟩
        case rest =>
          obtain ⟨F0, T0, O0, I0, A0, B0⟩ := hcut
          clear i1 x2c b1c bf bl E9 T9 O9 I9 X9 A9 B9
          have tk0 := T0.at 0 _ rfl
          have tk1 := T0.at 1 _ rfl
          have tk2 := T0.at 2 _ rfl
          have tk3 := T0.at 3 _ rfl
          have tk4 := T0.at 4 _ rfl
          have tk5 := T0.at 5 _ rfl
          have tk6 := T0.at 6 _ rfl
          have tk7 := T0.at 7 _ rfl
          have tk8 := T0.at 8 _ rfl
          have tk9 := T0.at 9 _ rfl
          have tk10 := T0.at 10 _ rfl
          have tkn := T0.lt
          have ok0 := O0.at 0 _ rfl
          have ok1 := O0.at 1 _ rfl
          have ok2 := O0.at 2 _ rfl
          have ok3 := O0.at 3 _ rfl
          have ok4 := O0.at 4 _ rfl
          have ok5 := O0.at 5 _ rfl
          have ok6 := O0.at 6 _ rfl
          have ok7 := O0.at 7 _ rfl
          have ok8 := O0.at 8 _ rfl
          have ok9 := O0.at 9 _ rfl
          have ok10 := O0.at 10 _ rfl
          have okn := O0.lt
          have ik0 := I0.at 0 _ rfl
          have ik1 := I0.at 1 _ rfl
          have ik2 := I0.at 2 _ rfl
          have ikn := I0.lt
          have ak0 := A0.at 0 _ rfl
          have ak1 := A0.at 1 _ rfl
          have ak2 := A0.at 2 _ rfl
          have akn := A0.lt
          have bk0 := B0.at 0 _ rfl
          have bk1 := B0.at 1 _ rfl
          have bk2 := B0.at 2 _ rfl
          have bkn := B0.lt
          go_wp2_with fail
          refine (R1.out _ F0).mono ?_
          rintro e v1 ⟨rfl, hx1⟩
          have F1 := F0.trans hx1
          have T1 := T0.ext hx1
          have O1 := O0.ext hx1
          have I1 := I0.ext hx1
          have A1 := A0.ext hx1
          have B1 := B0.ext hx1
          clear tk0 tk1 tk2 tk3 tk4 tk5 tk6 tk7 tk8 tk9 tk10 tkn ok0 ok1 ok2 ok3 ok4 ok5 ok6 ok7 ok8 ok9 ok10 okn ik0 ik1 ik2 ikn ak0 ak1 ak2 akn bk0 bk1 bk2 bkn
          have tk0 := T1.at 0 _ rfl
          have tk1 := T1.at 1 _ rfl
          have tk2 := T1.at 2 _ rfl
          have tk3 := T1.at 3 _ rfl
          have tk4 := T1.at 4 _ rfl
          have tk5 := T1.at 5 _ rfl
          have tk6 := T1.at 6 _ rfl
          have tk7 := T1.at 7 _ rfl
          have tk8 := T1.at 8 _ rfl
          have tk9 := T1.at 9 _ rfl
          have tk10 := T1.at 10 _ rfl
          have tkn := T1.lt
          have ok0 := O1.at 0 _ rfl
          have ok1 := O1.at 1 _ rfl
          have ok2 := O1.at 2 _ rfl
          have ok3 := O1.at 3 _ rfl
          have ok4 := O1.at 4 _ rfl
          have ok5 := O1.at 5 _ rfl
          have ok6 := O1.at 6 _ rfl
          have ok7 := O1.at 7 _ rfl
          have ok8 := O1.at 8 _ rfl
          have ok9 := O1.at 9 _ rfl
          have ok10 := O1.at 10 _ rfl
          have okn := O1.lt
          have ik0 := I1.at 0 _ rfl
          have ik1 := I1.at 1 _ rfl
          have ik2 := I1.at 2 _ rfl
          have ikn := I1.lt
          have ak0 := A1.at 0 _ rfl
          have ak1 := A1.at 1 _ rfl
          have ak2 := A1.at 2 _ rfl
          have akn := A1.lt
          have bk0 := B1.at 0 _ rfl
          have bk1 := B1.at 1 _ rfl
          have bk2 := B1.at 2 _ rfl
          have bkn := B1.lt
          go_wp2_with fail
          refine (R2.out _ F1).mono ?_
          rintro e v2 ⟨rfl, hx2⟩
          have F2 := F1.trans hx2
          have T2 := T1.ext hx2
          have O2 := O1.ext hx2
          have I2 := I1.ext hx2
          have A2 := A1.ext hx2
          have B2 := B1.ext hx2
          clear tk0 tk1 tk2 tk3 tk4 tk5 tk6 tk7 tk8 tk9 tk10 tkn ok0 ok1 ok2 ok3 ok4 ok5 ok6 ok7 ok8 ok9 ok10 okn ik0 ik1 ik2 ikn ak0 ak1 ak2 akn bk0 bk1 bk2 bkn
          have tk0 := T2.at 0 _ rfl
          have tk1 := T2.at 1 _ rfl
          have tk2 := T2.at 2 _ rfl
          have tk3 := T2.at 3 _ rfl
          have tk4 := T2.at 4 _ rfl
          have tk5 := T2.at 5 _ rfl
          have tk6 := T2.at 6 _ rfl
          have tk7 := T2.at 7 _ rfl
          have tk8 := T2.at 8 _ rfl
          have tk9 := T2.at 9 _ rfl
          have tk10 := T2.at 10 _ rfl
          have tkn := T2.lt
          have ok0 := O2.at 0 _ rfl
          have ok1 := O2.at 1 _ rfl
          have ok2 := O2.at 2 _ rfl
          have ok3 := O2.at 3 _ rfl
          have ok4 := O2.at 4 _ rfl
          have ok5 := O2.at 5 _ rfl
          have ok6 := O2.at 6 _ rfl
          have ok7 := O2.at 7 _ rfl
          have ok8 := O2.at 8 _ rfl
          have ok9 := O2.at 9 _ rfl
          have ok10 := O2.at 10 _ rfl
          have okn := O2.lt
          have ik0 := I2.at 0 _ rfl
          have ik1 := I2.at 1 _ rfl
          have ik2 := I2.at 2 _ rfl
          have ikn := I2.lt
          have ak0 := A2.at 0 _ rfl
          have ak1 := A2.at 1 _ rfl
          have ak2 := A2.at 2 _ rfl
          have akn := A2.lt
          have bk0 := B2.at 0 _ rfl
          have bk1 := B2.at 1 _ rfl
          have bk2 := B2.at 2 _ rfl
          have bkn := B2.lt
          go_wp2_with fail
          refine (R3.out _ F2).mono ?_
          rintro e v3 ⟨rfl, hx3⟩
          have F3 := F2.trans hx3
          have T3 := T2.ext hx3
          have O3 := O2.ext hx3
          have I3 := I2.ext hx3
          have A3 := A2.ext hx3
          have B3 := B2.ext hx3
          clear tk0 tk1 tk2 tk3 tk4 tk5 tk6 tk7 tk8 tk9 tk10 tkn ok0 ok1 ok2 ok3 ok4 ok5 ok6 ok7 ok8 ok9 ok10 okn ik0 ik1 ik2 ikn ak0 ak1 ak2 akn bk0 bk1 bk2 bkn
          have tk0 := T3.at 0 _ rfl
          have tk1 := T3.at 1 _ rfl
          have tk2 := T3.at 2 _ rfl
          have tk3 := T3.at 3 _ rfl
          have tk4 := T3.at 4 _ rfl
          have tk5 := T3.at 5 _ rfl
          have tk6 := T3.at 6 _ rfl
          have tk7 := T3.at 7 _ rfl
          have tk8 := T3.at 8 _ rfl
          have tk9 := T3.at 9 _ rfl
          have tk10 := T3.at 10 _ rfl
          have tkn := T3.lt
          have ok0 := O3.at 0 _ rfl
          have ok1 := O3.at 1 _ rfl
          have ok2 := O3.at 2 _ rfl
          have ok3 := O3.at 3 _ rfl
          have ok4 := O3.at 4 _ rfl
          have ok5 := O3.at 5 _ rfl
          have ok6 := O3.at 6 _ rfl
          have ok7 := O3.at 7 _ rfl
          have ok8 := O3.at 8 _ rfl
          have ok9 := O3.at 9 _ rfl
          have ok10 := O3.at 10 _ rfl
          have okn := O3.lt
          have ik0 := I3.at 0 _ rfl
          have ik1 := I3.at 1 _ rfl
          have ik2 := I3.at 2 _ rfl
          have ikn := I3.lt
          have ak0 := A3.at 0 _ rfl
          have ak1 := A3.at 1 _ rfl
          have ak2 := A3.at 2 _ rfl
          have akn := A3.lt
          have bk0 := B3.at 0 _ rfl
          have bk1 := B3.at 1 _ rfl
          have bk2 := B3.at 2 _ rfl
          have bkn := B3.lt
          go_wp2_with fail
          refine (R4.out _ F3).mono ?_
          rintro e v4 ⟨rfl, hx4⟩
          have F4 := F3.trans hx4
          have T4 := T3.ext hx4
          have O4 := O3.ext hx4
          have I4 := I3.ext hx4
          have A4 := A3.ext hx4
          have B4 := B3.ext hx4
          clear tk0 tk1 tk2 tk3 tk4 tk5 tk6 tk7 tk8 tk9 tk10 tkn ok0 ok1 ok2 ok3 ok4 ok5 ok6 ok7 ok8 ok9 ok10 okn ik0 ik1 ik2 ikn ak0 ak1 ak2 akn bk0 bk1 bk2 bkn
          have tk0 := T4.at 0 _ rfl
          have tk1 := T4.at 1 _ rfl
          have tk2 := T4.at 2 _ rfl
          have tk3 := T4.at 3 _ rfl
          have tk4 := T4.at 4 _ rfl
          have tk5 := T4.at 5 _ rfl
          have tk6 := T4.at 6 _ rfl
          have tk7 := T4.at 7 _ rfl
          have tk8 := T4.at 8 _ rfl
          have tk9 := T4.at 9 _ rfl
          have tk10 := T4.at 10 _ rfl
          have tkn := T4.lt
          have ok0 := O4.at 0 _ rfl
          have ok1 := O4.at 1 _ rfl
          have ok2 := O4.at 2 _ rfl
          have ok3 := O4.at 3 _ rfl
          have ok4 := O4.at 4 _ rfl
          have ok5 := O4.at 5 _ rfl
          have ok6 := O4.at 6 _ rfl
          have ok7 := O4.at 7 _ rfl
          have ok8 := O4.at 8 _ rfl
          have ok9 := O4.at 9 _ rfl
          have ok10 := O4.at 10 _ rfl
          have okn := O4.lt
          have ik0 := I4.at 0 _ rfl
          have ik1 := I4.at 1 _ rfl
          have ik2 := I4.at 2 _ rfl
          have ikn := I4.lt
          have ak0 := A4.at 0 _ rfl
          have ak1 := A4.at 1 _ rfl
          have ak2 := A4.at 2 _ rfl
          have akn := A4.lt
          have bk0 := B4.at 0 _ rfl
          have bk1 := B4.at 1 _ rfl
          have bk2 := B4.at 2 _ rfl
          have bkn := B4.lt
          go_wp2_with fail
          go_ret
          exact ⟨(by first | rfl | exact ret_true (by simp <;> omega)), (by repeat (first | with_reducible exact Ext.refl _ | with_reducible assumption | (with_reducible refine Ext.drew ?_) | (with_reducible refine Ext.drewN ?_ _) | (with_reducible refine Ext.alloc ?_ _) | (with_reducible refine Ext.setCell ?_ ?_ _) | (with_reducible refine Ext.trans ?_ (by with_reducible assumption)) | omega | (focus (simp <;> omega))))⟩

theorem walk (t : Tc) (sp tp lk : Int) (b1 : I64 sp) (b2 : I64 tp) (b3 : I64 lk) (x0 x1 x2 : Int) (b4 : I64 x0) (b5 : I64 x1) (b6 : I64 x2) (w : World) (hw : TcAt w t) :
    Calls Try.prog 8 #[.agg #[.int .i64 t.most, .int .i64 t.per, .int .i64 t.mx, .slice t.c0.a t.c0.v.nx t.c0.k, .slice t.c0.b t.c0.v.ny t.c0.l, .slice t.c1.a t.c1.v.nx t.c1.k, .slice t.c1.b t.c1.v.ny t.c1.l, .slice t.c2.a t.c2.v.nx t.c2.k, .slice t.c2.b t.c2.v.ny t.c2.l, .slice t.c3.a t.c3.v.nx t.c3.k, .slice t.c3.b t.c3.v.ny t.c3.l], .agg #[.int .i64 sp, .int .i64 tp, .int .i64 lk], .agg #[.int .i64 x0, .int .i64 x1, .int .i64 x2]] w fun e w' => e = .returned (.bool true) ∧ Ext w w' := by
  by_cases hk : tck t = 0
  · exact walk_ok t sp tp lk b1 b2 b3 x0 x1 x2 b4 b5 b6 w hk hw
  · exact walk_bad t sp tp lk b1 b2 b3 x0 x1 x2 b4 b5 b6 w hk hw

theorem own : ownKnob Try.prog.godebug = none := by kernel_rfl
theorem laidOut : laidOutB Try.prog = true := by kernel_rfl

/-- The row's step: the walk's end is what the row asks. -/
theorem lifted (os : Os) (started : os.Started) (H : Type) (enc : TypeId × Value → H) :
    ReturnsInHanded {} Try.checked os 8 .any (Rows.torqueLessSpec.pre6 enc Try.prog Try.f8 Rows.torqueLessRow.domain false) (Rows.torqueLessSpec.post enc Try.prog Try.f8 false true false false) := by
  refine returnsInHanded_of_change (C := Try.checked) own started (by kernel_rfl) Try.func8
    (ChangeSpec.witness6 (enc := enc) (C := Try.checked) false ⟨#[], #[.agg #[.int .i64 0, .int .i64 0, .int .i64 0, .slice none 0 0, .slice none 0 0, .slice none 0 0, .slice none 0 0, .slice none 0 0, .slice none 0 0, .slice none 0 0, .slice none 0 0], .agg #[.int .i64 0, .int .i64 0, .int .i64 0], .agg #[.int .i64 0, .int .i64 0, .int .i64 0]], []⟩ 8 (by kernel_rfl) (by kernel_rfl) (by kernel_rfl) (by kernel_rfl)) ?_
  intro W base args ds gs before hval0 hW hcnd _
  have hval : ∀ (j : Nat) t v, Try.f8.params[j]? = some t → args[j]? = some v → Value.okWide Try.prog W .any base t v := hval0
  have hW' := hW
  obtain ⟨p, q, hA0, hV, rfl, hfz, hnd⟩ := hW
  have hA : DataW.TrodAll enc Try.prog W 0 (fun _ => true) true Try.f8.params.toList args.toList ds p := hA0
  rw [Try.params8] at hA hval
  obtain ⟨v0, vs0, d0, ds0, p0, q0, hargs, rfl, rfl, h0, r0⟩ := trodAll_cons hA
  obtain ⟨v1, vs1, d1, ds1, p1, q1, rfl, rfl, rfl, h1, r1⟩ := trodAll_cons r0
  obtain ⟨v2, vs2, d2, ds2, p2, q2, rfl, rfl, rfl, h2, r2⟩ := trodAll_cons r1
  obtain ⟨rfl, rfl, rfl⟩ := trodAll_nil r2
  obtain rfl : args = #[v0, v1, v2] := by cases args; simp_all
  obtain ⟨rfl, rfl⟩ := trodVars_none hV
  have lt0 : ∀ x ∈ p0, x.block < W.heap.size := by obtain ⟨m, hm⟩ := h0; exact DataW.trod_lt m _ _ _ hm
  obtain ⟨u0, rfl, hu0⟩ := open_tc (hval 0 26 v0 rfl rfl) h0
  have lt1 : ∀ x ∈ p1, x.block < W.heap.size := by obtain ⟨m, hm⟩ := h1; exact DataW.trod_lt m _ _ _ hm
  obtain ⟨a1x, a1y, a1z, rfl, ba1x, ba1y, ba1z⟩ := open_str3 (u := 3) Try.underlying28 (by kernel_rfl) (by kernel_rfl) (by kernel_rfl) (hval 1 28 v1 rfl rfl)
  have lt2 : ∀ x ∈ p2, x.block < W.heap.size := by obtain ⟨m, hm⟩ := h2; exact DataW.trod_lt m _ _ _ hm
  obtain ⟨a2x, a2y, a2z, rfl, ba2x, ba2y, ba2z⟩ := open_arr3 (u := 3) Try.underlying55 (by kernel_rfl) (by kernel_rfl) (by kernel_rfl) (hval 2 55 v2 rfl rfl)
  clear hA0 hval0
  refine (walk u0 a1x a1y a1z ba1x ba1y ba1z a2x a2y a2z ba2x ba2y ba2z W hu0).mono fun e W' ⟨he, bel0⟩ => ?_
  subst he
  have bel : Below W.heap.size W W' := bel0
  exact ⟨_, rfl, _, _, _, [], _, [], hW', trodAll_mk1 (shut_bool Try.underlying4 _), (trodAll_cons_mk (Below.trod laidOut (by kernel_rfl) (of_decide_eq_true (by kernel_rfl)) h0 bel lt0) (trodAll_cons_mk (Below.trod laidOut (by kernel_rfl) (of_decide_eq_true (by kernel_rfl)) h1 bel lt1) (trodAll_cons_mk (Below.trod laidOut (by kernel_rfl) (of_decide_eq_true (by kernel_rfl)) h2 bel lt2) trodAll_mk0))), rfl, bel.frame _, fun h => by cases h⟩

theorem over : Rows.torqueLessRow.holds Try.pinned (OpenSpec.ofChange Rows.torqueLessSpec) :=
  OpenClaim.holds_of_wide 8 Try.f8 rfl rfl rfl rfl rfl rfl rfl ⟨rfl, rfl, rfl, rfl, rfl⟩ rfl rfl rfl rfl rfl (by kernel_rfl) Try.func8 (by kernel_rfl)
    (of_decide_eq_true (by kernel_rfl)) (by unfold Func.isWrapper; first | (rw [if_pos (by decide +kernel)]; kernel_rfl) | (rw [if_neg (by decide +kernel)]; exact ⟨rfl, rfl⟩))
    (fun os started H enc _ => lifted os started H enc)

/-- The statement. -/
theorem proved : Rows.TorqueLessSaid := over
#print axioms proved
end Go.Proofs.Ytphfgljfjfpomaa.torqueLess
