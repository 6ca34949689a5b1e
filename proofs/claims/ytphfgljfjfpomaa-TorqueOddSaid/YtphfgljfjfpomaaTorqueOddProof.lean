/- TorqueOdd: the opposite torque has the opposite q current and the same d current; a torque beyond the limit has the currents of the limit.
   Conditions: none: every input. -/
import Derived.Test.YtphfgljfjfpomaaAwakeTorque
import Derived.Test.YtphfgljfjfpomaaTorqueOpen
import Derived.Deep.RegionHeld3
namespace Go.Proofs.Ytphfgljfjfpomaa.torqueOdd
open Go.ChangeShapes Go.WideShapes Go.ChangeAt Go.RowKit
set_option linter.unusedVariables false

theorem cell_al {W : World} {a : Addr} {u : Value} (o : Obj) (h : W.cell? a = some u) : (W.alloc o).cell? a = some u := by
  rw [World.cell?_alloc_some _ _ _ (by rw [h]; rfl)]; exact h
theorem cell_st {W : World} {n m o o' : Nat} {u v : Value} (hne : n ≠ m) (h : W.cell? ⟨m, o', none⟩ = some u) : (W.setCell ⟨n, o, none⟩ v).cell? ⟨m, o', none⟩ = some u := by
  rw [World.cell?_setCell_far _ _ _ _ hne]; exact h
theorem clip_neg (x m : Int) (h : 0 ≤ m) : clip (-x) (-m) m = -clip x (-m) m := by unfold clip; omega
theorem txx_neg (t : Tc) (ok : TOk t) (tq l : Int) (hl : 0 ≤ l) : txx t (-tq) l = -txx t tq l := by
  have ⟨_, _, ⟨mx0, mx1⟩⟩ := ok.rg
  unfold txx
  rw [clip_neg tq l hl, Int.neg_mul, Int.neg_tdiv, clip_neg _ _ mx0]
theorem tag_neg (t : Tc) (x sp lk : Int) : tag t (-x) sp lk = tag t x sp lk := by
  have e : max (-x) (-(-x)) = max x (-x) := by omega
  unfold tag; rw [e]
theorem odd_refs (t : Tc) (ok : TOk t) (tq sp tp lk : Int) : rfd t (-tq) sp tp lk = rfd t tq sp tp lk ∧ rfq t (-tq) sp tp lk = -rfq t tq sp tp lk := by
  have l0 := (lim_bd t ok.rg sp tp).1
  have hx := txx_neg t ok tq (lim t sp tp) l0
  have hd : rfd t (-tq) sp tp lk = rfd t tq sp tp lk := by unfold rfd; rw [hx, tag_neg]
  have r0 := (ref_facts t ok tq sp tp lk).2.2.2.2.1.1
  refine ⟨hd, ?_⟩
  unfold rfq
  rw [hd, hx, clip_neg _ _ r0]
theorem over_refs (t : Tc) (ok : TOk t) (a sp tp lk : Int) (ha : 0 ≤ a) : rfd t (lim t sp tp + a) sp tp lk = rfd t (lim t sp tp) sp tp lk ∧ rfq t (lim t sp tp + a) sp tp lk = rfq t (lim t sp tp) sp tp lk := by
  have l0 := (lim_bd t ok.rg sp tp).1
  have hc : clip (lim t sp tp + a) (-(lim t sp tp)) (lim t sp tp) = clip (lim t sp tp) (-(lim t sp tp)) (lim t sp tp) := by unfold clip; omega
  have hx : txx t (lim t sp tp + a) (lim t sp tp) = txx t (lim t sp tp) (lim t sp tp) := by unfold txx; rw [hc]
  have hd : rfd t (lim t sp tp + a) sp tp lk = rfd t (lim t sp tp) sp tp lk := by unfold rfd; rw [hx]
  refine ⟨hd, ?_⟩
  unfold rfq
  rw [hd, hx]

set_option maxRecDepth 100000 in
set_option maxHeartbeats 16000000 in
theorem walk_bad (t : Tc) (sp tp lk : Int) (b1 : I64 sp) (b2 : I64 tp) (b3 : I64 lk) (tq : Int) (b4 : I64 tq) (w : World) (hk : tck t ≠ 0) (hw : TcAt w t) :
    Calls Try.prog 7 #[.agg #[.int .i64 t.most, .int .i64 t.per, .int .i64 t.mx, .slice t.c0.a t.c0.v.nx t.c0.k, .slice t.c0.b t.c0.v.ny t.c0.l, .slice t.c1.a t.c1.v.nx t.c1.k, .slice t.c1.b t.c1.v.ny t.c1.l, .slice t.c2.a t.c2.v.nx t.c2.k, .slice t.c2.b t.c2.v.ny t.c2.l, .slice t.c3.a t.c3.v.nx t.c3.k, .slice t.c3.b t.c3.v.ny t.c3.l], .agg #[.int .i64 sp, .int .i64 tp, .int .i64 lk], .int .i64 tq] w fun e w' => e = .returned (.bool true) ∧ Ext w w' := by
  obtain ⟨r, hr⟩ : ∃ r, r = tck t := ⟨_, rfl⟩
  have nz : (r != 0) = true := by rw [hr]; simpa using hk
  have RR := Lib.hid hr
  have HW := Lib.hid hw
  clear hk hw hr
  have E0 : Ext w ((w.alloc (.cells #[.int .i64 t.most, .int .i64 t.per, .int .i64 t.mx, .slice t.c0.a t.c0.v.nx t.c0.k, .slice t.c0.b t.c0.v.ny t.c0.l, .slice t.c1.a t.c1.v.nx t.c1.k, .slice t.c1.b t.c1.v.ny t.c1.l, .slice t.c2.a t.c2.v.nx t.c2.k, .slice t.c2.b t.c2.v.ny t.c2.l, .slice t.c3.a t.c3.v.nx t.c3.k, .slice t.c3.b t.c3.v.ny t.c3.l] 26)).alloc (.cells #[.int .i64 sp, .int .i64 tp, .int .i64 lk] 28)) := ((Ext.refl w).alloc _).alloc _
  have T0 : Blk ((w.alloc (.cells #[.int .i64 t.most, .int .i64 t.per, .int .i64 t.mx, .slice t.c0.a t.c0.v.nx t.c0.k, .slice t.c0.b t.c0.v.ny t.c0.l, .slice t.c1.a t.c1.v.nx t.c1.k, .slice t.c1.b t.c1.v.ny t.c1.l, .slice t.c2.a t.c2.v.nx t.c2.k, .slice t.c2.b t.c2.v.ny t.c2.l, .slice t.c3.a t.c3.v.nx t.c3.k, .slice t.c3.b t.c3.v.ny t.c3.l] 26)).alloc (.cells #[.int .i64 sp, .int .i64 tp, .int .i64 lk] 28)) (w.heap.size) [.int .i64 t.most, .int .i64 t.per, .int .i64 t.mx, .slice t.c0.a t.c0.v.nx t.c0.k, .slice t.c0.b t.c0.v.ny t.c0.l, .slice t.c1.a t.c1.v.nx t.c1.k, .slice t.c1.b t.c1.v.ny t.c1.l, .slice t.c2.a t.c2.v.nx t.c2.k, .slice t.c2.b t.c2.v.ny t.c2.l, .slice t.c3.a t.c3.v.nx t.c3.k, .slice t.c3.b t.c3.v.ny t.c3.l] := by
    have hh := Blk.new w [.int .i64 t.most, .int .i64 t.per, .int .i64 t.mx, .slice t.c0.a t.c0.v.nx t.c0.k, .slice t.c0.b t.c0.v.ny t.c0.l, .slice t.c1.a t.c1.v.nx t.c1.k, .slice t.c1.b t.c1.v.ny t.c1.l, .slice t.c2.a t.c2.v.nx t.c2.k, .slice t.c2.b t.c2.v.ny t.c2.l, .slice t.c3.a t.c3.v.nx t.c3.k, .slice t.c3.b t.c3.v.ny t.c3.l] 26
    have e : (w).heap.size = w.heap.size := by simp
    rw [e] at hh
    exact hh.alloc _
  have HT := Lib.hid T0
  have I0 : Blk ((w.alloc (.cells #[.int .i64 t.most, .int .i64 t.per, .int .i64 t.mx, .slice t.c0.a t.c0.v.nx t.c0.k, .slice t.c0.b t.c0.v.ny t.c0.l, .slice t.c1.a t.c1.v.nx t.c1.k, .slice t.c1.b t.c1.v.ny t.c1.l, .slice t.c2.a t.c2.v.nx t.c2.k, .slice t.c2.b t.c2.v.ny t.c2.l, .slice t.c3.a t.c3.v.nx t.c3.k, .slice t.c3.b t.c3.v.ny t.c3.l] 26)).alloc (.cells #[.int .i64 sp, .int .i64 tp, .int .i64 lk] 28)) (w.heap.size + 1) [.int .i64 sp, .int .i64 tp, .int .i64 lk] := by
    have hh := Blk.new (w.alloc (.cells #[.int .i64 t.most, .int .i64 t.per, .int .i64 t.mx, .slice t.c0.a t.c0.v.nx t.c0.k, .slice t.c0.b t.c0.v.ny t.c0.l, .slice t.c1.a t.c1.v.nx t.c1.k, .slice t.c1.b t.c1.v.ny t.c1.l, .slice t.c2.a t.c2.v.nx t.c2.k, .slice t.c2.b t.c2.v.ny t.c2.l, .slice t.c3.a t.c3.v.nx t.c3.k, .slice t.c3.b t.c3.v.ny t.c3.l] 26)) [.int .i64 sp, .int .i64 tp, .int .i64 lk] 28
    have e : ((w.alloc (.cells #[.int .i64 t.most, .int .i64 t.per, .int .i64 t.mx, .slice t.c0.a t.c0.v.nx t.c0.k, .slice t.c0.b t.c0.v.ny t.c0.l, .slice t.c1.a t.c1.v.nx t.c1.k, .slice t.c1.b t.c1.v.ny t.c1.l, .slice t.c2.a t.c2.v.nx t.c2.k, .slice t.c2.b t.c2.v.ny t.c2.l, .slice t.c3.a t.c3.v.nx t.c3.k, .slice t.c3.b t.c3.v.ny t.c3.l] 26))).heap.size = w.heap.size + 1 := by simp
    rw [e] at hh
    exact hh
  have HI := Lib.hid I0
  have HE := Lib.hid E0
  clear E0 T0 I0
  go_enter Try.func7, Try.ntmps7
  go_wp2_with fail
  refine (few_any t _).mono ?_
  rintro e w1 ⟨bb, rfl, hx1⟩
  have E1 := HE.out.trans hx1
  have T1 := HT.out.ext hx1
  have I1 := HI.out.ext hx1
  have Tc0_1 := T1.at 0 _ rfl
  have Tc1_1 := T1.at 1 _ rfl
  have Tc2_1 := T1.at 2 _ rfl
  have Tc3_1 := T1.at 3 _ rfl
  have Tc4_1 := T1.at 4 _ rfl
  have Tc5_1 := T1.at 5 _ rfl
  have Tc6_1 := T1.at 6 _ rfl
  have Tc7_1 := T1.at 7 _ rfl
  have Tc8_1 := T1.at 8 _ rfl
  have Tc9_1 := T1.at 9 _ rfl
  have Tc10_1 := T1.at 10 _ rfl
  have Tn_1 := T1.lt
  have Ic0_1 := I1.at 0 _ rfl
  have Ic1_1 := I1.at 1 _ rfl
  have Ic2_1 := I1.at 2 _ rfl
  have In_1 := I1.lt
  cases bb
  · skip
    go_wp2_with fail
    refine (awake36 _).mono ?_
    rintro e wz ⟨rfl, hxz⟩
    go_wp2_with fail
    go_ret
    exact ⟨(by first | rfl | exact ret_true (by simp <;> omega)), (by repeat (first | with_reducible exact Ext.refl _ | with_reducible assumption | (with_reducible refine Ext.drew ?_) | (with_reducible refine Ext.drewN ?_ _) | (with_reducible refine Ext.alloc ?_ _) | (with_reducible refine Ext.setCell ?_ ?_ _) | (with_reducible refine Ext.trans ?_ (by with_reducible assumption)) | omega | (focus (simp <;> omega))))⟩
  · skip
    go_wp2_with fail
    refine (check36 t _ (HW.out.ext E1)).mono ?_
    rw [← RR.out]
    rintro e w2 ⟨rfl, hx2⟩
    have F2 : Ext w1 w2 := (by repeat (first | with_reducible exact Ext.refl _ | with_reducible assumption | (with_reducible refine Ext.drew ?_) | (with_reducible refine Ext.drewN ?_ _) | (with_reducible refine Ext.alloc ?_ _) | (with_reducible refine Ext.setCell ?_ ?_ _) | (with_reducible refine Ext.trans ?_ (by with_reducible assumption)) | omega | (focus (simp <;> omega))))
    have E2 := E1.trans F2
    have T2 := T1.ext F2
    have I2 := I1.ext F2
    clear Tc0_1 Tc1_1 Tc2_1 Tc3_1 Tc4_1 Tc5_1 Tc6_1 Tc7_1 Tc8_1 Tc9_1 Tc10_1 Ic0_1 Ic1_1 Ic2_1
    have Tc0_2 := T2.at 0 _ rfl
    have Tc1_2 := T2.at 1 _ rfl
    have Tc2_2 := T2.at 2 _ rfl
    have Tc3_2 := T2.at 3 _ rfl
    have Tc4_2 := T2.at 4 _ rfl
    have Tc5_2 := T2.at 5 _ rfl
    have Tc6_2 := T2.at 6 _ rfl
    have Tc7_2 := T2.at 7 _ rfl
    have Tc8_2 := T2.at 8 _ rfl
    have Tc9_2 := T2.at 9 _ rfl
    have Tc10_2 := T2.at 10 _ rfl
    have Tn_2 := T2.lt
    have Ic0_2 := I2.at 0 _ rfl
    have Ic1_2 := I2.at 1 _ rfl
    have Ic2_2 := I2.at 2 _ rfl
    have In_2 := I2.lt
    go_wp2_with fail
    refine (awake36 _).mono ?_
    rintro e wz ⟨rfl, hxz⟩
    go_wp2_with fail
    go_ret
    exact ⟨(by first | rfl | exact ret_true (by simp <;> omega)), (by repeat (first | with_reducible exact Ext.refl _ | with_reducible assumption | (with_reducible refine Ext.drew ?_) | (with_reducible refine Ext.drewN ?_ _) | (with_reducible refine Ext.alloc ?_ _) | (with_reducible refine Ext.setCell ?_ ?_ _) | (with_reducible refine Ext.trans ?_ (by with_reducible assumption)) | omega | (focus (simp <;> omega))))⟩

set_option maxRecDepth 100000 in
set_option maxHeartbeats 16000000 in
theorem walk_ok (t : Tc) (sp tp lk : Int) (b1 : I64 sp) (b2 : I64 tp) (b3 : I64 lk) (tq : Int) (b4 : I64 tq) (w : World) (hk : tck t = 0) (hw : TcAt w t) :
    Calls Try.prog 7 #[.agg #[.int .i64 t.most, .int .i64 t.per, .int .i64 t.mx, .slice t.c0.a t.c0.v.nx t.c0.k, .slice t.c0.b t.c0.v.ny t.c0.l, .slice t.c1.a t.c1.v.nx t.c1.k, .slice t.c1.b t.c1.v.ny t.c1.l, .slice t.c2.a t.c2.v.nx t.c2.k, .slice t.c2.b t.c2.v.ny t.c2.l, .slice t.c3.a t.c3.v.nx t.c3.k, .slice t.c3.b t.c3.v.ny t.c3.l], .agg #[.int .i64 sp, .int .i64 tp, .int .i64 lk], .int .i64 tq] w fun e w' => e = .returned (.bool true) ∧ Ext w w' := by
  have ok := tok_of hk
  have OK := Lib.hid ok
  have TK := Lib.hid hk
  have HW := Lib.hid hw
  have ⟨⟨mo0, mo1⟩, ⟨pe0, pe1⟩, ⟨mx0, mx1⟩⟩ := ok.rg
  have ⟨l1, l2, l3⟩ := lim_bd t ok.rg sp tp
  obtain ⟨x, hx⟩ : ∃ x, x = clip tq (-1099511627776) 1099511627776 := ⟨_, rfl⟩
  have ⟨x1, x2⟩ := clip_bd tq (-1099511627776) 1099511627776 (by omega)
  rw [← hx] at x1 x2
  have og := odd_refs t ok x sp tp lk
  have ov := over_refs t ok (max x (-x)) sp tp lk (by omega)
  have ⟨_, _, _, _, ⟨r1, r2⟩, ⟨d1, dd2⟩⟩ := ref_facts t ok x sp tp lk
  have qb : -(rst t.mx (rfd t x sp tp lk)) ≤ rfq t x sp tp lk ∧ rfq t x sp tp lk ≤ rst t.mx (rfd t x sp tp lk) := clip_bd _ _ _ (by omega)
  obtain ⟨l, hl⟩ : ∃ l, l = lim t sp tp := ⟨_, rfl⟩
  obtain ⟨d, hd⟩ : ∃ d, d = rfd t x sp tp lk := ⟨_, rfl⟩
  obtain ⟨q, hq⟩ : ∃ q, q = rfq t x sp tp lk := ⟨_, rfl⟩
  rw [← hl] at ov l1 l2 l3
  rw [← hd] at qb r1 r2
  rw [← hq] at qb
  obtain ⟨d2, hd2⟩ : ∃ d, d = rfd t l sp tp lk := ⟨_, rfl⟩
  obtain ⟨q2, hq2⟩ : ∃ q, q = rfq t l sp tp lk := ⟨_, rfl⟩
  rw [← hd, ← hq] at og
  rw [← hd2, ← hq2] at ov
  have q11 : -1048576 ≤ q := by omega
  have q12 : q ≤ 1048576 := by omega
  have HX := Lib.hid hx
  have HL := Lib.hid hl
  have HD := Lib.hid hd
  have HQ := Lib.hid hq
  have HD2 := Lib.hid hd2
  have HQ2 := Lib.hid hq2
  have NG := Lib.hid og
  have OV := Lib.hid ov
  have heq := eql_dq d2 q2
  have w1' : IntKind.i64.wrap (l + max x (-x)) = l + max x (-x) := IntWalk.i64_in _ (by omega)
  clear hx hl hd hq hd2 hq2 og ov qb r1 r2 d1 dd2 b1 b2 b3 b4
  clear hk hw ok
  have E0 : Ext w ((w.alloc (.cells #[.int .i64 t.most, .int .i64 t.per, .int .i64 t.mx, .slice t.c0.a t.c0.v.nx t.c0.k, .slice t.c0.b t.c0.v.ny t.c0.l, .slice t.c1.a t.c1.v.nx t.c1.k, .slice t.c1.b t.c1.v.ny t.c1.l, .slice t.c2.a t.c2.v.nx t.c2.k, .slice t.c2.b t.c2.v.ny t.c2.l, .slice t.c3.a t.c3.v.nx t.c3.k, .slice t.c3.b t.c3.v.ny t.c3.l] 26)).alloc (.cells #[.int .i64 sp, .int .i64 tp, .int .i64 lk] 28)) := ((Ext.refl w).alloc _).alloc _
  have T0 : Blk ((w.alloc (.cells #[.int .i64 t.most, .int .i64 t.per, .int .i64 t.mx, .slice t.c0.a t.c0.v.nx t.c0.k, .slice t.c0.b t.c0.v.ny t.c0.l, .slice t.c1.a t.c1.v.nx t.c1.k, .slice t.c1.b t.c1.v.ny t.c1.l, .slice t.c2.a t.c2.v.nx t.c2.k, .slice t.c2.b t.c2.v.ny t.c2.l, .slice t.c3.a t.c3.v.nx t.c3.k, .slice t.c3.b t.c3.v.ny t.c3.l] 26)).alloc (.cells #[.int .i64 sp, .int .i64 tp, .int .i64 lk] 28)) (w.heap.size) [.int .i64 t.most, .int .i64 t.per, .int .i64 t.mx, .slice t.c0.a t.c0.v.nx t.c0.k, .slice t.c0.b t.c0.v.ny t.c0.l, .slice t.c1.a t.c1.v.nx t.c1.k, .slice t.c1.b t.c1.v.ny t.c1.l, .slice t.c2.a t.c2.v.nx t.c2.k, .slice t.c2.b t.c2.v.ny t.c2.l, .slice t.c3.a t.c3.v.nx t.c3.k, .slice t.c3.b t.c3.v.ny t.c3.l] := by
    have hh := Blk.new w [.int .i64 t.most, .int .i64 t.per, .int .i64 t.mx, .slice t.c0.a t.c0.v.nx t.c0.k, .slice t.c0.b t.c0.v.ny t.c0.l, .slice t.c1.a t.c1.v.nx t.c1.k, .slice t.c1.b t.c1.v.ny t.c1.l, .slice t.c2.a t.c2.v.nx t.c2.k, .slice t.c2.b t.c2.v.ny t.c2.l, .slice t.c3.a t.c3.v.nx t.c3.k, .slice t.c3.b t.c3.v.ny t.c3.l] 26
    have e : (w).heap.size = w.heap.size := by simp
    rw [e] at hh
    exact hh.alloc _
  have HT := Lib.hid T0
  have I0 : Blk ((w.alloc (.cells #[.int .i64 t.most, .int .i64 t.per, .int .i64 t.mx, .slice t.c0.a t.c0.v.nx t.c0.k, .slice t.c0.b t.c0.v.ny t.c0.l, .slice t.c1.a t.c1.v.nx t.c1.k, .slice t.c1.b t.c1.v.ny t.c1.l, .slice t.c2.a t.c2.v.nx t.c2.k, .slice t.c2.b t.c2.v.ny t.c2.l, .slice t.c3.a t.c3.v.nx t.c3.k, .slice t.c3.b t.c3.v.ny t.c3.l] 26)).alloc (.cells #[.int .i64 sp, .int .i64 tp, .int .i64 lk] 28)) (w.heap.size + 1) [.int .i64 sp, .int .i64 tp, .int .i64 lk] := by
    have hh := Blk.new (w.alloc (.cells #[.int .i64 t.most, .int .i64 t.per, .int .i64 t.mx, .slice t.c0.a t.c0.v.nx t.c0.k, .slice t.c0.b t.c0.v.ny t.c0.l, .slice t.c1.a t.c1.v.nx t.c1.k, .slice t.c1.b t.c1.v.ny t.c1.l, .slice t.c2.a t.c2.v.nx t.c2.k, .slice t.c2.b t.c2.v.ny t.c2.l, .slice t.c3.a t.c3.v.nx t.c3.k, .slice t.c3.b t.c3.v.ny t.c3.l] 26)) [.int .i64 sp, .int .i64 tp, .int .i64 lk] 28
    have e : ((w.alloc (.cells #[.int .i64 t.most, .int .i64 t.per, .int .i64 t.mx, .slice t.c0.a t.c0.v.nx t.c0.k, .slice t.c0.b t.c0.v.ny t.c0.l, .slice t.c1.a t.c1.v.nx t.c1.k, .slice t.c1.b t.c1.v.ny t.c1.l, .slice t.c2.a t.c2.v.nx t.c2.k, .slice t.c2.b t.c2.v.ny t.c2.l, .slice t.c3.a t.c3.v.nx t.c3.k, .slice t.c3.b t.c3.v.ny t.c3.l] 26))).heap.size = w.heap.size + 1 := by simp
    rw [e] at hh
    exact hh
  have HI := Lib.hid I0
  have HE := Lib.hid E0
  clear E0 T0 I0
  go_enter Try.func7, Try.ntmps7
  go_wp2_with fail
  refine (few_any t _).mono ?_
  rintro e w1 ⟨bb, rfl, hx1⟩
  have E1 := HE.out.trans hx1
  have T1 := HT.out.ext hx1
  have I1 := HI.out.ext hx1
  have Tc0_1 := T1.at 0 _ rfl
  have Tc1_1 := T1.at 1 _ rfl
  have Tc2_1 := T1.at 2 _ rfl
  have Tc3_1 := T1.at 3 _ rfl
  have Tc4_1 := T1.at 4 _ rfl
  have Tc5_1 := T1.at 5 _ rfl
  have Tc6_1 := T1.at 6 _ rfl
  have Tc7_1 := T1.at 7 _ rfl
  have Tc8_1 := T1.at 8 _ rfl
  have Tc9_1 := T1.at 9 _ rfl
  have Tc10_1 := T1.at 10 _ rfl
  have Tn_1 := T1.lt
  have Ic0_1 := I1.at 0 _ rfl
  have Ic1_1 := I1.at 1 _ rfl
  have Ic2_1 := I1.at 2 _ rfl
  have In_1 := I1.lt
  cases bb
  · skip
    go_wp2_with fail
    refine (awake36 _).mono ?_
    rintro e wz ⟨rfl, hxz⟩
    go_wp2_with fail
    go_ret
    exact ⟨(by first | rfl | exact ret_true (by simp <;> omega)), (by repeat (first | with_reducible exact Ext.refl _ | with_reducible assumption | (with_reducible refine Ext.drew ?_) | (with_reducible refine Ext.drewN ?_ _) | (with_reducible refine Ext.alloc ?_ _) | (with_reducible refine Ext.setCell ?_ ?_ _) | (with_reducible refine Ext.trans ?_ (by with_reducible assumption)) | omega | (focus (simp <;> omega))))⟩
  · skip
    go_wp2_with fail
    refine (check36 t _ (HW.out.ext E1)).mono ?_
    rw [TK.out]
    rintro e w2 ⟨rfl, hx2⟩
    have F2 : Ext w1 w2 := (by repeat (first | with_reducible exact Ext.refl _ | with_reducible assumption | (with_reducible refine Ext.drew ?_) | (with_reducible refine Ext.drewN ?_ _) | (with_reducible refine Ext.alloc ?_ _) | (with_reducible refine Ext.setCell ?_ ?_ _) | (with_reducible refine Ext.trans ?_ (by with_reducible assumption)) | omega | (focus (simp <;> omega))))
    have E2 := E1.trans F2
    have T2 := T1.ext F2
    have I2 := I1.ext F2
    clear Tc0_1 Tc1_1 Tc2_1 Tc3_1 Tc4_1 Tc5_1 Tc6_1 Tc7_1 Tc8_1 Tc9_1 Tc10_1 Ic0_1 Ic1_1 Ic2_1
    have Tc0_2 := T2.at 0 _ rfl
    have Tc1_2 := T2.at 1 _ rfl
    have Tc2_2 := T2.at 2 _ rfl
    have Tc3_2 := T2.at 3 _ rfl
    have Tc4_2 := T2.at 4 _ rfl
    have Tc5_2 := T2.at 5 _ rfl
    have Tc6_2 := T2.at 6 _ rfl
    have Tc7_2 := T2.at 7 _ rfl
    have Tc8_2 := T2.at 8 _ rfl
    have Tc9_2 := T2.at 9 _ rfl
    have Tc10_2 := T2.at 10 _ rfl
    have Tn_2 := T2.lt
    have Ic0_2 := I2.at 0 _ rfl
    have Ic1_2 := I2.at 1 _ rfl
    have Ic2_2 := I2.at 2 _ rfl
    have In_2 := I2.lt
    go_wp2_with fail
    refine (awake36 _).mono ?_
    rintro e w3 ⟨rfl, hx3⟩
    have F3 : Ext w2 w3 := (by repeat (first | with_reducible exact Ext.refl _ | with_reducible assumption | (with_reducible refine Ext.drew ?_) | (with_reducible refine Ext.drewN ?_ _) | (with_reducible refine Ext.alloc ?_ _) | (with_reducible refine Ext.setCell ?_ ?_ _) | (with_reducible refine Ext.trans ?_ (by with_reducible assumption)) | omega | (focus (simp <;> omega))))
    have E3 := E2.trans F3
    have T3 := T2.ext F3
    have I3 := I2.ext F3
    clear Tc0_2 Tc1_2 Tc2_2 Tc3_2 Tc4_2 Tc5_2 Tc6_2 Tc7_2 Tc8_2 Tc9_2 Tc10_2 Ic0_2 Ic1_2 Ic2_2
    have Tc0_3 := T3.at 0 _ rfl
    have Tc1_3 := T3.at 1 _ rfl
    have Tc2_3 := T3.at 2 _ rfl
    have Tc3_3 := T3.at 3 _ rfl
    have Tc4_3 := T3.at 4 _ rfl
    have Tc5_3 := T3.at 5 _ rfl
    have Tc6_3 := T3.at 6 _ rfl
    have Tc7_3 := T3.at 7 _ rfl
    have Tc8_3 := T3.at 8 _ rfl
    have Tc9_3 := T3.at 9 _ rfl
    have Tc10_3 := T3.at 10 _ rfl
    have Tn_3 := T3.lt
    have Ic0_3 := I3.at 0 _ rfl
    have Ic1_3 := I3.at 1 _ rfl
    have Ic2_3 := I3.at 2 _ rfl
    have In_3 := I3.lt
    go_wp2_with fail
    refine (clip_any tq (-1099511627776) 1099511627776 _).mono ?_
    rw [← HX.out]
    rintro e wq ⟨rfl, rfl⟩
    go_wp2_with fail
    refine (tLimit_ok t sp tp lk _ OK.out TK.out (HW.out.ext E3)).mono ?_
    rw [← HL.out]
    rintro e w4 ⟨rfl, hx4⟩
    have F4 : Ext w3 w4 := (by repeat (first | with_reducible exact Ext.refl _ | with_reducible assumption | (with_reducible refine Ext.drew ?_) | (with_reducible refine Ext.drewN ?_ _) | (with_reducible refine Ext.alloc ?_ _) | (with_reducible refine Ext.setCell ?_ ?_ _) | (with_reducible refine Ext.trans ?_ (by with_reducible assumption)) | omega | (focus (simp <;> omega))))
    have E4 := E3.trans F4
    have T4 := T3.ext F4
    have I4 := I3.ext F4
    clear Tc0_3 Tc1_3 Tc2_3 Tc3_3 Tc4_3 Tc5_3 Tc6_3 Tc7_3 Tc8_3 Tc9_3 Tc10_3 Ic0_3 Ic1_3 Ic2_3
    have Tc0_4 := T4.at 0 _ rfl
    have Tc1_4 := T4.at 1 _ rfl
    have Tc2_4 := T4.at 2 _ rfl
    have Tc3_4 := T4.at 3 _ rfl
    have Tc4_4 := T4.at 4 _ rfl
    have Tc5_4 := T4.at 5 _ rfl
    have Tc6_4 := T4.at 6 _ rfl
    have Tc7_4 := T4.at 7 _ rfl
    have Tc8_4 := T4.at 8 _ rfl
    have Tc9_4 := T4.at 9 _ rfl
    have Tc10_4 := T4.at 10 _ rfl
    have Tn_4 := T4.lt
    have Ic0_4 := I4.at 0 _ rfl
    have Ic1_4 := I4.at 1 _ rfl
    have Ic2_4 := I4.at 2 _ rfl
    have In_4 := I4.lt
    go_wp2_with fail
    refine (tRefs_ok t x sp tp lk _ OK.out TK.out (HW.out.ext E4)).mono ?_
    rw [← HD.out, ← HQ.out]
    rintro e w5 ⟨rfl, hx5⟩
    have F5 : Ext w4 w5 := (by repeat (first | with_reducible exact Ext.refl _ | with_reducible assumption | (with_reducible refine Ext.drew ?_) | (with_reducible refine Ext.drewN ?_ _) | (with_reducible refine Ext.alloc ?_ _) | (with_reducible refine Ext.setCell ?_ ?_ _) | (with_reducible refine Ext.trans ?_ (by with_reducible assumption)) | omega | (focus (simp <;> omega))))
    have E5 := E4.trans F5
    have T5 := T4.ext F5
    have I5 := I4.ext F5
    clear Tc0_4 Tc1_4 Tc2_4 Tc3_4 Tc4_4 Tc5_4 Tc6_4 Tc7_4 Tc8_4 Tc9_4 Tc10_4 Ic0_4 Ic1_4 Ic2_4
    have Tc0_5 := T5.at 0 _ rfl
    have Tc1_5 := T5.at 1 _ rfl
    have Tc2_5 := T5.at 2 _ rfl
    have Tc3_5 := T5.at 3 _ rfl
    have Tc4_5 := T5.at 4 _ rfl
    have Tc5_5 := T5.at 5 _ rfl
    have Tc6_5 := T5.at 6 _ rfl
    have Tc7_5 := T5.at 7 _ rfl
    have Tc8_5 := T5.at 8 _ rfl
    have Tc9_5 := T5.at 9 _ rfl
    have Tc10_5 := T5.at 10 _ rfl
    have Tn_5 := T5.lt
    have Ic0_5 := I5.at 0 _ rfl
    have Ic1_5 := I5.at 1 _ rfl
    have Ic2_5 := I5.at 2 _ rfl
    have In_5 := I5.lt
    go_wp2_with fail
    refine (tRefs_ok t (-x) sp tp lk _ OK.out TK.out (HW.out.ext (E5.alloc _))).mono ?_
    rw [NG.out.1, NG.out.2]
    rintro e w6 ⟨rfl, hx6⟩
    have F6 : Ext w5 w6 := (by repeat (first | with_reducible exact Ext.refl _ | with_reducible assumption | (with_reducible refine Ext.drew ?_) | (with_reducible refine Ext.drewN ?_ _) | (with_reducible refine Ext.alloc ?_ _) | (with_reducible refine Ext.setCell ?_ ?_ _) | (with_reducible refine Ext.trans ?_ (by with_reducible assumption)) | omega | (focus (simp <;> omega))))
    have E6 := E5.trans F6
    have T6 := T5.ext F6
    have I6 := I5.ext F6
    have D6 := (Blk.new w5 [.int .i64 d, .int .i64 q] 33).ext hx6
    clear Tc0_5 Tc1_5 Tc2_5 Tc3_5 Tc4_5 Tc5_5 Tc6_5 Tc7_5 Tc8_5 Tc9_5 Tc10_5 Ic0_5 Ic1_5 Ic2_5
    have Tc0_6 := T6.at 0 _ rfl
    have Tc1_6 := T6.at 1 _ rfl
    have Tc2_6 := T6.at 2 _ rfl
    have Tc3_6 := T6.at 3 _ rfl
    have Tc4_6 := T6.at 4 _ rfl
    have Tc5_6 := T6.at 5 _ rfl
    have Tc6_6 := T6.at 6 _ rfl
    have Tc7_6 := T6.at 7 _ rfl
    have Tc8_6 := T6.at 8 _ rfl
    have Tc9_6 := T6.at 9 _ rfl
    have Tc10_6 := T6.at 10 _ rfl
    have Tn_6 := T6.lt
    have Ic0_6 := I6.at 0 _ rfl
    have Ic1_6 := I6.at 1 _ rfl
    have Ic2_6 := I6.at 2 _ rfl
    have In_6 := I6.lt
    have Dc0_6 := D6.at 0 _ rfl
    have Dc1_6 := D6.at 1 _ rfl
    have Dn_6 := D6.lt
    go_wp2_with fail
    refine (tRefs_ok t l sp tp lk _ OK.out TK.out (HW.out.ext (E6.alloc _))).mono ?_
    rw [← HD2.out, ← HQ2.out]
    rintro e w7 ⟨rfl, hx7⟩
    have F7 : Ext w6 w7 := (by repeat (first | with_reducible exact Ext.refl _ | with_reducible assumption | (with_reducible refine Ext.drew ?_) | (with_reducible refine Ext.drewN ?_ _) | (with_reducible refine Ext.alloc ?_ _) | (with_reducible refine Ext.setCell ?_ ?_ _) | (with_reducible refine Ext.trans ?_ (by with_reducible assumption)) | omega | (focus (simp <;> omega))))
    have E7 := E6.trans F7
    have T7 := T6.ext F7
    have I7 := I6.ext F7
    have D7 := D6.ext F7
    have G7 := (Blk.new w6 [.int .i64 d, .int .i64 (-q)] 33).ext hx7
    clear Tc0_6 Tc1_6 Tc2_6 Tc3_6 Tc4_6 Tc5_6 Tc6_6 Tc7_6 Tc8_6 Tc9_6 Tc10_6 Ic0_6 Ic1_6 Ic2_6 Dc0_6 Dc1_6
    have Tc0_7 := T7.at 0 _ rfl
    have Tc1_7 := T7.at 1 _ rfl
    have Tc2_7 := T7.at 2 _ rfl
    have Tc3_7 := T7.at 3 _ rfl
    have Tc4_7 := T7.at 4 _ rfl
    have Tc5_7 := T7.at 5 _ rfl
    have Tc6_7 := T7.at 6 _ rfl
    have Tc7_7 := T7.at 7 _ rfl
    have Tc8_7 := T7.at 8 _ rfl
    have Tc9_7 := T7.at 9 _ rfl
    have Tc10_7 := T7.at 10 _ rfl
    have Tn_7 := T7.lt
    have Ic0_7 := I7.at 0 _ rfl
    have Ic1_7 := I7.at 1 _ rfl
    have Ic2_7 := I7.at 2 _ rfl
    have In_7 := I7.lt
    have Dc0_7 := D7.at 0 _ rfl
    have Dc1_7 := D7.at 1 _ rfl
    have Dn_7 := D7.lt
    have Gc0_7 := G7.at 0 _ rfl
    have Gc1_7 := G7.at 1 _ rfl
    have Gn_7 := G7.lt
    clear Tc0_7 Tc1_7 Tc2_7 Tc3_7 Tc4_7 Tc5_7 Tc6_7 Tc7_7 Tc8_7 Tc9_7 Tc10_7 Ic0_7 Ic1_7 Ic2_7 Dc0_7 Dc1_7 Gc0_7 Gc1_7
    have E9 : Ext w7 (w7.alloc (.cells #[.int .i64 d2, .int .i64 q2] 33)) := (Ext.refl w7).alloc _
    have TB := T7.alloc (.cells #[.int .i64 d2, .int .i64 q2] 33)
    have IB := I7.alloc (.cells #[.int .i64 d2, .int .i64 q2] 33)
    have KB := Blk.new w7 [.int .i64 d2, .int .i64 q2] 33
    have s0 := TB.at 0 _ rfl
    have s1 := TB.at 1 _ rfl
    have s2 := TB.at 2 _ rfl
    have s3 := TB.at 3 _ rfl
    have s4 := TB.at 4 _ rfl
    have s5 := TB.at 5 _ rfl
    have s6 := TB.at 6 _ rfl
    have s7 := TB.at 7 _ rfl
    have s8 := TB.at 8 _ rfl
    have s9 := TB.at 9 _ rfl
    have s10 := TB.at 10 _ rfl
    have r0 := IB.at 0 _ rfl
    have r1 := IB.at 1 _ rfl
    have r2 := IB.at 2 _ rfl
    have HA := Lib.hid (fun V => abs_any x V ⟨by omega, by omega⟩)
    have kn := KB.lt
    have RC := Lib.hid (fun V (hV : Ext w7 V) => tRefs_ok t (l + max x (-x)) sp tp lk V OK.out TK.out (HW.out.ext (E7.trans hV)))
    clear s1 s2
    have s1 := TB.at 1 _ rfl
    have s2 := TB.at 2 _ rfl
    go_wp2_with fail
    go_region_held3 (fun w' => w'.cell? ⟨w.heap.size, 0, none⟩ = some (.int .i64 t.most) ∧ w'.cell? ⟨w.heap.size, 1, none⟩ = some (.int .i64 t.per) ∧ w'.cell? ⟨w.heap.size, 2, none⟩ = some (.int .i64 t.mx) ∧ w'.cell? ⟨w.heap.size, 3, none⟩ = some (.slice t.c0.a t.c0.v.nx t.c0.k) ∧ w'.cell? ⟨w.heap.size, 4, none⟩ = some (.slice t.c0.b t.c0.v.ny t.c0.l) ∧ w'.cell? ⟨w.heap.size, 5, none⟩ = some (.slice t.c1.a t.c1.v.nx t.c1.k) ∧ w'.cell? ⟨w.heap.size, 6, none⟩ = some (.slice t.c1.b t.c1.v.ny t.c1.l) ∧ w'.cell? ⟨w.heap.size, 7, none⟩ = some (.slice t.c2.a t.c2.v.nx t.c2.k) ∧ w'.cell? ⟨w.heap.size, 8, none⟩ = some (.slice t.c2.b t.c2.v.ny t.c2.l) ∧ w'.cell? ⟨w.heap.size, 9, none⟩ = some (.slice t.c3.a t.c3.v.nx t.c3.k) ∧ w'.cell? ⟨w.heap.size, 10, none⟩ = some (.slice t.c3.b t.c3.v.ny t.c3.l) ∧ w'.cell? ⟨w.heap.size + 1, 0, none⟩ = some (.int .i64 sp) ∧ w'.cell? ⟨w.heap.size + 1, 1, none⟩ = some (.int .i64 tp) ∧ w'.cell? ⟨w.heap.size + 1, 2, none⟩ = some (.int .i64 lk)) ((refine ⟨?_, ?_, ?_, ?_, ?_, ?_, ?_, ?_, ?_, ?_, ?_, ?_, ?_, ?_⟩ <;> first | assumption | (exact cell_al _ (by assumption)) | (exact cell_st (by omega) (cell_st (by omega) (by assumption)))))
      (first | (go_at_call 15; refine (HA.out _).mono ?_; rintro e w9 ⟨rfl, rfl⟩) | (go_at_call 12; (with_reducible refine (RC.out _ ?_).mono ?_); (exact (by repeat (first | with_reducible exact Ext.refl _ | with_reducible assumption | (with_reducible refine Ext.drew ?_) | (with_reducible refine Ext.drewN ?_ _) | (with_reducible refine Ext.alloc ?_ _) | (with_reducible refine Ext.setCell ?_ ?_ _) | (with_reducible refine Ext.trans ?_ (by with_reducible assumption)) | omega | (focus (simp <;> omega))))); rw [OV.out.1, OV.out.2]; rintro e w9 ⟨rfl, hx9⟩; have F9 : Ext w7 w9 := (by repeat (first | with_reducible exact Ext.refl _ | with_reducible assumption | (with_reducible refine Ext.drew ?_) | (with_reducible refine Ext.drewN ?_ _) | (with_reducible refine Ext.alloc ?_ _) | (with_reducible refine Ext.setCell ?_ ?_ _) | (with_reducible refine Ext.trans ?_ (by with_reducible assumption)) | omega | (focus (simp <;> omega)))); (first | (have z9 := KB.ext ((Ext.refl _).drew.trans hx9)) | (have z9 := KB.ext (((Ext.refl _).alloc _).drew.trans hx9))); (first | (have N9 := (Blk.new1 w7 (.cells #[.int .i64 d2, .int .i64 q2] 33) [.int .i64 0, .int .i64 0] 33).drew.ext (w1 := w9) hx9; have n0 := N9.at 0 _ rfl; have n1 := N9.at 1 _ rfl; have nf := N9.fr; have nn := N9.lt) | skip); have tn9 := (T7.ext F9).lt; have in9 := (I7.ext F9).lt; have k0 := (T7.ext F9).at 0 _ rfl; have k1 := (T7.ext F9).at 1 _ rfl; have k2 := (T7.ext F9).at 2 _ rfl; have k3 := (T7.ext F9).at 3 _ rfl; have k4 := (T7.ext F9).at 4 _ rfl; have k5 := (T7.ext F9).at 5 _ rfl; have k6 := (T7.ext F9).at 6 _ rfl; have k7 := (T7.ext F9).at 7 _ rfl; have k8 := (T7.ext F9).at 8 _ rfl; have k9 := (T7.ext F9).at 9 _ rfl; have k10 := (T7.ext F9).at 10 _ rfl; have j0 := (I7.ext F9).at 0 _ rfl; have j1 := (I7.ext F9).at 1 _ rfl; have j2 := (I7.ext F9).at 2 _ rfl))
    all_goals
      have D9 := D7.ext F9
      have G9 := G7.ext F9
      have dl := D7.lt
      have gl := G7.lt
      have dl9 := D9.lt
      have gl9 := G9.lt
      have zl9 := z9.lt
      clear k0 k1 k2 k3 k4 k5 k6 k7 k8 k9 k10 j0 j1 j2
      first
      | (have ZN := (N9.set 0 (.int .i64 d2) (by simp)).set 1 (.int .i64 q2) (by simp)
         have ZD : Blk ((w9.setCell ⟨w7.heap.size + 1, 0, none⟩ (.int .i64 d2)).setCell ⟨w7.heap.size + 1, 1, none⟩ (.int .i64 q2)) w5.heap.size [.int .i64 d, .int .i64 q] := (D9.far (by omega) _).far (by omega) _
         have ZG : Blk ((w9.setCell ⟨w7.heap.size + 1, 0, none⟩ (.int .i64 d2)).setCell ⟨w7.heap.size + 1, 1, none⟩ (.int .i64 q2)) w6.heap.size [.int .i64 d, .int .i64 (-q)] := (G9.far (by omega) _).far (by omega) _
         have ZK : Blk ((w9.setCell ⟨w7.heap.size + 1, 0, none⟩ (.int .i64 d2)).setCell ⟨w7.heap.size + 1, 1, none⟩ (.int .i64 q2)) w7.heap.size [.int .i64 d2, .int .i64 q2] := (z9.far (by omega) _).far (by omega) _
         have y0 := ZN.at 0 _ rfl
         have y1 := ZN.at 1 _ rfl
         have y2 := ZD.at 0 _ rfl
         have y3 := ZD.at 1 _ rfl
         have y4 := ZG.at 0 _ rfl
         have y5 := ZG.at 1 _ rfl
         have y6 := ZK.at 0 _ rfl
         have y7 := ZK.at 1 _ rfl
         have e9 : Ext w w9 := E7.trans F9
         go_wp2_with fail
         go_ret
         exact ⟨(by first | rfl | exact ret_true (by simp <;> omega)), (e9.setCell (by simp; omega) _).setCell (by simp; omega) _⟩)
      | (have ZN := Blk.new w9 [.int .i64 d2, .int .i64 q2] 33
         have y0 := ZN.at 0 _ rfl
         have y1 := ZN.at 1 _ rfl
         have y2 := D9.at 0 _ rfl
         have y3 := D9.at 1 _ rfl
         have y4 := G9.at 0 _ rfl
         have y5 := G9.at 1 _ rfl
         have y6 := z9.at 0 _ rfl
         have y7 := z9.at 1 _ rfl
         have e9 : Ext w w9 := E7.trans F9
         go_wp2_with fail
         go_ret
         exact ⟨(by first | rfl | exact ret_true (by simp <;> omega)), e9.alloc _⟩)

theorem walk (t : Tc) (sp tp lk : Int) (b1 : I64 sp) (b2 : I64 tp) (b3 : I64 lk) (tq : Int) (b4 : I64 tq) (w : World) (hw : TcAt w t) :
    Calls Try.prog 7 #[.agg #[.int .i64 t.most, .int .i64 t.per, .int .i64 t.mx, .slice t.c0.a t.c0.v.nx t.c0.k, .slice t.c0.b t.c0.v.ny t.c0.l, .slice t.c1.a t.c1.v.nx t.c1.k, .slice t.c1.b t.c1.v.ny t.c1.l, .slice t.c2.a t.c2.v.nx t.c2.k, .slice t.c2.b t.c2.v.ny t.c2.l, .slice t.c3.a t.c3.v.nx t.c3.k, .slice t.c3.b t.c3.v.ny t.c3.l], .agg #[.int .i64 sp, .int .i64 tp, .int .i64 lk], .int .i64 tq] w fun e w' => e = .returned (.bool true) ∧ Ext w w' := by
  by_cases hk : tck t = 0
  · exact walk_ok t sp tp lk b1 b2 b3 tq b4 w hk hw
  · exact walk_bad t sp tp lk b1 b2 b3 tq b4 w hk hw

theorem own : ownKnob Try.prog.godebug = none := by kernel_rfl
theorem laidOut : laidOutB Try.prog = true := by kernel_rfl

/-- The row's step: the walk's end is what the row asks. -/
theorem lifted (os : Os) (started : os.Started) (H : Type) (enc : TypeId × Value → H) :
    ReturnsInHanded {} Try.checked os 7 .any (Rows.torqueOddSpec.pre6 enc Try.prog Try.f7 Rows.torqueOddRow.domain false) (Rows.torqueOddSpec.post enc Try.prog Try.f7 false true false false) := by
  refine returnsInHanded_of_change (C := Try.checked) own started (by kernel_rfl) Try.func7
    (ChangeSpec.witness6 (enc := enc) (C := Try.checked) false ⟨#[], #[.agg #[.int .i64 0, .int .i64 0, .int .i64 0, .slice none 0 0, .slice none 0 0, .slice none 0 0, .slice none 0 0, .slice none 0 0, .slice none 0 0, .slice none 0 0, .slice none 0 0], .agg #[.int .i64 0, .int .i64 0, .int .i64 0], .int .i64 0], []⟩ 8 (by kernel_rfl) (by kernel_rfl) (by kernel_rfl) (by kernel_rfl)) ?_
  intro W base args ds gs before hval0 hW hcnd _
  have hval : ∀ (j : Nat) t v, Try.f7.params[j]? = some t → args[j]? = some v → Value.okWide Try.prog W .any base t v := hval0
  have hW' := hW
  obtain ⟨p, q, hA0, hV, rfl, hfz, hnd⟩ := hW
  have hA : DataW.TrodAll enc Try.prog W 0 (fun _ => true) true Try.f7.params.toList args.toList ds p := hA0
  rw [Try.params7] at hA hval
  obtain ⟨v0, vs0, d0, ds0, p0, q0, hargs, rfl, rfl, h0, r0⟩ := trodAll_cons hA
  obtain ⟨v1, vs1, d1, ds1, p1, q1, rfl, rfl, rfl, h1, r1⟩ := trodAll_cons r0
  obtain ⟨v2, vs2, d2, ds2, p2, q2, rfl, rfl, rfl, h2, r2⟩ := trodAll_cons r1
  obtain ⟨rfl, rfl, rfl⟩ := trodAll_nil r2
  obtain rfl : args = #[v0, v1, v2] := by cases args; simp_all
  obtain ⟨rfl, rfl⟩ := trodVars_none hV
  have lt0 : ∀ x ∈ p0, x.block < W.heap.size := by obtain ⟨m, hm⟩ := h0; exact DataW.trod_lt m _ _ _ hm
  obtain ⟨u0, rfl, hu0⟩ := open_tc (hval 0 26 v0 rfl rfl) h0
  have lt1 : ∀ x ∈ p1, x.block < W.heap.size := by obtain ⟨m, hm⟩ := h1; exact DataW.trod_lt m _ _ _ hm
  obtain ⟨a1x, a1y, a1z, rfl, ba1x, ba1y, ba1z⟩ := open_str3 (u := 3) Try.underlying28 (by kernel_rfl) (by kernel_rfl) (by kernel_rfl) (hval 1 28 v1 rfl rfl)
  have lt2 : ∀ x ∈ p2, x.block < W.heap.size := by obtain ⟨m, hm⟩ := h2; exact DataW.trod_lt m _ _ _ hm
  obtain ⟨a2, rfl, b2⟩ := open_i64 Try.underlying3 (hval 2 3 v2 rfl rfl)
  clear hA0 hval0
  refine (walk u0 a1x a1y a1z ba1x ba1y ba1z a2 b2 W hu0).mono fun e W' ⟨he, bel0⟩ => ?_
  subst he
  have bel : Below W.heap.size W W' := bel0
  exact ⟨_, rfl, _, _, _, [], _, [], hW', trodAll_mk1 (shut_bool Try.underlying4 _), (trodAll_cons_mk (Below.trod laidOut (by kernel_rfl) (of_decide_eq_true (by kernel_rfl)) h0 bel lt0) (trodAll_cons_mk (Below.trod laidOut (by kernel_rfl) (of_decide_eq_true (by kernel_rfl)) h1 bel lt1) (trodAll_cons_mk (Below.trod laidOut (by kernel_rfl) (of_decide_eq_true (by kernel_rfl)) h2 bel lt2) trodAll_mk0))), rfl, bel.frame _, fun h => by cases h⟩

theorem over : Rows.torqueOddRow.holds Try.pinned (OpenSpec.ofChange Rows.torqueOddSpec) :=
  OpenClaim.holds_of_wide 7 Try.f7 rfl rfl rfl rfl rfl rfl rfl ⟨rfl, rfl, rfl, rfl, rfl⟩ rfl rfl rfl rfl rfl (by kernel_rfl) Try.func7 (by kernel_rfl)
    (of_decide_eq_true (by kernel_rfl)) (by unfold Func.isWrapper; first | (rw [if_pos (by decide +kernel)]; kernel_rfl) | (rw [if_neg (by decide +kernel)]; exact ⟨rfl, rfl⟩))
    (fun os started H enc _ => lifted os started H enc)

/-- The statement. -/
theorem proved : Rows.TorqueOddSaid := over
#print axioms proved
end Go.Proofs.Ytphfgljfjfpomaa.torqueOdd
