/- TorqueComputes: Check, Limit, Refs and Torque return what is specified, or the specified error.
   Conditions: none: every input. -/
import Derived.Test.YtphfgljfjfpomaaAwakeTorque
import Derived.Test.YtphfgljfjfpomaaTorqueOpen
import Derived.Deep.RegionHeld3
namespace Go.Proofs.Ytphfgljfjfpomaa.torqueComputes
open Go.ChangeShapes Go.WideShapes Go.ChangeAt Go.RowKit
set_option linter.unusedVariables false

set_option maxRecDepth 100000 in
set_option maxHeartbeats 4000000 in
theorem walk_ok (t : Tc) (sp tp lk : Int) (b1 : I64 sp) (b2 : I64 tp) (b3 : I64 lk) (x0 x1 : Int) (b4 : I64 x0) (b5 : I64 x1) (w : World) (hk : tck t = 0) (hw : TcAt w t) :
    Calls Try.prog 5 #[.agg #[.int .i64 t.most, .int .i64 t.per, .int .i64 t.mx, .slice t.c0.a t.c0.v.nx t.c0.k, .slice t.c0.b t.c0.v.ny t.c0.l, .slice t.c1.a t.c1.v.nx t.c1.k, .slice t.c1.b t.c1.v.ny t.c1.l, .slice t.c2.a t.c2.v.nx t.c2.k, .slice t.c2.b t.c2.v.ny t.c2.l, .slice t.c3.a t.c3.v.nx t.c3.k, .slice t.c3.b t.c3.v.ny t.c3.l], .agg #[.int .i64 sp, .int .i64 tp, .int .i64 lk], .agg #[.int .i64 x0, .int .i64 x1]] w fun e w' => e = .returned (.bool true) ∧ Ext w w' := by
  have B2 := Lib.hid b2
  have HW := Lib.hid hw
  have TK := Lib.hid hk
  have okk := tok_of hk
  have OK := Lib.hid okk
  obtain ⟨l, hl⟩ : ∃ l, l = lim t sp tp := ⟨_, rfl⟩
  obtain ⟨d, hd⟩ : ∃ d, d = rfd t x0 sp tp lk := ⟨_, rfl⟩
  obtain ⟨q, hq⟩ : ∃ q, q = rfq t x0 sp tp lk := ⟨_, rfl⟩
  obtain ⟨n, hn⟩ : ∃ n, n = tqq t x1 := ⟨_, rfl⟩
  have HL := Lib.hid hl
  have HD := Lib.hid hd
  have HQ := Lib.hid hq
  have HN := Lib.hid hn
  have heq := eql_dq d q
  clear hl hd hq hn hk hw b1 b2 b3 b4 b5 okk
  have E0 : Ext w (((w.alloc (.cells #[.int .i64 t.most, .int .i64 t.per, .int .i64 t.mx, .slice t.c0.a t.c0.v.nx t.c0.k, .slice t.c0.b t.c0.v.ny t.c0.l, .slice t.c1.a t.c1.v.nx t.c1.k, .slice t.c1.b t.c1.v.ny t.c1.l, .slice t.c2.a t.c2.v.nx t.c2.k, .slice t.c2.b t.c2.v.ny t.c2.l, .slice t.c3.a t.c3.v.nx t.c3.k, .slice t.c3.b t.c3.v.ny t.c3.l] 26)).alloc (.cells #[.int .i64 sp, .int .i64 tp, .int .i64 lk] 28)).alloc (.cells #[.int .i64 x0, .int .i64 x1] 44)) := (((Ext.refl w).alloc _).alloc _).alloc _
  have T0 : Blk (((w.alloc (.cells #[.int .i64 t.most, .int .i64 t.per, .int .i64 t.mx, .slice t.c0.a t.c0.v.nx t.c0.k, .slice t.c0.b t.c0.v.ny t.c0.l, .slice t.c1.a t.c1.v.nx t.c1.k, .slice t.c1.b t.c1.v.ny t.c1.l, .slice t.c2.a t.c2.v.nx t.c2.k, .slice t.c2.b t.c2.v.ny t.c2.l, .slice t.c3.a t.c3.v.nx t.c3.k, .slice t.c3.b t.c3.v.ny t.c3.l] 26)).alloc (.cells #[.int .i64 sp, .int .i64 tp, .int .i64 lk] 28)).alloc (.cells #[.int .i64 x0, .int .i64 x1] 44)) (w.heap.size) [.int .i64 t.most, .int .i64 t.per, .int .i64 t.mx, .slice t.c0.a t.c0.v.nx t.c0.k, .slice t.c0.b t.c0.v.ny t.c0.l, .slice t.c1.a t.c1.v.nx t.c1.k, .slice t.c1.b t.c1.v.ny t.c1.l, .slice t.c2.a t.c2.v.nx t.c2.k, .slice t.c2.b t.c2.v.ny t.c2.l, .slice t.c3.a t.c3.v.nx t.c3.k, .slice t.c3.b t.c3.v.ny t.c3.l] := by
    have hh := Blk.new w [.int .i64 t.most, .int .i64 t.per, .int .i64 t.mx, .slice t.c0.a t.c0.v.nx t.c0.k, .slice t.c0.b t.c0.v.ny t.c0.l, .slice t.c1.a t.c1.v.nx t.c1.k, .slice t.c1.b t.c1.v.ny t.c1.l, .slice t.c2.a t.c2.v.nx t.c2.k, .slice t.c2.b t.c2.v.ny t.c2.l, .slice t.c3.a t.c3.v.nx t.c3.k, .slice t.c3.b t.c3.v.ny t.c3.l] 26
    have e : (w).heap.size = w.heap.size := by simp
    rw [e] at hh
    exact (hh.alloc _).alloc _
  have HT := Lib.hid T0
  have I0 : Blk (((w.alloc (.cells #[.int .i64 t.most, .int .i64 t.per, .int .i64 t.mx, .slice t.c0.a t.c0.v.nx t.c0.k, .slice t.c0.b t.c0.v.ny t.c0.l, .slice t.c1.a t.c1.v.nx t.c1.k, .slice t.c1.b t.c1.v.ny t.c1.l, .slice t.c2.a t.c2.v.nx t.c2.k, .slice t.c2.b t.c2.v.ny t.c2.l, .slice t.c3.a t.c3.v.nx t.c3.k, .slice t.c3.b t.c3.v.ny t.c3.l] 26)).alloc (.cells #[.int .i64 sp, .int .i64 tp, .int .i64 lk] 28)).alloc (.cells #[.int .i64 x0, .int .i64 x1] 44)) (w.heap.size + 1) [.int .i64 sp, .int .i64 tp, .int .i64 lk] := by
    have hh := Blk.new (w.alloc (.cells #[.int .i64 t.most, .int .i64 t.per, .int .i64 t.mx, .slice t.c0.a t.c0.v.nx t.c0.k, .slice t.c0.b t.c0.v.ny t.c0.l, .slice t.c1.a t.c1.v.nx t.c1.k, .slice t.c1.b t.c1.v.ny t.c1.l, .slice t.c2.a t.c2.v.nx t.c2.k, .slice t.c2.b t.c2.v.ny t.c2.l, .slice t.c3.a t.c3.v.nx t.c3.k, .slice t.c3.b t.c3.v.ny t.c3.l] 26)) [.int .i64 sp, .int .i64 tp, .int .i64 lk] 28
    have e : ((w.alloc (.cells #[.int .i64 t.most, .int .i64 t.per, .int .i64 t.mx, .slice t.c0.a t.c0.v.nx t.c0.k, .slice t.c0.b t.c0.v.ny t.c0.l, .slice t.c1.a t.c1.v.nx t.c1.k, .slice t.c1.b t.c1.v.ny t.c1.l, .slice t.c2.a t.c2.v.nx t.c2.k, .slice t.c2.b t.c2.v.ny t.c2.l, .slice t.c3.a t.c3.v.nx t.c3.k, .slice t.c3.b t.c3.v.ny t.c3.l] 26))).heap.size = w.heap.size + 1 := by simp
    rw [e] at hh
    exact hh.alloc _
  have HI := Lib.hid I0
  have X0 : Blk (((w.alloc (.cells #[.int .i64 t.most, .int .i64 t.per, .int .i64 t.mx, .slice t.c0.a t.c0.v.nx t.c0.k, .slice t.c0.b t.c0.v.ny t.c0.l, .slice t.c1.a t.c1.v.nx t.c1.k, .slice t.c1.b t.c1.v.ny t.c1.l, .slice t.c2.a t.c2.v.nx t.c2.k, .slice t.c2.b t.c2.v.ny t.c2.l, .slice t.c3.a t.c3.v.nx t.c3.k, .slice t.c3.b t.c3.v.ny t.c3.l] 26)).alloc (.cells #[.int .i64 sp, .int .i64 tp, .int .i64 lk] 28)).alloc (.cells #[.int .i64 x0, .int .i64 x1] 44)) (w.heap.size + 1 + 1) [.int .i64 x0, .int .i64 x1] := by
    have hh := Blk.new ((w.alloc (.cells #[.int .i64 t.most, .int .i64 t.per, .int .i64 t.mx, .slice t.c0.a t.c0.v.nx t.c0.k, .slice t.c0.b t.c0.v.ny t.c0.l, .slice t.c1.a t.c1.v.nx t.c1.k, .slice t.c1.b t.c1.v.ny t.c1.l, .slice t.c2.a t.c2.v.nx t.c2.k, .slice t.c2.b t.c2.v.ny t.c2.l, .slice t.c3.a t.c3.v.nx t.c3.k, .slice t.c3.b t.c3.v.ny t.c3.l] 26)).alloc (.cells #[.int .i64 sp, .int .i64 tp, .int .i64 lk] 28)) [.int .i64 x0, .int .i64 x1] 44
    have e : (((w.alloc (.cells #[.int .i64 t.most, .int .i64 t.per, .int .i64 t.mx, .slice t.c0.a t.c0.v.nx t.c0.k, .slice t.c0.b t.c0.v.ny t.c0.l, .slice t.c1.a t.c1.v.nx t.c1.k, .slice t.c1.b t.c1.v.ny t.c1.l, .slice t.c2.a t.c2.v.nx t.c2.k, .slice t.c2.b t.c2.v.ny t.c2.l, .slice t.c3.a t.c3.v.nx t.c3.k, .slice t.c3.b t.c3.v.ny t.c3.l] 26)).alloc (.cells #[.int .i64 sp, .int .i64 tp, .int .i64 lk] 28))).heap.size = w.heap.size + 1 + 1 := by simp
    rw [e] at hh
    exact hh
  have HX := Lib.hid X0
  have HE := Lib.hid E0
  clear E0 T0 I0 X0
  go_enter Try.func5, Try.ntmps5
  go_wp2_with fail
  refine (few_any t _).mono ?_
  rintro e w1 ⟨bb, rfl, hx1⟩
  have E1 := HE.out.trans hx1
  have T1 := HT.out.ext hx1
  have I1 := HI.out.ext hx1
  have X1 := HX.out.ext hx1
  have Tc0_1 := T1.at 0 _ rfl
  have Tc1_1 := T1.at 1 _ rfl
  have Tc2_1 := T1.at 2 _ rfl
  have Tc3_1 := T1.at 3 _ rfl
  have Tc4_1 := T1.at 4 _ rfl
  have Tc5_1 := T1.at 5 _ rfl
  have Tc6_1 := T1.at 6 _ rfl
  have Tc7_1 := T1.at 7 _ rfl
  have Tc8_1 := T1.at 8 _ rfl
  have Tc9_1 := T1.at 9 _ rfl
  have Tc10_1 := T1.at 10 _ rfl
  have Tn_1 := T1.lt
  have Ic0_1 := I1.at 0 _ rfl
  have Ic1_1 := I1.at 1 _ rfl
  have Ic2_1 := I1.at 2 _ rfl
  have In_1 := I1.lt
  have Xc0_1 := X1.at 0 _ rfl
  have Xc1_1 := X1.at 1 _ rfl
  have Xn_1 := X1.lt
  cases bb
  · skip
    go_wp2_with fail
    refine (awake36 _).mono ?_
    rintro e wz ⟨rfl, hxz⟩
    go_wp2_with fail
    go_ret
    exact ⟨(by first | rfl | exact ret_true (by simp <;> omega)), (by repeat (first | with_reducible exact Ext.refl _ | with_reducible assumption | (with_reducible refine Ext.drew ?_) | (with_reducible refine Ext.drewN ?_ _) | (with_reducible refine Ext.alloc ?_ _) | (with_reducible refine Ext.setCell ?_ ?_ _) | (with_reducible refine Ext.trans ?_ (by with_reducible assumption)) | omega | (focus (simp <;> omega))))⟩
  · skip
    go_wp2_with fail
    refine (awake36 _).mono ?_
    rintro e w2 ⟨rfl, hx2⟩
    have F2 : Ext w1 w2 := (by repeat (first | with_reducible exact Ext.refl _ | with_reducible assumption | (with_reducible refine Ext.drew ?_) | (with_reducible refine Ext.drewN ?_ _) | (with_reducible refine Ext.alloc ?_ _) | (with_reducible refine Ext.setCell ?_ ?_ _) | (with_reducible refine Ext.trans ?_ (by with_reducible assumption)) | omega | (focus (simp <;> omega))))
    have E2 := E1.trans F2
    have T2 := T1.ext F2
    have I2 := I1.ext F2
    have X2 := X1.ext F2
    clear Tc0_1 Tc1_1 Tc2_1 Tc3_1 Tc4_1 Tc5_1 Tc6_1 Tc7_1 Tc8_1 Tc9_1 Tc10_1 Ic0_1 Ic1_1 Ic2_1 Xc0_1 Xc1_1
    have Tc0_2 := T2.at 0 _ rfl
    have Tc1_2 := T2.at 1 _ rfl
    have Tc2_2 := T2.at 2 _ rfl
    have Tc3_2 := T2.at 3 _ rfl
    have Tc4_2 := T2.at 4 _ rfl
    have Tc5_2 := T2.at 5 _ rfl
    have Tc6_2 := T2.at 6 _ rfl
    have Tc7_2 := T2.at 7 _ rfl
    have Tc8_2 := T2.at 8 _ rfl
    have Tc9_2 := T2.at 9 _ rfl
    have Tc10_2 := T2.at 10 _ rfl
    have Tn_2 := T2.lt
    have Ic0_2 := I2.at 0 _ rfl
    have Ic1_2 := I2.at 1 _ rfl
    have Ic2_2 := I2.at 2 _ rfl
    have In_2 := I2.lt
    have Xc0_2 := X2.at 0 _ rfl
    have Xc1_2 := X2.at 1 _ rfl
    have Xn_2 := X2.lt
    go_wp2_with fail
    refine (tLimit_ok t sp tp lk _ OK.out TK.out (HW.out.ext E2)).mono ?_
    rw [← HL.out]
    rintro e w3 ⟨rfl, hx3⟩
    have F3 : Ext w2 w3 := (by repeat (first | with_reducible exact Ext.refl _ | with_reducible assumption | (with_reducible refine Ext.drew ?_) | (with_reducible refine Ext.drewN ?_ _) | (with_reducible refine Ext.alloc ?_ _) | (with_reducible refine Ext.setCell ?_ ?_ _) | (with_reducible refine Ext.trans ?_ (by with_reducible assumption)) | omega | (focus (simp <;> omega))))
    have E3 := E2.trans F3
    have T3 := T2.ext F3
    have I3 := I2.ext F3
    have X3 := X2.ext F3
    clear Tc0_2 Tc1_2 Tc2_2 Tc3_2 Tc4_2 Tc5_2 Tc6_2 Tc7_2 Tc8_2 Tc9_2 Tc10_2 Ic0_2 Ic1_2 Ic2_2 Xc0_2 Xc1_2
    have Tc0_3 := T3.at 0 _ rfl
    have Tc1_3 := T3.at 1 _ rfl
    have Tc2_3 := T3.at 2 _ rfl
    have Tc3_3 := T3.at 3 _ rfl
    have Tc4_3 := T3.at 4 _ rfl
    have Tc5_3 := T3.at 5 _ rfl
    have Tc6_3 := T3.at 6 _ rfl
    have Tc7_3 := T3.at 7 _ rfl
    have Tc8_3 := T3.at 8 _ rfl
    have Tc9_3 := T3.at 9 _ rfl
    have Tc10_3 := T3.at 10 _ rfl
    have Tn_3 := T3.lt
    have Ic0_3 := I3.at 0 _ rfl
    have Ic1_3 := I3.at 1 _ rfl
    have Ic2_3 := I3.at 2 _ rfl
    have In_3 := I3.lt
    have Xc0_3 := X3.at 0 _ rfl
    have Xc1_3 := X3.at 1 _ rfl
    have Xn_3 := X3.lt
    go_wp2_with fail
    refine (tRefs_ok t x0 sp tp lk _ OK.out TK.out (HW.out.ext E3)).mono ?_
    rw [← HD.out, ← HQ.out]
    rintro e w4 ⟨rfl, hx4⟩
    have F4 : Ext w3 w4 := (by repeat (first | with_reducible exact Ext.refl _ | with_reducible assumption | (with_reducible refine Ext.drew ?_) | (with_reducible refine Ext.drewN ?_ _) | (with_reducible refine Ext.alloc ?_ _) | (with_reducible refine Ext.setCell ?_ ?_ _) | (with_reducible refine Ext.trans ?_ (by with_reducible assumption)) | omega | (focus (simp <;> omega))))
    have E4 := E3.trans F4
    have T4 := T3.ext F4
    have I4 := I3.ext F4
    have X4 := X3.ext F4
    clear Tc0_3 Tc1_3 Tc2_3 Tc3_3 Tc4_3 Tc5_3 Tc6_3 Tc7_3 Tc8_3 Tc9_3 Tc10_3 Ic0_3 Ic1_3 Ic2_3 Xc0_3 Xc1_3
    have Tc0_4 := T4.at 0 _ rfl
    have Tc1_4 := T4.at 1 _ rfl
    have Tc2_4 := T4.at 2 _ rfl
    have Tc3_4 := T4.at 3 _ rfl
    have Tc4_4 := T4.at 4 _ rfl
    have Tc5_4 := T4.at 5 _ rfl
    have Tc6_4 := T4.at 6 _ rfl
    have Tc7_4 := T4.at 7 _ rfl
    have Tc8_4 := T4.at 8 _ rfl
    have Tc9_4 := T4.at 9 _ rfl
    have Tc10_4 := T4.at 10 _ rfl
    have Tn_4 := T4.lt
    have Ic0_4 := I4.at 0 _ rfl
    have Ic1_4 := I4.at 1 _ rfl
    have Ic2_4 := I4.at 2 _ rfl
    have In_4 := I4.lt
    have Xc0_4 := X4.at 0 _ rfl
    have Xc1_4 := X4.at 1 _ rfl
    have Xn_4 := X4.lt
    go_wp2_with fail
    refine (tTorque_ok t x1 _ OK.out TK.out (HW.out.ext (E4.alloc _))).mono ?_
    rw [← HN.out]
    rintro e w5 ⟨rfl, hx5⟩
    have F5 : Ext w4 w5 := (by repeat (first | with_reducible exact Ext.refl _ | with_reducible assumption | (with_reducible refine Ext.drew ?_) | (with_reducible refine Ext.drewN ?_ _) | (with_reducible refine Ext.alloc ?_ _) | (with_reducible refine Ext.setCell ?_ ?_ _) | (with_reducible refine Ext.trans ?_ (by with_reducible assumption)) | omega | (focus (simp <;> omega))))
    have E5 := E4.trans F5
    have T5 := T4.ext F5
    have I5 := I4.ext F5
    have X5 := X4.ext F5
    have D5 := (Blk.new w4 [.int .i64 d, .int .i64 q] 33).ext hx5
    clear Tc0_4 Tc1_4 Tc2_4 Tc3_4 Tc4_4 Tc5_4 Tc6_4 Tc7_4 Tc8_4 Tc9_4 Tc10_4 Ic0_4 Ic1_4 Ic2_4 Xc0_4 Xc1_4
    have Tc0_5 := T5.at 0 _ rfl
    have Tc1_5 := T5.at 1 _ rfl
    have Tc2_5 := T5.at 2 _ rfl
    have Tc3_5 := T5.at 3 _ rfl
    have Tc4_5 := T5.at 4 _ rfl
    have Tc5_5 := T5.at 5 _ rfl
    have Tc6_5 := T5.at 6 _ rfl
    have Tc7_5 := T5.at 7 _ rfl
    have Tc8_5 := T5.at 8 _ rfl
    have Tc9_5 := T5.at 9 _ rfl
    have Tc10_5 := T5.at 10 _ rfl
    have Tn_5 := T5.lt
    have Ic0_5 := I5.at 0 _ rfl
    have Ic1_5 := I5.at 1 _ rfl
    have Ic2_5 := I5.at 2 _ rfl
    have In_5 := I5.lt
    have Xc0_5 := X5.at 0 _ rfl
    have Xc1_5 := X5.at 1 _ rfl
    have Xn_5 := X5.lt
    have Dc0_5 := D5.at 0 _ rfl
    have Dc1_5 := D5.at 1 _ rfl
    have Dn_5 := D5.lt
    go_wp2_with fail
    refine (Limit36_ok t sp tp lk _ OK.out TK.out (HW.out.ext E5) B2.out).mono ?_
    rw [← HL.out]
    rintro e w6 ⟨rfl, hx6⟩
    have F6 : Ext w5 w6 := (by repeat (first | with_reducible exact Ext.refl _ | with_reducible assumption | (with_reducible refine Ext.drew ?_) | (with_reducible refine Ext.drewN ?_ _) | (with_reducible refine Ext.alloc ?_ _) | (with_reducible refine Ext.setCell ?_ ?_ _) | (with_reducible refine Ext.trans ?_ (by with_reducible assumption)) | omega | (focus (simp <;> omega))))
    have E6 := E5.trans F6
    have T6 := T5.ext F6
    have I6 := I5.ext F6
    have X6 := X5.ext F6
    have D6 := D5.ext F6
    clear Tc0_5 Tc1_5 Tc2_5 Tc3_5 Tc4_5 Tc5_5 Tc6_5 Tc7_5 Tc8_5 Tc9_5 Tc10_5 Ic0_5 Ic1_5 Ic2_5 Xc0_5 Xc1_5 Dc0_5 Dc1_5
    have Tc0_6 := T6.at 0 _ rfl
    have Tc1_6 := T6.at 1 _ rfl
    have Tc2_6 := T6.at 2 _ rfl
    have Tc3_6 := T6.at 3 _ rfl
    have Tc4_6 := T6.at 4 _ rfl
    have Tc5_6 := T6.at 5 _ rfl
    have Tc6_6 := T6.at 6 _ rfl
    have Tc7_6 := T6.at 7 _ rfl
    have Tc8_6 := T6.at 8 _ rfl
    have Tc9_6 := T6.at 9 _ rfl
    have Tc10_6 := T6.at 10 _ rfl
    have Tn_6 := T6.lt
    have Ic0_6 := I6.at 0 _ rfl
    have Ic1_6 := I6.at 1 _ rfl
    have Ic2_6 := I6.at 2 _ rfl
    have In_6 := I6.lt
    have Xc0_6 := X6.at 0 _ rfl
    have Xc1_6 := X6.at 1 _ rfl
    have Xn_6 := X6.lt
    have Dc0_6 := D6.at 0 _ rfl
    have Dc1_6 := D6.at 1 _ rfl
    have Dn_6 := D6.lt
    go_wp2_with fail
    refine (Refs36_ok t x0 sp tp lk _ OK.out TK.out (HW.out.ext E6) B2.out).mono ?_
    rw [← HD.out, ← HQ.out]
    rintro e w7 ⟨rfl, hx7⟩
    have F7 : Ext w6 w7 := (by repeat (first | with_reducible exact Ext.refl _ | with_reducible assumption | (with_reducible refine Ext.drew ?_) | (with_reducible refine Ext.drewN ?_ _) | (with_reducible refine Ext.alloc ?_ _) | (with_reducible refine Ext.setCell ?_ ?_ _) | (with_reducible refine Ext.trans ?_ (by with_reducible assumption)) | omega | (focus (simp <;> omega))))
    have E7 := E6.trans F7
    have T7 := T6.ext F7
    have I7 := I6.ext F7
    have X7 := X6.ext F7
    have D7 := D6.ext F7
    clear Tc0_6 Tc1_6 Tc2_6 Tc3_6 Tc4_6 Tc5_6 Tc6_6 Tc7_6 Tc8_6 Tc9_6 Tc10_6 Ic0_6 Ic1_6 Ic2_6 Xc0_6 Xc1_6 Dc0_6 Dc1_6
    have Tc0_7 := T7.at 0 _ rfl
    have Tc1_7 := T7.at 1 _ rfl
    have Tc2_7 := T7.at 2 _ rfl
    have Tc3_7 := T7.at 3 _ rfl
    have Tc4_7 := T7.at 4 _ rfl
    have Tc5_7 := T7.at 5 _ rfl
    have Tc6_7 := T7.at 6 _ rfl
    have Tc7_7 := T7.at 7 _ rfl
    have Tc8_7 := T7.at 8 _ rfl
    have Tc9_7 := T7.at 9 _ rfl
    have Tc10_7 := T7.at 10 _ rfl
    have Tn_7 := T7.lt
    have Ic0_7 := I7.at 0 _ rfl
    have Ic1_7 := I7.at 1 _ rfl
    have Ic2_7 := I7.at 2 _ rfl
    have In_7 := I7.lt
    have Xc0_7 := X7.at 0 _ rfl
    have Xc1_7 := X7.at 1 _ rfl
    have Xn_7 := X7.lt
    have Dc0_7 := D7.at 0 _ rfl
    have Dc1_7 := D7.at 1 _ rfl
    have Dn_7 := D7.lt
    go_wp2_with fail
    refine (Torque36_ok t x1 _ OK.out TK.out (HW.out.ext (E7.alloc _))).mono ?_
    rw [← HN.out]
    rintro e w8 ⟨rfl, hx8⟩
    have F8 : Ext w7 w8 := (by repeat (first | with_reducible exact Ext.refl _ | with_reducible assumption | (with_reducible refine Ext.drew ?_) | (with_reducible refine Ext.drewN ?_ _) | (with_reducible refine Ext.alloc ?_ _) | (with_reducible refine Ext.setCell ?_ ?_ _) | (with_reducible refine Ext.trans ?_ (by with_reducible assumption)) | omega | (focus (simp <;> omega))))
    have E8 := E7.trans F8
    have T8 := T7.ext F8
    have I8 := I7.ext F8
    have X8 := X7.ext F8
    have D8 := D7.ext F8
    have G8 := (Blk.new w7 [.int .i64 d, .int .i64 q] 33).ext hx8
    clear Tc0_7 Tc1_7 Tc2_7 Tc3_7 Tc4_7 Tc5_7 Tc6_7 Tc7_7 Tc8_7 Tc9_7 Tc10_7 Ic0_7 Ic1_7 Ic2_7 Xc0_7 Xc1_7 Dc0_7 Dc1_7
    have Tc0_8 := T8.at 0 _ rfl
    have Tc1_8 := T8.at 1 _ rfl
    have Tc2_8 := T8.at 2 _ rfl
    have Tc3_8 := T8.at 3 _ rfl
    have Tc4_8 := T8.at 4 _ rfl
    have Tc5_8 := T8.at 5 _ rfl
    have Tc6_8 := T8.at 6 _ rfl
    have Tc7_8 := T8.at 7 _ rfl
    have Tc8_8 := T8.at 8 _ rfl
    have Tc9_8 := T8.at 9 _ rfl
    have Tc10_8 := T8.at 10 _ rfl
    have Tn_8 := T8.lt
    have Ic0_8 := I8.at 0 _ rfl
    have Ic1_8 := I8.at 1 _ rfl
    have Ic2_8 := I8.at 2 _ rfl
    have In_8 := I8.lt
    have Xc0_8 := X8.at 0 _ rfl
    have Xc1_8 := X8.at 1 _ rfl
    have Xn_8 := X8.lt
    have Dc0_8 := D8.at 0 _ rfl
    have Dc1_8 := D8.at 1 _ rfl
    have Dn_8 := D8.lt
    have Gc0_8 := G8.at 0 _ rfl
    have Gc1_8 := G8.at 1 _ rfl
    have Gn_8 := G8.lt
    have CK := Lib.hid (fun V (hV : Ext w8 V) => tcheck t V (HW.out.ext (E8.trans hV)))
    have CR := Lib.hid (fun V (hV : Ext w8 V) => check36 t V (HW.out.ext (E8.trans hV)))
    go_wp2_with fail
    go_region_held3 (fun w' => w'.cell? ⟨w.heap.size, 0, none⟩ = some (.int .i64 t.most) ∧ w'.cell? ⟨w.heap.size, 1, none⟩ = some (.int .i64 t.per) ∧ w'.cell? ⟨w.heap.size, 2, none⟩ = some (.int .i64 t.mx) ∧ w'.cell? ⟨w.heap.size, 3, none⟩ = some (.slice t.c0.a t.c0.v.nx t.c0.k) ∧ w'.cell? ⟨w.heap.size, 4, none⟩ = some (.slice t.c0.b t.c0.v.ny t.c0.l) ∧ w'.cell? ⟨w.heap.size, 5, none⟩ = some (.slice t.c1.a t.c1.v.nx t.c1.k) ∧ w'.cell? ⟨w.heap.size, 6, none⟩ = some (.slice t.c1.b t.c1.v.ny t.c1.l) ∧ w'.cell? ⟨w.heap.size, 7, none⟩ = some (.slice t.c2.a t.c2.v.nx t.c2.k) ∧ w'.cell? ⟨w.heap.size, 8, none⟩ = some (.slice t.c2.b t.c2.v.ny t.c2.l) ∧ w'.cell? ⟨w.heap.size, 9, none⟩ = some (.slice t.c3.a t.c3.v.nx t.c3.k) ∧ w'.cell? ⟨w.heap.size, 10, none⟩ = some (.slice t.c3.b t.c3.v.ny t.c3.l) ∧ w'.cell? ⟨w4.heap.size, 0, none⟩ = some (.int .i64 d) ∧ w'.cell? ⟨w4.heap.size, 1, none⟩ = some (.int .i64 q) ∧ w'.cell? ⟨w7.heap.size, 0, none⟩ = some (.int .i64 d) ∧ w'.cell? ⟨w7.heap.size, 1, none⟩ = some (.int .i64 q)) ((refine ⟨?_, ?_, ?_, ?_, ?_, ?_, ?_, ?_, ?_, ?_, ?_, ?_, ?_, ?_, ?_⟩ <;> assumption))
      (first | (go_at_call 21; (with_reducible refine (CK.out _ ?_).mono ?_); (exact (by repeat (first | with_reducible exact Ext.refl _ | with_reducible assumption | (with_reducible refine Ext.drew ?_) | (with_reducible refine Ext.drewN ?_ _) | (with_reducible refine Ext.alloc ?_ _) | (with_reducible refine Ext.setCell ?_ ?_ _) | (with_reducible refine Ext.trans ?_ (by with_reducible assumption)) | omega | (focus (simp <;> omega))))); rw [TK.out, errv_0]; rintro e w9 ⟨rfl, hx9⟩; have F9 : Ext w8 w9 := (by repeat (first | with_reducible exact Ext.refl _ | with_reducible assumption | (with_reducible refine Ext.drew ?_) | (with_reducible refine Ext.drewN ?_ _) | (with_reducible refine Ext.alloc ?_ _) | (with_reducible refine Ext.setCell ?_ ?_ _) | (with_reducible refine Ext.trans ?_ (by with_reducible assumption)) | omega | (focus (simp <;> omega)))); have k0 := (T8.ext F9).at 0 _ rfl; have k1 := (T8.ext F9).at 1 _ rfl; have k2 := (T8.ext F9).at 2 _ rfl; have k3 := (T8.ext F9).at 3 _ rfl; have k4 := (T8.ext F9).at 4 _ rfl; have k5 := (T8.ext F9).at 5 _ rfl; have k6 := (T8.ext F9).at 6 _ rfl; have k7 := (T8.ext F9).at 7 _ rfl; have k8 := (T8.ext F9).at 8 _ rfl; have k9 := (T8.ext F9).at 9 _ rfl; have k10 := (T8.ext F9).at 10 _ rfl; have Dk0 := (D8.ext F9).at 0 _ rfl; have Dk1 := (D8.ext F9).at 1 _ rfl; have Gk0 := (G8.ext F9).at 0 _ rfl; have Gk1 := (G8.ext F9).at 1 _ rfl) | (go_at_call 10; (with_reducible refine (CR.out _ ?_).mono ?_); (exact (by repeat (first | with_reducible exact Ext.refl _ | with_reducible assumption | (with_reducible refine Ext.drew ?_) | (with_reducible refine Ext.drewN ?_ _) | (with_reducible refine Ext.alloc ?_ _) | (with_reducible refine Ext.setCell ?_ ?_ _) | (with_reducible refine Ext.trans ?_ (by with_reducible assumption)) | omega | (focus (simp <;> omega))))); rw [TK.out]; rintro e w9 ⟨rfl, hx9⟩; have F9 : Ext w8 w9 := (by repeat (first | with_reducible exact Ext.refl _ | with_reducible assumption | (with_reducible refine Ext.drew ?_) | (with_reducible refine Ext.drewN ?_ _) | (with_reducible refine Ext.alloc ?_ _) | (with_reducible refine Ext.setCell ?_ ?_ _) | (with_reducible refine Ext.trans ?_ (by with_reducible assumption)) | omega | (focus (simp <;> omega)))); have k0 := (T8.ext F9).at 0 _ rfl; have k1 := (T8.ext F9).at 1 _ rfl; have k2 := (T8.ext F9).at 2 _ rfl; have k3 := (T8.ext F9).at 3 _ rfl; have k4 := (T8.ext F9).at 4 _ rfl; have k5 := (T8.ext F9).at 5 _ rfl; have k6 := (T8.ext F9).at 6 _ rfl; have k7 := (T8.ext F9).at 7 _ rfl; have k8 := (T8.ext F9).at 8 _ rfl; have k9 := (T8.ext F9).at 9 _ rfl; have k10 := (T8.ext F9).at 10 _ rfl; have Dk0 := (D8.ext F9).at 0 _ rfl; have Dk1 := (D8.ext F9).at 1 _ rfl; have Gk0 := (G8.ext F9).at 0 _ rfl; have Gk1 := (G8.ext F9).at 1 _ rfl) | (go_at_call 20; refine (num_nil _).mono ?_; rintro e w9 ⟨rfl, rfl⟩))
    all_goals
      go_wp2_with fail
      go_ret
      exact ⟨(by first | rfl | exact ret_true (by simp <;> omega)), E8.trans F9⟩

set_option maxRecDepth 100000 in
set_option maxHeartbeats 4000000 in
theorem walk_bad (t : Tc) (sp tp lk : Int) (b1 : I64 sp) (b2 : I64 tp) (b3 : I64 lk) (x0 x1 : Int) (b4 : I64 x0) (b5 : I64 x1) (w : World) (hk : tck t ≠ 0) (hw : TcAt w t) :
    Calls Try.prog 5 #[.agg #[.int .i64 t.most, .int .i64 t.per, .int .i64 t.mx, .slice t.c0.a t.c0.v.nx t.c0.k, .slice t.c0.b t.c0.v.ny t.c0.l, .slice t.c1.a t.c1.v.nx t.c1.k, .slice t.c1.b t.c1.v.ny t.c1.l, .slice t.c2.a t.c2.v.nx t.c2.k, .slice t.c2.b t.c2.v.ny t.c2.l, .slice t.c3.a t.c3.v.nx t.c3.k, .slice t.c3.b t.c3.v.ny t.c3.l], .agg #[.int .i64 sp, .int .i64 tp, .int .i64 lk], .agg #[.int .i64 x0, .int .i64 x1]] w fun e w' => e = .returned (.bool true) ∧ Ext w w' := by
  have B2 := Lib.hid b2
  have HW := Lib.hid hw
  have TK := Lib.hid hk
  have he : errv (tck t) = .iface 64 (.int .i64 (tck t)) := by unfold errv; rw [if_neg hk]
  obtain ⟨r, hr⟩ : ∃ r, r = tck t := ⟨_, rfl⟩
  rw [← hr] at he
  have EV := Lib.hid he
  have RR := Lib.hid hr
  have heq := eql_dq 0 0
  clear he hr hk hw b1 b2 b3 b4 b5
  have E0 : Ext w (((w.alloc (.cells #[.int .i64 t.most, .int .i64 t.per, .int .i64 t.mx, .slice t.c0.a t.c0.v.nx t.c0.k, .slice t.c0.b t.c0.v.ny t.c0.l, .slice t.c1.a t.c1.v.nx t.c1.k, .slice t.c1.b t.c1.v.ny t.c1.l, .slice t.c2.a t.c2.v.nx t.c2.k, .slice t.c2.b t.c2.v.ny t.c2.l, .slice t.c3.a t.c3.v.nx t.c3.k, .slice t.c3.b t.c3.v.ny t.c3.l] 26)).alloc (.cells #[.int .i64 sp, .int .i64 tp, .int .i64 lk] 28)).alloc (.cells #[.int .i64 x0, .int .i64 x1] 44)) := (((Ext.refl w).alloc _).alloc _).alloc _
  have T0 : Blk (((w.alloc (.cells #[.int .i64 t.most, .int .i64 t.per, .int .i64 t.mx, .slice t.c0.a t.c0.v.nx t.c0.k, .slice t.c0.b t.c0.v.ny t.c0.l, .slice t.c1.a t.c1.v.nx t.c1.k, .slice t.c1.b t.c1.v.ny t.c1.l, .slice t.c2.a t.c2.v.nx t.c2.k, .slice t.c2.b t.c2.v.ny t.c2.l, .slice t.c3.a t.c3.v.nx t.c3.k, .slice t.c3.b t.c3.v.ny t.c3.l] 26)).alloc (.cells #[.int .i64 sp, .int .i64 tp, .int .i64 lk] 28)).alloc (.cells #[.int .i64 x0, .int .i64 x1] 44)) (w.heap.size) [.int .i64 t.most, .int .i64 t.per, .int .i64 t.mx, .slice t.c0.a t.c0.v.nx t.c0.k, .slice t.c0.b t.c0.v.ny t.c0.l, .slice t.c1.a t.c1.v.nx t.c1.k, .slice t.c1.b t.c1.v.ny t.c1.l, .slice t.c2.a t.c2.v.nx t.c2.k, .slice t.c2.b t.c2.v.ny t.c2.l, .slice t.c3.a t.c3.v.nx t.c3.k, .slice t.c3.b t.c3.v.ny t.c3.l] := by
    have hh := Blk.new w [.int .i64 t.most, .int .i64 t.per, .int .i64 t.mx, .slice t.c0.a t.c0.v.nx t.c0.k, .slice t.c0.b t.c0.v.ny t.c0.l, .slice t.c1.a t.c1.v.nx t.c1.k, .slice t.c1.b t.c1.v.ny t.c1.l, .slice t.c2.a t.c2.v.nx t.c2.k, .slice t.c2.b t.c2.v.ny t.c2.l, .slice t.c3.a t.c3.v.nx t.c3.k, .slice t.c3.b t.c3.v.ny t.c3.l] 26
    have e : (w).heap.size = w.heap.size := by simp
    rw [e] at hh
    exact (hh.alloc _).alloc _
  have HT := Lib.hid T0
  have I0 : Blk (((w.alloc (.cells #[.int .i64 t.most, .int .i64 t.per, .int .i64 t.mx, .slice t.c0.a t.c0.v.nx t.c0.k, .slice t.c0.b t.c0.v.ny t.c0.l, .slice t.c1.a t.c1.v.nx t.c1.k, .slice t.c1.b t.c1.v.ny t.c1.l, .slice t.c2.a t.c2.v.nx t.c2.k, .slice t.c2.b t.c2.v.ny t.c2.l, .slice t.c3.a t.c3.v.nx t.c3.k, .slice t.c3.b t.c3.v.ny t.c3.l] 26)).alloc (.cells #[.int .i64 sp, .int .i64 tp, .int .i64 lk] 28)).alloc (.cells #[.int .i64 x0, .int .i64 x1] 44)) (w.heap.size + 1) [.int .i64 sp, .int .i64 tp, .int .i64 lk] := by
    have hh := Blk.new (w.alloc (.cells #[.int .i64 t.most, .int .i64 t.per, .int .i64 t.mx, .slice t.c0.a t.c0.v.nx t.c0.k, .slice t.c0.b t.c0.v.ny t.c0.l, .slice t.c1.a t.c1.v.nx t.c1.k, .slice t.c1.b t.c1.v.ny t.c1.l, .slice t.c2.a t.c2.v.nx t.c2.k, .slice t.c2.b t.c2.v.ny t.c2.l, .slice t.c3.a t.c3.v.nx t.c3.k, .slice t.c3.b t.c3.v.ny t.c3.l] 26)) [.int .i64 sp, .int .i64 tp, .int .i64 lk] 28
    have e : ((w.alloc (.cells #[.int .i64 t.most, .int .i64 t.per, .int .i64 t.mx, .slice t.c0.a t.c0.v.nx t.c0.k, .slice t.c0.b t.c0.v.ny t.c0.l, .slice t.c1.a t.c1.v.nx t.c1.k, .slice t.c1.b t.c1.v.ny t.c1.l, .slice t.c2.a t.c2.v.nx t.c2.k, .slice t.c2.b t.c2.v.ny t.c2.l, .slice t.c3.a t.c3.v.nx t.c3.k, .slice t.c3.b t.c3.v.ny t.c3.l] 26))).heap.size = w.heap.size + 1 := by simp
    rw [e] at hh
    exact hh.alloc _
  have HI := Lib.hid I0
  have X0 : Blk (((w.alloc (.cells #[.int .i64 t.most, .int .i64 t.per, .int .i64 t.mx, .slice t.c0.a t.c0.v.nx t.c0.k, .slice t.c0.b t.c0.v.ny t.c0.l, .slice t.c1.a t.c1.v.nx t.c1.k, .slice t.c1.b t.c1.v.ny t.c1.l, .slice t.c2.a t.c2.v.nx t.c2.k, .slice t.c2.b t.c2.v.ny t.c2.l, .slice t.c3.a t.c3.v.nx t.c3.k, .slice t.c3.b t.c3.v.ny t.c3.l] 26)).alloc (.cells #[.int .i64 sp, .int .i64 tp, .int .i64 lk] 28)).alloc (.cells #[.int .i64 x0, .int .i64 x1] 44)) (w.heap.size + 1 + 1) [.int .i64 x0, .int .i64 x1] := by
    have hh := Blk.new ((w.alloc (.cells #[.int .i64 t.most, .int .i64 t.per, .int .i64 t.mx, .slice t.c0.a t.c0.v.nx t.c0.k, .slice t.c0.b t.c0.v.ny t.c0.l, .slice t.c1.a t.c1.v.nx t.c1.k, .slice t.c1.b t.c1.v.ny t.c1.l, .slice t.c2.a t.c2.v.nx t.c2.k, .slice t.c2.b t.c2.v.ny t.c2.l, .slice t.c3.a t.c3.v.nx t.c3.k, .slice t.c3.b t.c3.v.ny t.c3.l] 26)).alloc (.cells #[.int .i64 sp, .int .i64 tp, .int .i64 lk] 28)) [.int .i64 x0, .int .i64 x1] 44
    have e : (((w.alloc (.cells #[.int .i64 t.most, .int .i64 t.per, .int .i64 t.mx, .slice t.c0.a t.c0.v.nx t.c0.k, .slice t.c0.b t.c0.v.ny t.c0.l, .slice t.c1.a t.c1.v.nx t.c1.k, .slice t.c1.b t.c1.v.ny t.c1.l, .slice t.c2.a t.c2.v.nx t.c2.k, .slice t.c2.b t.c2.v.ny t.c2.l, .slice t.c3.a t.c3.v.nx t.c3.k, .slice t.c3.b t.c3.v.ny t.c3.l] 26)).alloc (.cells #[.int .i64 sp, .int .i64 tp, .int .i64 lk] 28))).heap.size = w.heap.size + 1 + 1 := by simp
    rw [e] at hh
    exact hh
  have HX := Lib.hid X0
  have HE := Lib.hid E0
  clear E0 T0 I0 X0
  go_enter Try.func5, Try.ntmps5
  go_wp2_with fail
  refine (few_any t _).mono ?_
  rintro e w1 ⟨bb, rfl, hx1⟩
  have E1 := HE.out.trans hx1
  have T1 := HT.out.ext hx1
  have I1 := HI.out.ext hx1
  have X1 := HX.out.ext hx1
  have Tc0_1 := T1.at 0 _ rfl
  have Tc1_1 := T1.at 1 _ rfl
  have Tc2_1 := T1.at 2 _ rfl
  have Tc3_1 := T1.at 3 _ rfl
  have Tc4_1 := T1.at 4 _ rfl
  have Tc5_1 := T1.at 5 _ rfl
  have Tc6_1 := T1.at 6 _ rfl
  have Tc7_1 := T1.at 7 _ rfl
  have Tc8_1 := T1.at 8 _ rfl
  have Tc9_1 := T1.at 9 _ rfl
  have Tc10_1 := T1.at 10 _ rfl
  have Tn_1 := T1.lt
  have Ic0_1 := I1.at 0 _ rfl
  have Ic1_1 := I1.at 1 _ rfl
  have Ic2_1 := I1.at 2 _ rfl
  have In_1 := I1.lt
  have Xc0_1 := X1.at 0 _ rfl
  have Xc1_1 := X1.at 1 _ rfl
  have Xn_1 := X1.lt
  cases bb
  · skip
    go_wp2_with fail
    refine (awake36 _).mono ?_
    rintro e wz ⟨rfl, hxz⟩
    go_wp2_with fail
    go_ret
    exact ⟨(by first | rfl | exact ret_true (by simp <;> omega)), (by repeat (first | with_reducible exact Ext.refl _ | with_reducible assumption | (with_reducible refine Ext.drew ?_) | (with_reducible refine Ext.drewN ?_ _) | (with_reducible refine Ext.alloc ?_ _) | (with_reducible refine Ext.setCell ?_ ?_ _) | (with_reducible refine Ext.trans ?_ (by with_reducible assumption)) | omega | (focus (simp <;> omega))))⟩
  · skip
    go_wp2_with fail
    refine (awake36 _).mono ?_
    rintro e w2 ⟨rfl, hx2⟩
    have F2 : Ext w1 w2 := (by repeat (first | with_reducible exact Ext.refl _ | with_reducible assumption | (with_reducible refine Ext.drew ?_) | (with_reducible refine Ext.drewN ?_ _) | (with_reducible refine Ext.alloc ?_ _) | (with_reducible refine Ext.setCell ?_ ?_ _) | (with_reducible refine Ext.trans ?_ (by with_reducible assumption)) | omega | (focus (simp <;> omega))))
    have E2 := E1.trans F2
    have T2 := T1.ext F2
    have I2 := I1.ext F2
    have X2 := X1.ext F2
    clear Tc0_1 Tc1_1 Tc2_1 Tc3_1 Tc4_1 Tc5_1 Tc6_1 Tc7_1 Tc8_1 Tc9_1 Tc10_1 Ic0_1 Ic1_1 Ic2_1 Xc0_1 Xc1_1
    have Tc0_2 := T2.at 0 _ rfl
    have Tc1_2 := T2.at 1 _ rfl
    have Tc2_2 := T2.at 2 _ rfl
    have Tc3_2 := T2.at 3 _ rfl
    have Tc4_2 := T2.at 4 _ rfl
    have Tc5_2 := T2.at 5 _ rfl
    have Tc6_2 := T2.at 6 _ rfl
    have Tc7_2 := T2.at 7 _ rfl
    have Tc8_2 := T2.at 8 _ rfl
    have Tc9_2 := T2.at 9 _ rfl
    have Tc10_2 := T2.at 10 _ rfl
    have Tn_2 := T2.lt
    have Ic0_2 := I2.at 0 _ rfl
    have Ic1_2 := I2.at 1 _ rfl
    have Ic2_2 := I2.at 2 _ rfl
    have In_2 := I2.lt
    have Xc0_2 := X2.at 0 _ rfl
    have Xc1_2 := X2.at 1 _ rfl
    have Xn_2 := X2.lt
    go_wp2_with fail
    refine (tLimit_bad t sp tp lk _ TK.out (HW.out.ext E2)).mono ?_
    rw [← RR.out, EV.out]
    rintro e w3 ⟨rfl, hx3⟩
    have F3 : Ext w2 w3 := (by repeat (first | with_reducible exact Ext.refl _ | with_reducible assumption | (with_reducible refine Ext.drew ?_) | (with_reducible refine Ext.drewN ?_ _) | (with_reducible refine Ext.alloc ?_ _) | (with_reducible refine Ext.setCell ?_ ?_ _) | (with_reducible refine Ext.trans ?_ (by with_reducible assumption)) | omega | (focus (simp <;> omega))))
    have E3 := E2.trans F3
    have T3 := T2.ext F3
    have I3 := I2.ext F3
    have X3 := X2.ext F3
    clear Tc0_2 Tc1_2 Tc2_2 Tc3_2 Tc4_2 Tc5_2 Tc6_2 Tc7_2 Tc8_2 Tc9_2 Tc10_2 Ic0_2 Ic1_2 Ic2_2 Xc0_2 Xc1_2
    have Tc0_3 := T3.at 0 _ rfl
    have Tc1_3 := T3.at 1 _ rfl
    have Tc2_3 := T3.at 2 _ rfl
    have Tc3_3 := T3.at 3 _ rfl
    have Tc4_3 := T3.at 4 _ rfl
    have Tc5_3 := T3.at 5 _ rfl
    have Tc6_3 := T3.at 6 _ rfl
    have Tc7_3 := T3.at 7 _ rfl
    have Tc8_3 := T3.at 8 _ rfl
    have Tc9_3 := T3.at 9 _ rfl
    have Tc10_3 := T3.at 10 _ rfl
    have Tn_3 := T3.lt
    have Ic0_3 := I3.at 0 _ rfl
    have Ic1_3 := I3.at 1 _ rfl
    have Ic2_3 := I3.at 2 _ rfl
    have In_3 := I3.lt
    have Xc0_3 := X3.at 0 _ rfl
    have Xc1_3 := X3.at 1 _ rfl
    have Xn_3 := X3.lt
    go_wp2_with fail
    refine (tRefs_bad t x0 sp tp lk _ TK.out (HW.out.ext E3)).mono ?_
    rw [← RR.out, EV.out]
    rintro e w4 ⟨rfl, hx4⟩
    have F4 : Ext w3 w4 := (by repeat (first | with_reducible exact Ext.refl _ | with_reducible assumption | (with_reducible refine Ext.drew ?_) | (with_reducible refine Ext.drewN ?_ _) | (with_reducible refine Ext.alloc ?_ _) | (with_reducible refine Ext.setCell ?_ ?_ _) | (with_reducible refine Ext.trans ?_ (by with_reducible assumption)) | omega | (focus (simp <;> omega))))
    have E4 := E3.trans F4
    have T4 := T3.ext F4
    have I4 := I3.ext F4
    have X4 := X3.ext F4
    clear Tc0_3 Tc1_3 Tc2_3 Tc3_3 Tc4_3 Tc5_3 Tc6_3 Tc7_3 Tc8_3 Tc9_3 Tc10_3 Ic0_3 Ic1_3 Ic2_3 Xc0_3 Xc1_3
    have Tc0_4 := T4.at 0 _ rfl
    have Tc1_4 := T4.at 1 _ rfl
    have Tc2_4 := T4.at 2 _ rfl
    have Tc3_4 := T4.at 3 _ rfl
    have Tc4_4 := T4.at 4 _ rfl
    have Tc5_4 := T4.at 5 _ rfl
    have Tc6_4 := T4.at 6 _ rfl
    have Tc7_4 := T4.at 7 _ rfl
    have Tc8_4 := T4.at 8 _ rfl
    have Tc9_4 := T4.at 9 _ rfl
    have Tc10_4 := T4.at 10 _ rfl
    have Tn_4 := T4.lt
    have Ic0_4 := I4.at 0 _ rfl
    have Ic1_4 := I4.at 1 _ rfl
    have Ic2_4 := I4.at 2 _ rfl
    have In_4 := I4.lt
    have Xc0_4 := X4.at 0 _ rfl
    have Xc1_4 := X4.at 1 _ rfl
    have Xn_4 := X4.lt
    go_wp2_with fail
    refine (tTorque_bad t x1 _ TK.out (HW.out.ext (E4.alloc _))).mono ?_
    rw [← RR.out, EV.out]
    rintro e w5 ⟨rfl, hx5⟩
    have F5 : Ext w4 w5 := (by repeat (first | with_reducible exact Ext.refl _ | with_reducible assumption | (with_reducible refine Ext.drew ?_) | (with_reducible refine Ext.drewN ?_ _) | (with_reducible refine Ext.alloc ?_ _) | (with_reducible refine Ext.setCell ?_ ?_ _) | (with_reducible refine Ext.trans ?_ (by with_reducible assumption)) | omega | (focus (simp <;> omega))))
    have E5 := E4.trans F5
    have T5 := T4.ext F5
    have I5 := I4.ext F5
    have X5 := X4.ext F5
    have D5 := (Blk.new w4 [.int .i64 0, .int .i64 0] 33).ext hx5
    clear Tc0_4 Tc1_4 Tc2_4 Tc3_4 Tc4_4 Tc5_4 Tc6_4 Tc7_4 Tc8_4 Tc9_4 Tc10_4 Ic0_4 Ic1_4 Ic2_4 Xc0_4 Xc1_4
    have Tc0_5 := T5.at 0 _ rfl
    have Tc1_5 := T5.at 1 _ rfl
    have Tc2_5 := T5.at 2 _ rfl
    have Tc3_5 := T5.at 3 _ rfl
    have Tc4_5 := T5.at 4 _ rfl
    have Tc5_5 := T5.at 5 _ rfl
    have Tc6_5 := T5.at 6 _ rfl
    have Tc7_5 := T5.at 7 _ rfl
    have Tc8_5 := T5.at 8 _ rfl
    have Tc9_5 := T5.at 9 _ rfl
    have Tc10_5 := T5.at 10 _ rfl
    have Tn_5 := T5.lt
    have Ic0_5 := I5.at 0 _ rfl
    have Ic1_5 := I5.at 1 _ rfl
    have Ic2_5 := I5.at 2 _ rfl
    have In_5 := I5.lt
    have Xc0_5 := X5.at 0 _ rfl
    have Xc1_5 := X5.at 1 _ rfl
    have Xn_5 := X5.lt
    have Dc0_5 := D5.at 0 _ rfl
    have Dc1_5 := D5.at 1 _ rfl
    have Dn_5 := D5.lt
    go_wp2_with fail
    refine (Limit36_bad t sp tp lk _ TK.out (HW.out.ext E5)).mono ?_
    rw [← RR.out]
    rintro e w6 ⟨rfl, hx6⟩
    have F6 : Ext w5 w6 := (by repeat (first | with_reducible exact Ext.refl _ | with_reducible assumption | (with_reducible refine Ext.drew ?_) | (with_reducible refine Ext.drewN ?_ _) | (with_reducible refine Ext.alloc ?_ _) | (with_reducible refine Ext.setCell ?_ ?_ _) | (with_reducible refine Ext.trans ?_ (by with_reducible assumption)) | omega | (focus (simp <;> omega))))
    have E6 := E5.trans F6
    have T6 := T5.ext F6
    have I6 := I5.ext F6
    have X6 := X5.ext F6
    have D6 := D5.ext F6
    clear Tc0_5 Tc1_5 Tc2_5 Tc3_5 Tc4_5 Tc5_5 Tc6_5 Tc7_5 Tc8_5 Tc9_5 Tc10_5 Ic0_5 Ic1_5 Ic2_5 Xc0_5 Xc1_5 Dc0_5 Dc1_5
    have Tc0_6 := T6.at 0 _ rfl
    have Tc1_6 := T6.at 1 _ rfl
    have Tc2_6 := T6.at 2 _ rfl
    have Tc3_6 := T6.at 3 _ rfl
    have Tc4_6 := T6.at 4 _ rfl
    have Tc5_6 := T6.at 5 _ rfl
    have Tc6_6 := T6.at 6 _ rfl
    have Tc7_6 := T6.at 7 _ rfl
    have Tc8_6 := T6.at 8 _ rfl
    have Tc9_6 := T6.at 9 _ rfl
    have Tc10_6 := T6.at 10 _ rfl
    have Tn_6 := T6.lt
    have Ic0_6 := I6.at 0 _ rfl
    have Ic1_6 := I6.at 1 _ rfl
    have Ic2_6 := I6.at 2 _ rfl
    have In_6 := I6.lt
    have Xc0_6 := X6.at 0 _ rfl
    have Xc1_6 := X6.at 1 _ rfl
    have Xn_6 := X6.lt
    have Dc0_6 := D6.at 0 _ rfl
    have Dc1_6 := D6.at 1 _ rfl
    have Dn_6 := D6.lt
    go_wp2_with fail
    refine (Refs36_bad t x0 sp tp lk _ TK.out (HW.out.ext E6)).mono ?_
    rw [← RR.out]
    rintro e w7 ⟨rfl, hx7⟩
    have F7 : Ext w6 w7 := (by repeat (first | with_reducible exact Ext.refl _ | with_reducible assumption | (with_reducible refine Ext.drew ?_) | (with_reducible refine Ext.drewN ?_ _) | (with_reducible refine Ext.alloc ?_ _) | (with_reducible refine Ext.setCell ?_ ?_ _) | (with_reducible refine Ext.trans ?_ (by with_reducible assumption)) | omega | (focus (simp <;> omega))))
    have E7 := E6.trans F7
    have T7 := T6.ext F7
    have I7 := I6.ext F7
    have X7 := X6.ext F7
    have D7 := D6.ext F7
    clear Tc0_6 Tc1_6 Tc2_6 Tc3_6 Tc4_6 Tc5_6 Tc6_6 Tc7_6 Tc8_6 Tc9_6 Tc10_6 Ic0_6 Ic1_6 Ic2_6 Xc0_6 Xc1_6 Dc0_6 Dc1_6
    have Tc0_7 := T7.at 0 _ rfl
    have Tc1_7 := T7.at 1 _ rfl
    have Tc2_7 := T7.at 2 _ rfl
    have Tc3_7 := T7.at 3 _ rfl
    have Tc4_7 := T7.at 4 _ rfl
    have Tc5_7 := T7.at 5 _ rfl
    have Tc6_7 := T7.at 6 _ rfl
    have Tc7_7 := T7.at 7 _ rfl
    have Tc8_7 := T7.at 8 _ rfl
    have Tc9_7 := T7.at 9 _ rfl
    have Tc10_7 := T7.at 10 _ rfl
    have Tn_7 := T7.lt
    have Ic0_7 := I7.at 0 _ rfl
    have Ic1_7 := I7.at 1 _ rfl
    have Ic2_7 := I7.at 2 _ rfl
    have In_7 := I7.lt
    have Xc0_7 := X7.at 0 _ rfl
    have Xc1_7 := X7.at 1 _ rfl
    have Xn_7 := X7.lt
    have Dc0_7 := D7.at 0 _ rfl
    have Dc1_7 := D7.at 1 _ rfl
    have Dn_7 := D7.lt
    go_wp2_with fail
    refine (Torque36_bad t x1 _ TK.out (HW.out.ext (E7.alloc _))).mono ?_
    rw [← RR.out]
    rintro e w8 ⟨rfl, hx8⟩
    have F8 : Ext w7 w8 := (by repeat (first | with_reducible exact Ext.refl _ | with_reducible assumption | (with_reducible refine Ext.drew ?_) | (with_reducible refine Ext.drewN ?_ _) | (with_reducible refine Ext.alloc ?_ _) | (with_reducible refine Ext.setCell ?_ ?_ _) | (with_reducible refine Ext.trans ?_ (by with_reducible assumption)) | omega | (focus (simp <;> omega))))
    have E8 := E7.trans F8
    have T8 := T7.ext F8
    have I8 := I7.ext F8
    have X8 := X7.ext F8
    have D8 := D7.ext F8
    have G8 := (Blk.new w7 [.int .i64 0, .int .i64 0] 33).ext hx8
    clear Tc0_7 Tc1_7 Tc2_7 Tc3_7 Tc4_7 Tc5_7 Tc6_7 Tc7_7 Tc8_7 Tc9_7 Tc10_7 Ic0_7 Ic1_7 Ic2_7 Xc0_7 Xc1_7 Dc0_7 Dc1_7
    have Tc0_8 := T8.at 0 _ rfl
    have Tc1_8 := T8.at 1 _ rfl
    have Tc2_8 := T8.at 2 _ rfl
    have Tc3_8 := T8.at 3 _ rfl
    have Tc4_8 := T8.at 4 _ rfl
    have Tc5_8 := T8.at 5 _ rfl
    have Tc6_8 := T8.at 6 _ rfl
    have Tc7_8 := T8.at 7 _ rfl
    have Tc8_8 := T8.at 8 _ rfl
    have Tc9_8 := T8.at 9 _ rfl
    have Tc10_8 := T8.at 10 _ rfl
    have Tn_8 := T8.lt
    have Ic0_8 := I8.at 0 _ rfl
    have Ic1_8 := I8.at 1 _ rfl
    have Ic2_8 := I8.at 2 _ rfl
    have In_8 := I8.lt
    have Xc0_8 := X8.at 0 _ rfl
    have Xc1_8 := X8.at 1 _ rfl
    have Xn_8 := X8.lt
    have Dc0_8 := D8.at 0 _ rfl
    have Dc1_8 := D8.at 1 _ rfl
    have Dn_8 := D8.lt
    have Gc0_8 := G8.at 0 _ rfl
    have Gc1_8 := G8.at 1 _ rfl
    have Gn_8 := G8.lt
    have CK := Lib.hid (fun V (hV : Ext w8 V) => tcheck t V (HW.out.ext (E8.trans hV)))
    have CR := Lib.hid (fun V (hV : Ext w8 V) => check36 t V (HW.out.ext (E8.trans hV)))
    go_wp2_with fail
    go_region_held3 (fun w' => w'.cell? ⟨w.heap.size, 0, none⟩ = some (.int .i64 t.most) ∧ w'.cell? ⟨w.heap.size, 1, none⟩ = some (.int .i64 t.per) ∧ w'.cell? ⟨w.heap.size, 2, none⟩ = some (.int .i64 t.mx) ∧ w'.cell? ⟨w.heap.size, 3, none⟩ = some (.slice t.c0.a t.c0.v.nx t.c0.k) ∧ w'.cell? ⟨w.heap.size, 4, none⟩ = some (.slice t.c0.b t.c0.v.ny t.c0.l) ∧ w'.cell? ⟨w.heap.size, 5, none⟩ = some (.slice t.c1.a t.c1.v.nx t.c1.k) ∧ w'.cell? ⟨w.heap.size, 6, none⟩ = some (.slice t.c1.b t.c1.v.ny t.c1.l) ∧ w'.cell? ⟨w.heap.size, 7, none⟩ = some (.slice t.c2.a t.c2.v.nx t.c2.k) ∧ w'.cell? ⟨w.heap.size, 8, none⟩ = some (.slice t.c2.b t.c2.v.ny t.c2.l) ∧ w'.cell? ⟨w.heap.size, 9, none⟩ = some (.slice t.c3.a t.c3.v.nx t.c3.k) ∧ w'.cell? ⟨w.heap.size, 10, none⟩ = some (.slice t.c3.b t.c3.v.ny t.c3.l) ∧ w'.cell? ⟨w4.heap.size, 0, none⟩ = some (.int .i64 0) ∧ w'.cell? ⟨w4.heap.size, 1, none⟩ = some (.int .i64 0) ∧ w'.cell? ⟨w7.heap.size, 0, none⟩ = some (.int .i64 0) ∧ w'.cell? ⟨w7.heap.size, 1, none⟩ = some (.int .i64 0)) ((refine ⟨?_, ?_, ?_, ?_, ?_, ?_, ?_, ?_, ?_, ?_, ?_, ?_, ?_, ?_, ?_⟩ <;> assumption))
      (first | (go_at_call 21; (with_reducible refine (CK.out _ ?_).mono ?_); (exact (by repeat (first | with_reducible exact Ext.refl _ | with_reducible assumption | (with_reducible refine Ext.drew ?_) | (with_reducible refine Ext.drewN ?_ _) | (with_reducible refine Ext.alloc ?_ _) | (with_reducible refine Ext.setCell ?_ ?_ _) | (with_reducible refine Ext.trans ?_ (by with_reducible assumption)) | omega | (focus (simp <;> omega))))); rw [← RR.out, EV.out]; rintro e w9 ⟨rfl, hx9⟩; have F9 : Ext w8 w9 := (by repeat (first | with_reducible exact Ext.refl _ | with_reducible assumption | (with_reducible refine Ext.drew ?_) | (with_reducible refine Ext.drewN ?_ _) | (with_reducible refine Ext.alloc ?_ _) | (with_reducible refine Ext.setCell ?_ ?_ _) | (with_reducible refine Ext.trans ?_ (by with_reducible assumption)) | omega | (focus (simp <;> omega)))); have k0 := (T8.ext F9).at 0 _ rfl; have k1 := (T8.ext F9).at 1 _ rfl; have k2 := (T8.ext F9).at 2 _ rfl; have k3 := (T8.ext F9).at 3 _ rfl; have k4 := (T8.ext F9).at 4 _ rfl; have k5 := (T8.ext F9).at 5 _ rfl; have k6 := (T8.ext F9).at 6 _ rfl; have k7 := (T8.ext F9).at 7 _ rfl; have k8 := (T8.ext F9).at 8 _ rfl; have k9 := (T8.ext F9).at 9 _ rfl; have k10 := (T8.ext F9).at 10 _ rfl; have Dk0 := (D8.ext F9).at 0 _ rfl; have Dk1 := (D8.ext F9).at 1 _ rfl; have Gk0 := (G8.ext F9).at 0 _ rfl; have Gk1 := (G8.ext F9).at 1 _ rfl) | (go_at_call 10; (with_reducible refine (CR.out _ ?_).mono ?_); (exact (by repeat (first | with_reducible exact Ext.refl _ | with_reducible assumption | (with_reducible refine Ext.drew ?_) | (with_reducible refine Ext.drewN ?_ _) | (with_reducible refine Ext.alloc ?_ _) | (with_reducible refine Ext.setCell ?_ ?_ _) | (with_reducible refine Ext.trans ?_ (by with_reducible assumption)) | omega | (focus (simp <;> omega))))); rw [← RR.out]; rintro e w9 ⟨rfl, hx9⟩; have F9 : Ext w8 w9 := (by repeat (first | with_reducible exact Ext.refl _ | with_reducible assumption | (with_reducible refine Ext.drew ?_) | (with_reducible refine Ext.drewN ?_ _) | (with_reducible refine Ext.alloc ?_ _) | (with_reducible refine Ext.setCell ?_ ?_ _) | (with_reducible refine Ext.trans ?_ (by with_reducible assumption)) | omega | (focus (simp <;> omega)))); have k0 := (T8.ext F9).at 0 _ rfl; have k1 := (T8.ext F9).at 1 _ rfl; have k2 := (T8.ext F9).at 2 _ rfl; have k3 := (T8.ext F9).at 3 _ rfl; have k4 := (T8.ext F9).at 4 _ rfl; have k5 := (T8.ext F9).at 5 _ rfl; have k6 := (T8.ext F9).at 6 _ rfl; have k7 := (T8.ext F9).at 7 _ rfl; have k8 := (T8.ext F9).at 8 _ rfl; have k9 := (T8.ext F9).at 9 _ rfl; have k10 := (T8.ext F9).at 10 _ rfl; have Dk0 := (D8.ext F9).at 0 _ rfl; have Dk1 := (D8.ext F9).at 1 _ rfl; have Gk0 := (G8.ext F9).at 0 _ rfl; have Gk1 := (G8.ext F9).at 1 _ rfl) | (go_at_call 20; refine (num_err r _).mono ?_; rintro e w9 ⟨rfl, rfl⟩))
    all_goals
      go_wp2_with fail
      go_ret
      exact ⟨(by first | rfl | exact ret_true (by simp <;> omega)), E8.trans F9⟩

theorem walk (t : Tc) (sp tp lk : Int) (b1 : I64 sp) (b2 : I64 tp) (b3 : I64 lk) (x0 x1 : Int) (b4 : I64 x0) (b5 : I64 x1) (w : World) (hw : TcAt w t) :
    Calls Try.prog 5 #[.agg #[.int .i64 t.most, .int .i64 t.per, .int .i64 t.mx, .slice t.c0.a t.c0.v.nx t.c0.k, .slice t.c0.b t.c0.v.ny t.c0.l, .slice t.c1.a t.c1.v.nx t.c1.k, .slice t.c1.b t.c1.v.ny t.c1.l, .slice t.c2.a t.c2.v.nx t.c2.k, .slice t.c2.b t.c2.v.ny t.c2.l, .slice t.c3.a t.c3.v.nx t.c3.k, .slice t.c3.b t.c3.v.ny t.c3.l], .agg #[.int .i64 sp, .int .i64 tp, .int .i64 lk], .agg #[.int .i64 x0, .int .i64 x1]] w fun e w' => e = .returned (.bool true) ∧ Ext w w' := by
  by_cases hk : tck t = 0
  · exact walk_ok t sp tp lk b1 b2 b3 x0 x1 b4 b5 w hk hw
  · exact walk_bad t sp tp lk b1 b2 b3 x0 x1 b4 b5 w hk hw

theorem own : ownKnob Try.prog.godebug = none := by kernel_rfl
theorem laidOut : laidOutB Try.prog = true := by kernel_rfl

/-- The row's step: the walk's end is what the row asks. -/
theorem lifted (os : Os) (started : os.Started) (H : Type) (enc : TypeId × Value → H) :
    ReturnsInHanded {} Try.checked os 5 .any (Rows.torqueComputesSpec.pre6 enc Try.prog Try.f5 Rows.torqueComputesRow.domain false) (Rows.torqueComputesSpec.post enc Try.prog Try.f5 false true false false) := by
  refine returnsInHanded_of_change (C := Try.checked) own started (by kernel_rfl) Try.func5
    (ChangeSpec.witness6 (enc := enc) (C := Try.checked) false ⟨#[], #[.agg #[.int .i64 0, .int .i64 0, .int .i64 0, .slice none 0 0, .slice none 0 0, .slice none 0 0, .slice none 0 0, .slice none 0 0, .slice none 0 0, .slice none 0 0, .slice none 0 0], .agg #[.int .i64 0, .int .i64 0, .int .i64 0], .agg #[.int .i64 0, .int .i64 0]], []⟩ 8 (by kernel_rfl) (by kernel_rfl) (by kernel_rfl) (by kernel_rfl)) ?_
  intro W base args ds gs before hval0 hW hcnd _
  have hval : ∀ (j : Nat) t v, Try.f5.params[j]? = some t → args[j]? = some v → Value.okWide Try.prog W .any base t v := hval0
  have hW' := hW
  obtain ⟨p, q, hA0, hV, rfl, hfz, hnd⟩ := hW
  have hA : DataW.TrodAll enc Try.prog W 0 (fun _ => true) true Try.f5.params.toList args.toList ds p := hA0
  rw [Try.params5] at hA hval
  obtain ⟨v0, vs0, d0, ds0, p0, q0, hargs, rfl, rfl, h0, r0⟩ := trodAll_cons hA
  obtain ⟨v1, vs1, d1, ds1, p1, q1, rfl, rfl, rfl, h1, r1⟩ := trodAll_cons r0
  obtain ⟨v2, vs2, d2, ds2, p2, q2, rfl, rfl, rfl, h2, r2⟩ := trodAll_cons r1
  obtain ⟨rfl, rfl, rfl⟩ := trodAll_nil r2
  obtain rfl : args = #[v0, v1, v2] := by cases args; simp_all
  obtain ⟨rfl, rfl⟩ := trodVars_none hV
  have lt0 : ∀ x ∈ p0, x.block < W.heap.size := by obtain ⟨m, hm⟩ := h0; exact DataW.trod_lt m _ _ _ hm
  obtain ⟨u0, rfl, hu0⟩ := open_tc (hval 0 26 v0 rfl rfl) h0
  have lt1 : ∀ x ∈ p1, x.block < W.heap.size := by obtain ⟨m, hm⟩ := h1; exact DataW.trod_lt m _ _ _ hm
  obtain ⟨a1x, a1y, a1z, rfl, ba1x, ba1y, ba1z⟩ := open_str3 (u := 3) Try.underlying28 (by kernel_rfl) (by kernel_rfl) (by kernel_rfl) (hval 1 28 v1 rfl rfl)
  have lt2 : ∀ x ∈ p2, x.block < W.heap.size := by obtain ⟨m, hm⟩ := h2; exact DataW.trod_lt m _ _ _ hm
  obtain ⟨a2x, a2y, rfl, ba2x, ba2y⟩ := open_arr2 (u := 3) Try.underlying44 (by kernel_rfl) (by kernel_rfl) (by kernel_rfl) (hval 2 44 v2 rfl rfl)
  clear hA0 hval0
  refine (walk u0 a1x a1y a1z ba1x ba1y ba1z a2x a2y ba2x ba2y W hu0).mono fun e W' ⟨he, bel0⟩ => ?_
  subst he
  have bel : Below W.heap.size W W' := bel0
  exact ⟨_, rfl, _, _, _, [], _, [], hW', trodAll_mk1 (shut_bool Try.underlying4 _), (trodAll_cons_mk (Below.trod laidOut (by kernel_rfl) (of_decide_eq_true (by kernel_rfl)) h0 bel lt0) (trodAll_cons_mk (Below.trod laidOut (by kernel_rfl) (of_decide_eq_true (by kernel_rfl)) h1 bel lt1) (trodAll_cons_mk (Below.trod laidOut (by kernel_rfl) (of_decide_eq_true (by kernel_rfl)) h2 bel lt2) trodAll_mk0))), rfl, bel.frame _, fun h => by cases h⟩

theorem over : Rows.torqueComputesRow.holds Try.pinned (OpenSpec.ofChange Rows.torqueComputesSpec) :=
  OpenClaim.holds_of_wide 5 Try.f5 rfl rfl rfl rfl rfl rfl rfl ⟨rfl, rfl, rfl, rfl, rfl⟩ rfl rfl rfl rfl rfl (by kernel_rfl) Try.func5 (by kernel_rfl)
    (of_decide_eq_true (by kernel_rfl)) (by unfold Func.isWrapper; first | (rw [if_pos (by decide +kernel)]; kernel_rfl) | (rw [if_neg (by decide +kernel)]; exact ⟨rfl, rfl⟩))
    (fun os started H enc _ => lifted os started H enc)

/-- The statement. -/
theorem proved : Rows.TorqueComputesSaid := over
#print axioms proved
end Go.Proofs.Ytphfgljfjfpomaa.torqueComputes
