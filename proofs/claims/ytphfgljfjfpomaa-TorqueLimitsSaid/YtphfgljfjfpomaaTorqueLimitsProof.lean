/- TorqueLimits: the torque of the q current never exceeds the limit, and never the torque that was asked for; it has its sign, or is 0.
   Conditions: none: every input. -/
import Derived.Test.YtphfgljfjfpomaaAwakeTorque
import Derived.Test.YtphfgljfjfpomaaTorqueOpen
namespace Go.Proofs.Ytphfgljfjfpomaa.torqueLimits
open Go.ChangeShapes Go.WideShapes Go.ChangeAt Go.RowKit
set_option linter.unusedVariables false

set_option maxHeartbeats 2000000 in
/-- What Torque makes of the q current. -/
theorem lims (t : Tc) (ok : TOk t) (tq sp tp lk : Int) :
    (0 ≤ tq → 0 ≤ tqq t (rfq t tq sp tp lk) ∧ tqq t (rfq t tq sp tp lk) ≤ min tq (lim t sp tp) ∧ 0 ≤ rfq t tq sp tp lk) ∧
    (tq ≤ 0 → tqq t (rfq t tq sp tp lk) ≤ 0 ∧ max tq (-(lim t sp tp)) ≤ tqq t (rfq t tq sp tp lk) ∧ rfq t tq sp tp lk ≤ 0) := by
  have ⟨⟨mo0, mo1⟩, ⟨pe0, pe1⟩, ⟨mx0, mx1⟩⟩ := ok.rg
  have ⟨⟨c1, c2⟩, ⟨x1, x2⟩, _, ro, ⟨r1, r2⟩, ⟨d1, d2⟩⟩ := ref_facts t ok tq sp tp lk
  have ⟨l1, l2, l3⟩ := lim_bd t ok.rg sp tp
  have ex : txx t tq (lim t sp tp) = clip ((clip tq (-(lim t sp tp)) (lim t sp tp) * 1024).tdiv t.per) (-t.mx) t.mx := rfl
  have eq_ : rfq t tq sp tp lk = clip (txx t tq (lim t sp tp)) (-(rst t.mx (rfd t tq sp tp lk))) (rst t.mx (rfd t tq sp tp lk)) := rfl
  have et : tqq t (rfq t tq sp tp lk) = clip ((clip (rfq t tq sp tp lk) (-1048576) 1048576 * t.per).tdiv 1024) (-16777216) 16777216 := rfl
  rw [et]
  generalize rst t.mx (rfd t tq sp tp lk) = r at *
  generalize rfq t tq sp tp lk = q at *
  generalize txx t tq (lim t sp tp) = x at *
  generalize lim t sp tp = l at *
  have ec : clip tq (-l) l = max (-l) (min tq l) := rfl
  generalize clip tq (-l) l = c at *
  have td := Pl.td (c * 1024) t.per (by omega)
  have ez : clip q (-1048576) 1048576 = q := by unfold clip; unfold clip at eq_; omega
  rw [ez]
  unfold clip at ex eq_ ⊢
  generalize (c * 1024).tdiv t.per = z at *
  have tm : ∀ u : Int, (0 ≤ u → u ≤ z → u * t.per ≤ z * t.per) ∧ (z ≤ u → u ≤ 0 → z * t.per ≤ u * t.per) := fun u => ⟨fun _ h => Int.mul_le_mul_of_nonneg_right h (by omega), fun h _ => Int.mul_le_mul_of_nonneg_right h (by omega)⟩
  have ez2 : z * t.per = t.per * z := Int.mul_comm _ _
  have zp : 0 ≤ z → z ≤ z * t.per := fun h => by have := Int.mul_le_mul_of_nonneg_left pe0 h; omega
  have tqm := tm q
  have sg1 : 0 ≤ q → 0 ≤ q * t.per := fun h => Int.mul_nonneg h (by omega)
  have sg2 : q ≤ 0 → q * t.per ≤ 0 := fun h => by
    have := Int.mul_nonneg (show 0 ≤ -q by omega) (show 0 ≤ t.per by omega)
    rw [Int.neg_mul] at this; omega
  have t2 := Pl.td (q * t.per) 1024 (by omega)
  generalize (q * t.per).tdiv 1024 = n at *
  rw [ez2] at tqm zp
  generalize q * t.per = qp at *
  generalize t.per * z = pz at *
  constructor
  · intro h
    have cz : 0 ≤ c := by omega
    have zz : 0 ≤ z := by omega
    have q0 : 0 ≤ q := by omega
    have q1 : q ≤ z := by omega
    have := tqm.1 q0 q1
    have := sg1 q0
    omega
  · intro h
    have cz : c ≤ 0 := by omega
    have zz : z ≤ 0 := by omega
    have q0 : q ≤ 0 := by omega
    have q1 : z ≤ q := by omega
    have k1 := tqm.2 q1 q0
    have k2 := sg2 q0
    clear tqm sg1 sg2
    have p0 : c * 1024 ≤ pz := by
      clear t2 ex eq_ ec
      omega
    have n0 : n ≤ 0 := by clear td; omega
    have n1 : c ≤ n := by clear td ex eq_ ec; omega
    clear td t2 ex eq_ zp p0 k1 k2
    refine ⟨by omega, ?_, q0⟩
    omega

set_option maxRecDepth 100000 in
set_option maxHeartbeats 2000000 in
theorem walk_bad (t : Tc) (sp tp lk : Int) (b1 : I64 sp) (b2 : I64 tp) (b3 : I64 lk) (tq : Int) (b4 : I64 tq) (w : World) (hk : tck t ≠ 0) (hw : TcAt w t) :
    Calls Try.prog 6 #[.agg #[.int .i64 t.most, .int .i64 t.per, .int .i64 t.mx, .slice t.c0.a t.c0.v.nx t.c0.k, .slice t.c0.b t.c0.v.ny t.c0.l, .slice t.c1.a t.c1.v.nx t.c1.k, .slice t.c1.b t.c1.v.ny t.c1.l, .slice t.c2.a t.c2.v.nx t.c2.k, .slice t.c2.b t.c2.v.ny t.c2.l, .slice t.c3.a t.c3.v.nx t.c3.k, .slice t.c3.b t.c3.v.ny t.c3.l], .agg #[.int .i64 sp, .int .i64 tp, .int .i64 lk], .int .i64 tq] w fun e w' => e = .returned (.bool true) ∧ Ext w w' := by
  obtain ⟨r, hr⟩ : ∃ r, r = tck t := ⟨_, rfl⟩
  have nz : (r != 0) = true := by rw [hr]; simpa using hk
  have RR := Lib.hid hr
  have HW := Lib.hid hw
  clear hk hw hr
  have E0 : Ext w ((w.alloc (.cells #[.int .i64 t.most, .int .i64 t.per, .int .i64 t.mx, .slice t.c0.a t.c0.v.nx t.c0.k, .slice t.c0.b t.c0.v.ny t.c0.l, .slice t.c1.a t.c1.v.nx t.c1.k, .slice t.c1.b t.c1.v.ny t.c1.l, .slice t.c2.a t.c2.v.nx t.c2.k, .slice t.c2.b t.c2.v.ny t.c2.l, .slice t.c3.a t.c3.v.nx t.c3.k, .slice t.c3.b t.c3.v.ny t.c3.l] 26)).alloc (.cells #[.int .i64 sp, .int .i64 tp, .int .i64 lk] 28)) := ((Ext.refl w).alloc _).alloc _
  have T0 : Blk ((w.alloc (.cells #[.int .i64 t.most, .int .i64 t.per, .int .i64 t.mx, .slice t.c0.a t.c0.v.nx t.c0.k, .slice t.c0.b t.c0.v.ny t.c0.l, .slice t.c1.a t.c1.v.nx t.c1.k, .slice t.c1.b t.c1.v.ny t.c1.l, .slice t.c2.a t.c2.v.nx t.c2.k, .slice t.c2.b t.c2.v.ny t.c2.l, .slice t.c3.a t.c3.v.nx t.c3.k, .slice t.c3.b t.c3.v.ny t.c3.l] 26)).alloc (.cells #[.int .i64 sp, .int .i64 tp, .int .i64 lk] 28)) (w.heap.size) [.int .i64 t.most, .int .i64 t.per, .int .i64 t.mx, .slice t.c0.a t.c0.v.nx t.c0.k, .slice t.c0.b t.c0.v.ny t.c0.l, .slice t.c1.a t.c1.v.nx t.c1.k, .slice t.c1.b t.c1.v.ny t.c1.l, .slice t.c2.a t.c2.v.nx t.c2.k, .slice t.c2.b t.c2.v.ny t.c2.l, .slice t.c3.a t.c3.v.nx t.c3.k, .slice t.c3.b t.c3.v.ny t.c3.l] := by
    have hh := Blk.new w [.int .i64 t.most, .int .i64 t.per, .int .i64 t.mx, .slice t.c0.a t.c0.v.nx t.c0.k, .slice t.c0.b t.c0.v.ny t.c0.l, .slice t.c1.a t.c1.v.nx t.c1.k, .slice t.c1.b t.c1.v.ny t.c1.l, .slice t.c2.a t.c2.v.nx t.c2.k, .slice t.c2.b t.c2.v.ny t.c2.l, .slice t.c3.a t.c3.v.nx t.c3.k, .slice t.c3.b t.c3.v.ny t.c3.l] 26
    have e : (w).heap.size = w.heap.size := by simp
    rw [e] at hh
    exact hh.alloc _
  have HT := Lib.hid T0
  have I0 : Blk ((w.alloc (.cells #[.int .i64 t.most, .int .i64 t.per, .int .i64 t.mx, .slice t.c0.a t.c0.v.nx t.c0.k, .slice t.c0.b t.c0.v.ny t.c0.l, .slice t.c1.a t.c1.v.nx t.c1.k, .slice t.c1.b t.c1.v.ny t.c1.l, .slice t.c2.a t.c2.v.nx t.c2.k, .slice t.c2.b t.c2.v.ny t.c2.l, .slice t.c3.a t.c3.v.nx t.c3.k, .slice t.c3.b t.c3.v.ny t.c3.l] 26)).alloc (.cells #[.int .i64 sp, .int .i64 tp, .int .i64 lk] 28)) (w.heap.size + 1) [.int .i64 sp, .int .i64 tp, .int .i64 lk] := by
    have hh := Blk.new (w.alloc (.cells #[.int .i64 t.most, .int .i64 t.per, .int .i64 t.mx, .slice t.c0.a t.c0.v.nx t.c0.k, .slice t.c0.b t.c0.v.ny t.c0.l, .slice t.c1.a t.c1.v.nx t.c1.k, .slice t.c1.b t.c1.v.ny t.c1.l, .slice t.c2.a t.c2.v.nx t.c2.k, .slice t.c2.b t.c2.v.ny t.c2.l, .slice t.c3.a t.c3.v.nx t.c3.k, .slice t.c3.b t.c3.v.ny t.c3.l] 26)) [.int .i64 sp, .int .i64 tp, .int .i64 lk] 28
    have e : ((w.alloc (.cells #[.int .i64 t.most, .int .i64 t.per, .int .i64 t.mx, .slice t.c0.a t.c0.v.nx t.c0.k, .slice t.c0.b t.c0.v.ny t.c0.l, .slice t.c1.a t.c1.v.nx t.c1.k, .slice t.c1.b t.c1.v.ny t.c1.l, .slice t.c2.a t.c2.v.nx t.c2.k, .slice t.c2.b t.c2.v.ny t.c2.l, .slice t.c3.a t.c3.v.nx t.c3.k, .slice t.c3.b t.c3.v.ny t.c3.l] 26))).heap.size = w.heap.size + 1 := by simp
    rw [e] at hh
    exact hh
  have HI := Lib.hid I0
  have HE := Lib.hid E0
  clear E0 T0 I0
  go_enter Try.func6, Try.ntmps6
  go_wp2_with fail
  refine (few_any t _).mono ?_
  rintro e w1 ⟨bb, rfl, hx1⟩
  have E1 := HE.out.trans hx1
  have T1 := HT.out.ext hx1
  have I1 := HI.out.ext hx1
  have Tc0_1 := T1.at 0 _ rfl
  have Tc1_1 := T1.at 1 _ rfl
  have Tc2_1 := T1.at 2 _ rfl
  have Tc3_1 := T1.at 3 _ rfl
  have Tc4_1 := T1.at 4 _ rfl
  have Tc5_1 := T1.at 5 _ rfl
  have Tc6_1 := T1.at 6 _ rfl
  have Tc7_1 := T1.at 7 _ rfl
  have Tc8_1 := T1.at 8 _ rfl
  have Tc9_1 := T1.at 9 _ rfl
  have Tc10_1 := T1.at 10 _ rfl
  have Tn_1 := T1.lt
  have Ic0_1 := I1.at 0 _ rfl
  have Ic1_1 := I1.at 1 _ rfl
  have Ic2_1 := I1.at 2 _ rfl
  have In_1 := I1.lt
  cases bb
  · skip
    go_wp2_with fail
    refine (awake36 _).mono ?_
    rintro e wz ⟨rfl, hxz⟩
    go_wp2_with fail
    go_ret
    exact ⟨(by first | rfl | exact ret_true (by simp <;> omega)), (by repeat (first | with_reducible exact Ext.refl _ | with_reducible assumption | (with_reducible refine Ext.drew ?_) | (with_reducible refine Ext.drewN ?_ _) | (with_reducible refine Ext.alloc ?_ _) | (with_reducible refine Ext.setCell ?_ ?_ _) | (with_reducible refine Ext.trans ?_ (by with_reducible assumption)) | omega | (focus (simp <;> omega))))⟩
  · skip
    go_wp2_with fail
    refine (check36 t _ (HW.out.ext E1)).mono ?_
    rw [← RR.out]
    rintro e w2 ⟨rfl, hx2⟩
    have F2 : Ext w1 w2 := (by repeat (first | with_reducible exact Ext.refl _ | with_reducible assumption | (with_reducible refine Ext.drew ?_) | (with_reducible refine Ext.drewN ?_ _) | (with_reducible refine Ext.alloc ?_ _) | (with_reducible refine Ext.setCell ?_ ?_ _) | (with_reducible refine Ext.trans ?_ (by with_reducible assumption)) | omega | (focus (simp <;> omega))))
    have E2 := E1.trans F2
    have T2 := T1.ext F2
    have I2 := I1.ext F2
    clear Tc0_1 Tc1_1 Tc2_1 Tc3_1 Tc4_1 Tc5_1 Tc6_1 Tc7_1 Tc8_1 Tc9_1 Tc10_1 Ic0_1 Ic1_1 Ic2_1
    have Tc0_2 := T2.at 0 _ rfl
    have Tc1_2 := T2.at 1 _ rfl
    have Tc2_2 := T2.at 2 _ rfl
    have Tc3_2 := T2.at 3 _ rfl
    have Tc4_2 := T2.at 4 _ rfl
    have Tc5_2 := T2.at 5 _ rfl
    have Tc6_2 := T2.at 6 _ rfl
    have Tc7_2 := T2.at 7 _ rfl
    have Tc8_2 := T2.at 8 _ rfl
    have Tc9_2 := T2.at 9 _ rfl
    have Tc10_2 := T2.at 10 _ rfl
    have Tn_2 := T2.lt
    have Ic0_2 := I2.at 0 _ rfl
    have Ic1_2 := I2.at 1 _ rfl
    have Ic2_2 := I2.at 2 _ rfl
    have In_2 := I2.lt
    go_wp2_with fail
    refine (awake36 _).mono ?_
    rintro e wz ⟨rfl, hxz⟩
    go_wp2_with fail
    go_ret
    exact ⟨(by first | rfl | exact ret_true (by simp <;> omega)), (by repeat (first | with_reducible exact Ext.refl _ | with_reducible assumption | (with_reducible refine Ext.drew ?_) | (with_reducible refine Ext.drewN ?_ _) | (with_reducible refine Ext.alloc ?_ _) | (with_reducible refine Ext.setCell ?_ ?_ _) | (with_reducible refine Ext.trans ?_ (by with_reducible assumption)) | omega | (focus (simp <;> omega))))⟩

set_option maxRecDepth 100000 in
set_option maxHeartbeats 2000000 in
theorem walk_ok (t : Tc) (sp tp lk : Int) (b1 : I64 sp) (b2 : I64 tp) (b3 : I64 lk) (tq : Int) (b4 : I64 tq) (w : World) (hk : tck t = 0) (hw : TcAt w t) :
    Calls Try.prog 6 #[.agg #[.int .i64 t.most, .int .i64 t.per, .int .i64 t.mx, .slice t.c0.a t.c0.v.nx t.c0.k, .slice t.c0.b t.c0.v.ny t.c0.l, .slice t.c1.a t.c1.v.nx t.c1.k, .slice t.c1.b t.c1.v.ny t.c1.l, .slice t.c2.a t.c2.v.nx t.c2.k, .slice t.c2.b t.c2.v.ny t.c2.l, .slice t.c3.a t.c3.v.nx t.c3.k, .slice t.c3.b t.c3.v.ny t.c3.l], .agg #[.int .i64 sp, .int .i64 tp, .int .i64 lk], .int .i64 tq] w fun e w' => e = .returned (.bool true) ∧ Ext w w' := by
  have ok := tok_of hk
  have OK := Lib.hid ok
  have TK := Lib.hid hk
  have HW := Lib.hid hw
  have ⟨⟨mo0, mo1⟩, ⟨pe0, pe1⟩, ⟨mx0, mx1⟩⟩ := ok.rg
  have ⟨l1, l2, l3⟩ := lim_bd t ok.rg sp tp
  have ⟨k1, k2⟩ := lims t ok tq sp tp lk
  obtain ⟨l, hl⟩ : ∃ l, l = lim t sp tp := ⟨_, rfl⟩
  obtain ⟨d, hd⟩ : ∃ d, d = rfd t tq sp tp lk := ⟨_, rfl⟩
  obtain ⟨q, hq⟩ : ∃ q, q = rfq t tq sp tp lk := ⟨_, rfl⟩
  obtain ⟨n, hn⟩ : ∃ n, n = tqq t q := ⟨_, rfl⟩
  rw [← hl, ← hq, ← hn] at k1 k2
  rw [← hl] at l1 l2 l3
  have L1 := Lib.hid k1
  have L2 := Lib.hid k2
  have HL := Lib.hid hl
  have HD := Lib.hid hd
  have HQ := Lib.hid hq
  have HN := Lib.hid hn
  clear hl hd hq hn k1 k2 b1 b2 b3 b4
  clear hk hw ok
  have E0 : Ext w ((w.alloc (.cells #[.int .i64 t.most, .int .i64 t.per, .int .i64 t.mx, .slice t.c0.a t.c0.v.nx t.c0.k, .slice t.c0.b t.c0.v.ny t.c0.l, .slice t.c1.a t.c1.v.nx t.c1.k, .slice t.c1.b t.c1.v.ny t.c1.l, .slice t.c2.a t.c2.v.nx t.c2.k, .slice t.c2.b t.c2.v.ny t.c2.l, .slice t.c3.a t.c3.v.nx t.c3.k, .slice t.c3.b t.c3.v.ny t.c3.l] 26)).alloc (.cells #[.int .i64 sp, .int .i64 tp, .int .i64 lk] 28)) := ((Ext.refl w).alloc _).alloc _
  have T0 : Blk ((w.alloc (.cells #[.int .i64 t.most, .int .i64 t.per, .int .i64 t.mx, .slice t.c0.a t.c0.v.nx t.c0.k, .slice t.c0.b t.c0.v.ny t.c0.l, .slice t.c1.a t.c1.v.nx t.c1.k, .slice t.c1.b t.c1.v.ny t.c1.l, .slice t.c2.a t.c2.v.nx t.c2.k, .slice t.c2.b t.c2.v.ny t.c2.l, .slice t.c3.a t.c3.v.nx t.c3.k, .slice t.c3.b t.c3.v.ny t.c3.l] 26)).alloc (.cells #[.int .i64 sp, .int .i64 tp, .int .i64 lk] 28)) (w.heap.size) [.int .i64 t.most, .int .i64 t.per, .int .i64 t.mx, .slice t.c0.a t.c0.v.nx t.c0.k, .slice t.c0.b t.c0.v.ny t.c0.l, .slice t.c1.a t.c1.v.nx t.c1.k, .slice t.c1.b t.c1.v.ny t.c1.l, .slice t.c2.a t.c2.v.nx t.c2.k, .slice t.c2.b t.c2.v.ny t.c2.l, .slice t.c3.a t.c3.v.nx t.c3.k, .slice t.c3.b t.c3.v.ny t.c3.l] := by
    have hh := Blk.new w [.int .i64 t.most, .int .i64 t.per, .int .i64 t.mx, .slice t.c0.a t.c0.v.nx t.c0.k, .slice t.c0.b t.c0.v.ny t.c0.l, .slice t.c1.a t.c1.v.nx t.c1.k, .slice t.c1.b t.c1.v.ny t.c1.l, .slice t.c2.a t.c2.v.nx t.c2.k, .slice t.c2.b t.c2.v.ny t.c2.l, .slice t.c3.a t.c3.v.nx t.c3.k, .slice t.c3.b t.c3.v.ny t.c3.l] 26
    have e : (w).heap.size = w.heap.size := by simp
    rw [e] at hh
    exact hh.alloc _
  have HT := Lib.hid T0
  have I0 : Blk ((w.alloc (.cells #[.int .i64 t.most, .int .i64 t.per, .int .i64 t.mx, .slice t.c0.a t.c0.v.nx t.c0.k, .slice t.c0.b t.c0.v.ny t.c0.l, .slice t.c1.a t.c1.v.nx t.c1.k, .slice t.c1.b t.c1.v.ny t.c1.l, .slice t.c2.a t.c2.v.nx t.c2.k, .slice t.c2.b t.c2.v.ny t.c2.l, .slice t.c3.a t.c3.v.nx t.c3.k, .slice t.c3.b t.c3.v.ny t.c3.l] 26)).alloc (.cells #[.int .i64 sp, .int .i64 tp, .int .i64 lk] 28)) (w.heap.size + 1) [.int .i64 sp, .int .i64 tp, .int .i64 lk] := by
    have hh := Blk.new (w.alloc (.cells #[.int .i64 t.most, .int .i64 t.per, .int .i64 t.mx, .slice t.c0.a t.c0.v.nx t.c0.k, .slice t.c0.b t.c0.v.ny t.c0.l, .slice t.c1.a t.c1.v.nx t.c1.k, .slice t.c1.b t.c1.v.ny t.c1.l, .slice t.c2.a t.c2.v.nx t.c2.k, .slice t.c2.b t.c2.v.ny t.c2.l, .slice t.c3.a t.c3.v.nx t.c3.k, .slice t.c3.b t.c3.v.ny t.c3.l] 26)) [.int .i64 sp, .int .i64 tp, .int .i64 lk] 28
    have e : ((w.alloc (.cells #[.int .i64 t.most, .int .i64 t.per, .int .i64 t.mx, .slice t.c0.a t.c0.v.nx t.c0.k, .slice t.c0.b t.c0.v.ny t.c0.l, .slice t.c1.a t.c1.v.nx t.c1.k, .slice t.c1.b t.c1.v.ny t.c1.l, .slice t.c2.a t.c2.v.nx t.c2.k, .slice t.c2.b t.c2.v.ny t.c2.l, .slice t.c3.a t.c3.v.nx t.c3.k, .slice t.c3.b t.c3.v.ny t.c3.l] 26))).heap.size = w.heap.size + 1 := by simp
    rw [e] at hh
    exact hh
  have HI := Lib.hid I0
  have HE := Lib.hid E0
  clear E0 T0 I0
  go_enter Try.func6, Try.ntmps6
  go_wp2_with fail
  refine (few_any t _).mono ?_
  rintro e w1 ⟨bb, rfl, hx1⟩
  have E1 := HE.out.trans hx1
  have T1 := HT.out.ext hx1
  have I1 := HI.out.ext hx1
  have Tc0_1 := T1.at 0 _ rfl
  have Tc1_1 := T1.at 1 _ rfl
  have Tc2_1 := T1.at 2 _ rfl
  have Tc3_1 := T1.at 3 _ rfl
  have Tc4_1 := T1.at 4 _ rfl
  have Tc5_1 := T1.at 5 _ rfl
  have Tc6_1 := T1.at 6 _ rfl
  have Tc7_1 := T1.at 7 _ rfl
  have Tc8_1 := T1.at 8 _ rfl
  have Tc9_1 := T1.at 9 _ rfl
  have Tc10_1 := T1.at 10 _ rfl
  have Tn_1 := T1.lt
  have Ic0_1 := I1.at 0 _ rfl
  have Ic1_1 := I1.at 1 _ rfl
  have Ic2_1 := I1.at 2 _ rfl
  have In_1 := I1.lt
  cases bb
  · skip
    go_wp2_with fail
    refine (awake36 _).mono ?_
    rintro e wz ⟨rfl, hxz⟩
    go_wp2_with fail
    go_ret
    exact ⟨(by first | rfl | exact ret_true (by simp <;> omega)), (by repeat (first | with_reducible exact Ext.refl _ | with_reducible assumption | (with_reducible refine Ext.drew ?_) | (with_reducible refine Ext.drewN ?_ _) | (with_reducible refine Ext.alloc ?_ _) | (with_reducible refine Ext.setCell ?_ ?_ _) | (with_reducible refine Ext.trans ?_ (by with_reducible assumption)) | omega | (focus (simp <;> omega))))⟩
  · skip
    go_wp2_with fail
    refine (check36 t _ (HW.out.ext E1)).mono ?_
    rw [TK.out]
    rintro e w2 ⟨rfl, hx2⟩
    have F2 : Ext w1 w2 := (by repeat (first | with_reducible exact Ext.refl _ | with_reducible assumption | (with_reducible refine Ext.drew ?_) | (with_reducible refine Ext.drewN ?_ _) | (with_reducible refine Ext.alloc ?_ _) | (with_reducible refine Ext.setCell ?_ ?_ _) | (with_reducible refine Ext.trans ?_ (by with_reducible assumption)) | omega | (focus (simp <;> omega))))
    have E2 := E1.trans F2
    have T2 := T1.ext F2
    have I2 := I1.ext F2
    clear Tc0_1 Tc1_1 Tc2_1 Tc3_1 Tc4_1 Tc5_1 Tc6_1 Tc7_1 Tc8_1 Tc9_1 Tc10_1 Ic0_1 Ic1_1 Ic2_1
    have Tc0_2 := T2.at 0 _ rfl
    have Tc1_2 := T2.at 1 _ rfl
    have Tc2_2 := T2.at 2 _ rfl
    have Tc3_2 := T2.at 3 _ rfl
    have Tc4_2 := T2.at 4 _ rfl
    have Tc5_2 := T2.at 5 _ rfl
    have Tc6_2 := T2.at 6 _ rfl
    have Tc7_2 := T2.at 7 _ rfl
    have Tc8_2 := T2.at 8 _ rfl
    have Tc9_2 := T2.at 9 _ rfl
    have Tc10_2 := T2.at 10 _ rfl
    have Tn_2 := T2.lt
    have Ic0_2 := I2.at 0 _ rfl
    have Ic1_2 := I2.at 1 _ rfl
    have Ic2_2 := I2.at 2 _ rfl
    have In_2 := I2.lt
    go_wp2_with fail
    refine (awake36 _).mono ?_
    rintro e w3 ⟨rfl, hx3⟩
    have F3 : Ext w2 w3 := (by repeat (first | with_reducible exact Ext.refl _ | with_reducible assumption | (with_reducible refine Ext.drew ?_) | (with_reducible refine Ext.drewN ?_ _) | (with_reducible refine Ext.alloc ?_ _) | (with_reducible refine Ext.setCell ?_ ?_ _) | (with_reducible refine Ext.trans ?_ (by with_reducible assumption)) | omega | (focus (simp <;> omega))))
    have E3 := E2.trans F3
    have T3 := T2.ext F3
    have I3 := I2.ext F3
    clear Tc0_2 Tc1_2 Tc2_2 Tc3_2 Tc4_2 Tc5_2 Tc6_2 Tc7_2 Tc8_2 Tc9_2 Tc10_2 Ic0_2 Ic1_2 Ic2_2
    have Tc0_3 := T3.at 0 _ rfl
    have Tc1_3 := T3.at 1 _ rfl
    have Tc2_3 := T3.at 2 _ rfl
    have Tc3_3 := T3.at 3 _ rfl
    have Tc4_3 := T3.at 4 _ rfl
    have Tc5_3 := T3.at 5 _ rfl
    have Tc6_3 := T3.at 6 _ rfl
    have Tc7_3 := T3.at 7 _ rfl
    have Tc8_3 := T3.at 8 _ rfl
    have Tc9_3 := T3.at 9 _ rfl
    have Tc10_3 := T3.at 10 _ rfl
    have Tn_3 := T3.lt
    have Ic0_3 := I3.at 0 _ rfl
    have Ic1_3 := I3.at 1 _ rfl
    have Ic2_3 := I3.at 2 _ rfl
    have In_3 := I3.lt
    go_wp2_with fail
    refine (tLimit_ok t sp tp lk _ OK.out TK.out (HW.out.ext E3)).mono ?_
    rw [← HL.out]
    rintro e w4 ⟨rfl, hx4⟩
    have F4 : Ext w3 w4 := (by repeat (first | with_reducible exact Ext.refl _ | with_reducible assumption | (with_reducible refine Ext.drew ?_) | (with_reducible refine Ext.drewN ?_ _) | (with_reducible refine Ext.alloc ?_ _) | (with_reducible refine Ext.setCell ?_ ?_ _) | (with_reducible refine Ext.trans ?_ (by with_reducible assumption)) | omega | (focus (simp <;> omega))))
    have E4 := E3.trans F4
    have T4 := T3.ext F4
    have I4 := I3.ext F4
    clear Tc0_3 Tc1_3 Tc2_3 Tc3_3 Tc4_3 Tc5_3 Tc6_3 Tc7_3 Tc8_3 Tc9_3 Tc10_3 Ic0_3 Ic1_3 Ic2_3
    have Tc0_4 := T4.at 0 _ rfl
    have Tc1_4 := T4.at 1 _ rfl
    have Tc2_4 := T4.at 2 _ rfl
    have Tc3_4 := T4.at 3 _ rfl
    have Tc4_4 := T4.at 4 _ rfl
    have Tc5_4 := T4.at 5 _ rfl
    have Tc6_4 := T4.at 6 _ rfl
    have Tc7_4 := T4.at 7 _ rfl
    have Tc8_4 := T4.at 8 _ rfl
    have Tc9_4 := T4.at 9 _ rfl
    have Tc10_4 := T4.at 10 _ rfl
    have Tn_4 := T4.lt
    have Ic0_4 := I4.at 0 _ rfl
    have Ic1_4 := I4.at 1 _ rfl
    have Ic2_4 := I4.at 2 _ rfl
    have In_4 := I4.lt
    go_wp2_with fail
    refine (tRefs_ok t tq sp tp lk _ OK.out TK.out (HW.out.ext E4)).mono ?_
    rw [← HD.out, ← HQ.out]
    rintro e w5 ⟨rfl, hx5⟩
    have F5 : Ext w4 w5 := (by repeat (first | with_reducible exact Ext.refl _ | with_reducible assumption | (with_reducible refine Ext.drew ?_) | (with_reducible refine Ext.drewN ?_ _) | (with_reducible refine Ext.alloc ?_ _) | (with_reducible refine Ext.setCell ?_ ?_ _) | (with_reducible refine Ext.trans ?_ (by with_reducible assumption)) | omega | (focus (simp <;> omega))))
    have E5 := E4.trans F5
    have T5 := T4.ext F5
    have I5 := I4.ext F5
    clear Tc0_4 Tc1_4 Tc2_4 Tc3_4 Tc4_4 Tc5_4 Tc6_4 Tc7_4 Tc8_4 Tc9_4 Tc10_4 Ic0_4 Ic1_4 Ic2_4
    have Tc0_5 := T5.at 0 _ rfl
    have Tc1_5 := T5.at 1 _ rfl
    have Tc2_5 := T5.at 2 _ rfl
    have Tc3_5 := T5.at 3 _ rfl
    have Tc4_5 := T5.at 4 _ rfl
    have Tc5_5 := T5.at 5 _ rfl
    have Tc6_5 := T5.at 6 _ rfl
    have Tc7_5 := T5.at 7 _ rfl
    have Tc8_5 := T5.at 8 _ rfl
    have Tc9_5 := T5.at 9 _ rfl
    have Tc10_5 := T5.at 10 _ rfl
    have Tn_5 := T5.lt
    have Ic0_5 := I5.at 0 _ rfl
    have Ic1_5 := I5.at 1 _ rfl
    have Ic2_5 := I5.at 2 _ rfl
    have In_5 := I5.lt
    go_wp2_with fail
    refine (tTorque_ok t q _ OK.out TK.out (HW.out.ext (E5.alloc _))).mono ?_
    rw [← HN.out]
    rintro e w6 ⟨rfl, hx6⟩
    have F6 : Ext w5 w6 := (by repeat (first | with_reducible exact Ext.refl _ | with_reducible assumption | (with_reducible refine Ext.drew ?_) | (with_reducible refine Ext.drewN ?_ _) | (with_reducible refine Ext.alloc ?_ _) | (with_reducible refine Ext.setCell ?_ ?_ _) | (with_reducible refine Ext.trans ?_ (by with_reducible assumption)) | omega | (focus (simp <;> omega))))
    have E6 := E5.trans F6
    have T6 := T5.ext F6
    have I6 := I5.ext F6
    have D6 := (Blk.new w5 [.int .i64 d, .int .i64 q] 33).ext hx6
    clear Tc0_5 Tc1_5 Tc2_5 Tc3_5 Tc4_5 Tc5_5 Tc6_5 Tc7_5 Tc8_5 Tc9_5 Tc10_5 Ic0_5 Ic1_5 Ic2_5
    have Tc0_6 := T6.at 0 _ rfl
    have Tc1_6 := T6.at 1 _ rfl
    have Tc2_6 := T6.at 2 _ rfl
    have Tc3_6 := T6.at 3 _ rfl
    have Tc4_6 := T6.at 4 _ rfl
    have Tc5_6 := T6.at 5 _ rfl
    have Tc6_6 := T6.at 6 _ rfl
    have Tc7_6 := T6.at 7 _ rfl
    have Tc8_6 := T6.at 8 _ rfl
    have Tc9_6 := T6.at 9 _ rfl
    have Tc10_6 := T6.at 10 _ rfl
    have Tn_6 := T6.lt
    have Ic0_6 := I6.at 0 _ rfl
    have Ic1_6 := I6.at 1 _ rfl
    have Ic2_6 := I6.at 2 _ rfl
    have In_6 := I6.lt
    have Dc0_6 := D6.at 0 _ rfl
    have Dc1_6 := D6.at 1 _ rfl
    have Dn_6 := D6.lt
    rcases Int.lt_or_le tq 0 with hs | hs
    · obtain ⟨g1, g2, g3⟩ := L2.out (by omega)
      go_wp2_with fail
      go_ret
      exact ⟨(by first | rfl | exact ret_true (by simp <;> omega)), (by repeat (first | with_reducible exact Ext.refl _ | with_reducible assumption | (with_reducible refine Ext.drew ?_) | (with_reducible refine Ext.drewN ?_ _) | (with_reducible refine Ext.alloc ?_ _) | (with_reducible refine Ext.setCell ?_ ?_ _) | (with_reducible refine Ext.trans ?_ (by with_reducible assumption)) | omega | (focus (simp <;> omega))))⟩
    · obtain ⟨g1, g2, g3⟩ := L1.out hs
      go_wp2_with fail
      go_ret
      exact ⟨(by first | rfl | exact ret_true (by simp <;> omega)), (by repeat (first | with_reducible exact Ext.refl _ | with_reducible assumption | (with_reducible refine Ext.drew ?_) | (with_reducible refine Ext.drewN ?_ _) | (with_reducible refine Ext.alloc ?_ _) | (with_reducible refine Ext.setCell ?_ ?_ _) | (with_reducible refine Ext.trans ?_ (by with_reducible assumption)) | omega | (focus (simp <;> omega))))⟩

theorem walk (t : Tc) (sp tp lk : Int) (b1 : I64 sp) (b2 : I64 tp) (b3 : I64 lk) (tq : Int) (b4 : I64 tq) (w : World) (hw : TcAt w t) :
    Calls Try.prog 6 #[.agg #[.int .i64 t.most, .int .i64 t.per, .int .i64 t.mx, .slice t.c0.a t.c0.v.nx t.c0.k, .slice t.c0.b t.c0.v.ny t.c0.l, .slice t.c1.a t.c1.v.nx t.c1.k, .slice t.c1.b t.c1.v.ny t.c1.l, .slice t.c2.a t.c2.v.nx t.c2.k, .slice t.c2.b t.c2.v.ny t.c2.l, .slice t.c3.a t.c3.v.nx t.c3.k, .slice t.c3.b t.c3.v.ny t.c3.l], .agg #[.int .i64 sp, .int .i64 tp, .int .i64 lk], .int .i64 tq] w fun e w' => e = .returned (.bool true) ∧ Ext w w' := by
  by_cases hk : tck t = 0
  · exact walk_ok t sp tp lk b1 b2 b3 tq b4 w hk hw
  · exact walk_bad t sp tp lk b1 b2 b3 tq b4 w hk hw

theorem own : ownKnob Try.prog.godebug = none := by kernel_rfl
theorem laidOut : laidOutB Try.prog = true := by kernel_rfl

/-- The row's step: the walk's end is what the row asks. -/
theorem lifted (os : Os) (started : os.Started) (H : Type) (enc : TypeId × Value → H) :
    ReturnsInHanded {} Try.checked os 6 .any (Rows.torqueLimitsSpec.pre6 enc Try.prog Try.f6 Rows.torqueLimitsRow.domain false) (Rows.torqueLimitsSpec.post enc Try.prog Try.f6 false true false false) := by
  refine returnsInHanded_of_change (C := Try.checked) own started (by kernel_rfl) Try.func6
    (ChangeSpec.witness6 (enc := enc) (C := Try.checked) false ⟨#[], #[.agg #[.int .i64 0, .int .i64 0, .int .i64 0, .slice none 0 0, .slice none 0 0, .slice none 0 0, .slice none 0 0, .slice none 0 0, .slice none 0 0, .slice none 0 0, .slice none 0 0], .agg #[.int .i64 0, .int .i64 0, .int .i64 0], .int .i64 0], []⟩ 8 (by kernel_rfl) (by kernel_rfl) (by kernel_rfl) (by kernel_rfl)) ?_
  intro W base args ds gs before hval0 hW hcnd _
  have hval : ∀ (j : Nat) t v, Try.f6.params[j]? = some t → args[j]? = some v → Value.okWide Try.prog W .any base t v := hval0
  have hW' := hW
  obtain ⟨p, q, hA0, hV, rfl, hfz, hnd⟩ := hW
  have hA : DataW.TrodAll enc Try.prog W 0 (fun _ => true) true Try.f6.params.toList args.toList ds p := hA0
  rw [Try.params6] at hA hval
  obtain ⟨v0, vs0, d0, ds0, p0, q0, hargs, rfl, rfl, h0, r0⟩ := trodAll_cons hA
  obtain ⟨v1, vs1, d1, ds1, p1, q1, rfl, rfl, rfl, h1, r1⟩ := trodAll_cons r0
  obtain ⟨v2, vs2, d2, ds2, p2, q2, rfl, rfl, rfl, h2, r2⟩ := trodAll_cons r1
  obtain ⟨rfl, rfl, rfl⟩ := trodAll_nil r2
  obtain rfl : args = #[v0, v1, v2] := by cases args; simp_all
  obtain ⟨rfl, rfl⟩ := trodVars_none hV
  have lt0 : ∀ x ∈ p0, x.block < W.heap.size := by obtain ⟨m, hm⟩ := h0; exact DataW.trod_lt m _ _ _ hm
  obtain ⟨u0, rfl, hu0⟩ := open_tc (hval 0 26 v0 rfl rfl) h0
  have lt1 : ∀ x ∈ p1, x.block < W.heap.size := by obtain ⟨m, hm⟩ := h1; exact DataW.trod_lt m _ _ _ hm
  obtain ⟨a1x, a1y, a1z, rfl, ba1x, ba1y, ba1z⟩ := open_str3 (u := 3) Try.underlying28 (by kernel_rfl) (by kernel_rfl) (by kernel_rfl) (hval 1 28 v1 rfl rfl)
  have lt2 : ∀ x ∈ p2, x.block < W.heap.size := by obtain ⟨m, hm⟩ := h2; exact DataW.trod_lt m _ _ _ hm
  obtain ⟨a2, rfl, b2⟩ := open_i64 Try.underlying3 (hval 2 3 v2 rfl rfl)
  clear hA0 hval0
  refine (walk u0 a1x a1y a1z ba1x ba1y ba1z a2 b2 W hu0).mono fun e W' ⟨he, bel0⟩ => ?_
  subst he
  have bel : Below W.heap.size W W' := bel0
  exact ⟨_, rfl, _, _, _, [], _, [], hW', trodAll_mk1 (shut_bool Try.underlying4 _), (trodAll_cons_mk (Below.trod laidOut (by kernel_rfl) (of_decide_eq_true (by kernel_rfl)) h0 bel lt0) (trodAll_cons_mk (Below.trod laidOut (by kernel_rfl) (of_decide_eq_true (by kernel_rfl)) h1 bel lt1) (trodAll_cons_mk (Below.trod laidOut (by kernel_rfl) (of_decide_eq_true (by kernel_rfl)) h2 bel lt2) trodAll_mk0))), rfl, bel.frame _, fun h => by cases h⟩

theorem over : Rows.torqueLimitsRow.holds Try.pinned (OpenSpec.ofChange Rows.torqueLimitsSpec) :=
  OpenClaim.holds_of_wide 6 Try.f6 rfl rfl rfl rfl rfl rfl rfl ⟨rfl, rfl, rfl, rfl, rfl⟩ rfl rfl rfl rfl rfl (by kernel_rfl) Try.func6 (by kernel_rfl)
    (of_decide_eq_true (by kernel_rfl)) (by unfold Func.isWrapper; first | (rw [if_pos (by decide +kernel)]; kernel_rfl) | (rw [if_neg (by decide +kernel)]; exact ⟨rfl, rfl⟩))
    (fun os started H enc _ => lifted os started H enc)

/-- The statement. -/
theorem proved : Rows.TorqueLimitsSaid := over
#print axioms proved
end Go.Proofs.Ytphfgljfjfpomaa.torqueLimits
