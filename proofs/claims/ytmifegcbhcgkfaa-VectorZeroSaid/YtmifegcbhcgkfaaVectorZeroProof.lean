/- VectorZero: the vector 0 has half the period on all legs; a vector and its opposite have counts that sum to the period, or one less, leg by leg.
   Conditions: none: every input. -/
import Derived.Test.YtmifegcbhcgkfaaAwakeVector
import Derived.Test.YtmifegcbhcgkfaaPlainVector2
namespace Go.Proofs.Ytmifegcbhcgkfaa.vectorZero
open Go.ChangeShapes Go.WideShapes Go.ChangeAt Go.RowKit
set_option linter.unusedVariables false

theorem dms_neg (x y : Int) : dms (-x) (-y) = -dms x y := by
  have e : -(-x) - Pl.pb (-x) (-y) = -(-x - Pl.pb x y) := by rw [Pl.pb_neg]; omega
  unfold dms; rw [e, Pl.pb_neg, Pl.ms_neg]
theorem zero_duty (L T : Int) (hL : 0 < L) (hT : 0 ≤ T) : dutyOf 0 0 L T = .agg #[.int .i64 (T / 2), .int .i64 (T / 2), .int .i64 (T / 2), .bool false] := by
  have p0 : Pl.pb 0 0 = 0 := by decide
  have e1 : (-0 - Pl.pb 0 0 : Int) = 0 := by decide
  have m0 : dms 0 0 = 0 := by decide
  have z0 := Pl.dn_zero (T := T) hL
  have h0 : d0 0 0 L T = T / 2 := by unfold d0; rw [m0]; exact z0
  have h1 : d1 0 0 L T = T / 2 := by unfold d1; rw [m0, p0]; exact z0
  have h2 : d2 0 0 L T = T / 2 := by unfold d2; rw [m0, e1]; exact z0
  have c := Pl.cn_in (T := T) (n := T / 2) (by omega) (by omega)
  have l := Pl.lm_in (T := T) (n := T / 2) (by omega) (by omega)
  unfold dutyOf dutyV
  rw [h0, h1, h2, c, l]
  rfl

set_option maxRecDepth 100000 in
set_option maxHeartbeats 1000000 in
theorem walk (a0x a0y : Int) (ba0x : I64 a0x) (ba0y : I64 a0y) (a1 : Int) (b1 : I64 a1) (a2 : Int) (b2 : I64 a2) (w : World) :
    Calls Try.prog 7 #[.agg #[.int .i64 a0x, .int .i64 a0y], .int .i64 a1, .int .i64 a2] w fun e w' => e = .returned (.bool true) ∧ Ext w w' := by
  clear ba0x ba0y b1 b2
  obtain ⟨X, hX⟩ : ∃ X, X = clip a0x (-1048576) (1048576) := ⟨_, rfl⟩
  have ⟨X1, X2⟩ := clip_bd a0x (-1048576) (1048576) (by omega)
  rw [← hX] at X1 X2
  have HX := Lib.hid hX
  clear hX
  obtain ⟨Y, hY⟩ : ∃ Y, Y = clip a0y (-1048576) (1048576) := ⟨_, rfl⟩
  have ⟨Y1, Y2⟩ := clip_bd a0y (-1048576) (1048576) (by omega)
  rw [← hY] at Y1 Y2
  have HY := Lib.hid hY
  clear hY
  obtain ⟨L, hL⟩ : ∃ L, L = clip a1 (1) (1048576) := ⟨_, rfl⟩
  have ⟨L1, L2⟩ := clip_bd a1 (1) (1048576) (by omega)
  rw [← hL] at L1 L2
  have HL := Lib.hid hL
  clear hL
  obtain ⟨T, hT⟩ : ∃ T, T = clip a2 (64) (4096) := ⟨_, rfl⟩
  have ⟨T1, T2⟩ := clip_bd a2 (64) (4096) (by omega)
  rw [← hT] at T1 T2
  have HT := Lib.hid hT
  clear hT
  have ok : DutyOK X Y L T := ⟨⟨L1, L2⟩, ⟨T1, T2⟩, ⟨X1, X2⟩, ⟨Y1, Y2⟩⟩
  have okn : DutyOK (-X) (-Y) L T := ⟨⟨L1, L2⟩, ⟨T1, T2⟩, ⟨by omega, by omega⟩, ⟨by omega, by omega⟩⟩
  have okz : DutyOK 0 0 L T := ⟨⟨L1, L2⟩, ⟨T1, T2⟩, ⟨by omega, by omega⟩, ⟨by omega, by omega⟩⟩
  have hz := zero_duty L T (by omega) (by omega)
  have o0 := Pl.opposite (T := T) (L := L) (x := X) (s := dms X Y) (by omega) (by omega)
  have o1 := Pl.opposite (T := T) (L := L) (x := Pl.pb X Y) (s := dms X Y) (by omega) (by omega)
  have o2 := Pl.opposite (T := T) (L := L) (x := -X - Pl.pb X Y) (s := dms X Y) (by omega) (by omega)
  have q0 : d0 (-X) (-Y) L T = Pl.dn T L (-X) (-dms X Y) := by unfold d0; rw [dms_neg]
  have q1 : d1 (-X) (-Y) L T = Pl.dn T L (-Pl.pb X Y) (-dms X Y) := by unfold d1; rw [dms_neg, Pl.pb_neg]
  have q2 : d2 (-X) (-Y) L T = Pl.dn T L (-(-X - Pl.pb X Y)) (-dms X Y) := by
    have e : -(-X) - Pl.pb (-X) (-Y) = -(-X - Pl.pb X Y) := by rw [Pl.pb_neg]; omega
    unfold d2; rw [dms_neg, e]
  have hd : dutyOf X Y L T = dutyV (Pl.cn T (d0 X Y L T)) (Pl.cn T (d1 X Y L T)) (Pl.cn T (d2 X Y L T)) (Pl.lm T (d0 X Y L T) || Pl.lm T (d1 X Y L T) || Pl.lm T (d2 X Y L T)) := rfl
  have hn : dutyOf (-X) (-Y) L T = dutyV (Pl.cn T (d0 (-X) (-Y) L T)) (Pl.cn T (d1 (-X) (-Y) L T)) (Pl.cn T (d2 (-X) (-Y) L T)) (Pl.lm T (d0 (-X) (-Y) L T) || Pl.lm T (d1 (-X) (-Y) L T) || Pl.lm T (d2 (-X) (-Y) L T)) := rfl
  have s0 : Pl.lm T (d0 X Y L T) = false → (Pl.cn T (d0 X Y L T) + Pl.cn T (d0 (-X) (-Y) L T) = T ∨ Pl.cn T (d0 X Y L T) + Pl.cn T (d0 (-X) (-Y) L T) = T - 1) := by rw [q0]; exact o0
  have s1 : Pl.lm T (d1 X Y L T) = false → (Pl.cn T (d1 X Y L T) + Pl.cn T (d1 (-X) (-Y) L T) = T ∨ Pl.cn T (d1 X Y L T) + Pl.cn T (d1 (-X) (-Y) L T) = T - 1) := by rw [q1]; exact o1
  have s2 : Pl.lm T (d2 X Y L T) = false → (Pl.cn T (d2 X Y L T) + Pl.cn T (d2 (-X) (-Y) L T) = T ∨ Pl.cn T (d2 X Y L T) + Pl.cn T (d2 (-X) (-Y) L T) = T - 1) := by rw [q2]; exact o2
  clear o0 o1 o2 q0 q1 q2
  have sa : (Pl.lm T (d0 X Y L T) || Pl.lm T (d1 X Y L T) || Pl.lm T (d2 X Y L T)) = false →
      (Pl.cn T (d0 X Y L T) + Pl.cn T (d0 (-X) (-Y) L T) = T ∨ Pl.cn T (d0 X Y L T) + Pl.cn T (d0 (-X) (-Y) L T) = T - 1) ∧ (Pl.cn T (d1 X Y L T) + Pl.cn T (d1 (-X) (-Y) L T) = T ∨ Pl.cn T (d1 X Y L T) + Pl.cn T (d1 (-X) (-Y) L T) = T - 1) ∧ (Pl.cn T (d2 X Y L T) + Pl.cn T (d2 (-X) (-Y) L T) = T ∨ Pl.cn T (d2 X Y L T) + Pl.cn T (d2 (-X) (-Y) L T) = T - 1) := by
    intro h
    simp only [Bool.or_eq_false_iff] at h
    exact ⟨s0 h.1.1, s1 h.1.2, s2 h.2⟩
  clear s0 s1 s2
  have ⟨k1, k2⟩ := Pl.cn_bd (T := T) (n := d0 X Y L T) (by omega)
  have ⟨k3, k4⟩ := Pl.cn_bd (T := T) (n := d1 X Y L T) (by omega)
  have ⟨k5, k6⟩ := Pl.cn_bd (T := T) (n := d2 X Y L T) (by omega)
  have ⟨m1, m2⟩ := Pl.cn_bd (T := T) (n := d0 (-X) (-Y) L T) (by omega)
  have ⟨m3, m4⟩ := Pl.cn_bd (T := T) (n := d1 (-X) (-Y) L T) (by omega)
  have ⟨m5, m6⟩ := Pl.cn_bd (T := T) (n := d2 (-X) (-Y) L T) (by omega)
  generalize Pl.cn T (d0 X Y L T) = x0 at *
  generalize Pl.cn T (d1 X Y L T) = x1 at *
  generalize Pl.cn T (d2 X Y L T) = x2 at *
  generalize Pl.cn T (d0 (-X) (-Y) L T) = y0 at *
  generalize Pl.cn T (d1 (-X) (-Y) L T) = y1 at *
  generalize Pl.cn T (d2 (-X) (-Y) L T) = y2 at *
  generalize (Pl.lm T (d0 X Y L T) || Pl.lm T (d1 X Y L T) || Pl.lm T (d2 X Y L T)) = l at *
  generalize (Pl.lm T (d0 (-X) (-Y) L T) || Pl.lm T (d1 (-X) (-Y) L T) || Pl.lm T (d2 (-X) (-Y) L T)) = l' at *
  unfold dutyV at hd hn
  have HD := Lib.hid hd
  have HN := Lib.hid hn
  have HZ := Lib.hid hz
  have OK := Lib.hid ok
  have OKN := Lib.hid okn
  have OKZ := Lib.hid okz
  have SA := Lib.hid sa
  have wp0 : IntKind.i64.wrap (x0 + y0) = x0 + y0 := IntWalk.i64_in _ (by omega)
  have wp1 : IntKind.i64.wrap (x1 + y1) = x1 + y1 := IntWalk.i64_in _ (by omega)
  have wp2 : IntKind.i64.wrap (x2 + y2) = x2 + y2 := IntWalk.i64_in _ (by omega)
  clear hd hn hz ok okn okz sa
  go_enter Try.func7, Try.ntmps7
  go_wp2_with fail
  refine (awake21 _).mono ?_
  rintro e wa ⟨rfl, hxwa⟩
  have A := (Blk.new w [.int .i64 a0x, .int .i64 a0y] 23).ext hxwa
  have c0 := A.at 0 _ rfl
  have c1 := A.at 1 _ rfl
  have cf := A.fr
  have cn := A.lt
  go_wp2_with fail
  refine (fit21 a0x a0y a1 a2 _).mono ?_
  rw [← HX.out, ← HY.out, ← HL.out, ← HT.out]
  rintro e w1 ⟨rfl, hxw1⟩
  have A1 := A.ext hxw1
  have d0 := A1.at 0 _ rfl
  have d1 := A1.at 1 _ rfl
  have df := A1.fr
  have dn := A1.lt
  have A2 := (A1.set 0 (.int .i64 X) (by simp)).set 1 (.int .i64 Y) (by simp)
  have f0 := A2.at 0 _ rfl
  have f1 := A2.at 1 _ rfl
  have ff := A2.fr
  have fn := A2.lt
  go_wp2_with fail
  refine (duty_ok 0 0 L T _ OKZ.out).mono ?_
  rw [HZ.out]
  rintro e w3 ⟨rfl, hxw3⟩
  have A3 : Blk _ w.heap.size [.int .i64 X, .int .i64 Y] := (A2.ext hxw3).alloc (.cells #[.int .i64 (T / 2), .int .i64 (T / 2), .int .i64 (T / 2), .bool false] 27)
  have Z3 := Blk.new w3 [.int .i64 (T / 2), .int .i64 (T / 2), .int .i64 (T / 2), .bool false] 27
  have g0 := (A2.ext hxw3).at 0 _ rfl
  have g1 := (A2.ext hxw3).at 1 _ rfl
  have gf := (A2.ext hxw3).fr
  have gn := (A2.ext hxw3).lt
  go_wp2_with fail
  refine (duty_ok X Y L T _ OK.out).mono ?_
  rw [HD.out]
  rintro e w4 ⟨rfl, hxw4⟩
  have A4 := A3.ext hxw4
  have q0 := A4.at 0 _ rfl
  have q1 := A4.at 1 _ rfl
  have qf := A4.fr
  have qn := A4.lt
  go_wp2_with fail
  refine (duty_ok (-X) (-Y) L T _ OKN.out).mono ?_
  rw [HN.out]
  rintro e w5 ⟨rfl, hxw5⟩
  have D5 := (Blk.new w4 [.int .i64 x0, .int .i64 x1, .int .i64 x2, .bool l] 27).ext hxw5
  have d5n := D5.lt
  go_wp2_with fail
  go_loopw [76] (fun i wr => ∃ k : Nat, k ≤ 3 ∧ i = .int .i64 k ∧ Blk wr w4.heap.size [.int .i64 x0, .int .i64 x1, .int .i64 x2, .bool l] ∧ Blk wr w5.heap.size [.int .i64 y0, .int .i64 y1, .int .i64 y2, .bool l'] ∧ Ext w wr) (fun i _ => 3 - (intOf i).toNat)
  case atStart => exact ⟨0, by omega, rfl, D5.alloc _, Blk.new _ _ _, (by repeat (first | with_reducible exact Ext.refl _ | with_reducible assumption | (with_reducible refine Ext.drew ?_) | (with_reducible refine Ext.drewN ?_ _) | (with_reducible refine Ext.alloc ?_ _) | (with_reducible refine Ext.setCell ?_ ?_ _) | (with_reducible refine Ext.trans ?_ (by with_reducible assumption)) | omega | (focus (simp <;> omega))))⟩
  case round =>
    clear A A1 A2 A3 A4 Z3 D5
    obtain ⟨k, hk, rfl, D, N, hxr⟩ := hrel
    have hk4 : k = 0 ∨ k = 1 ∨ k = 2 ∨ k = 3 := by omega
    have dn := D.lt
    have nn := N.lt
    have dl := D.at 3 _ rfl
    rcases hk4 with rfl | rfl | rfl | rfl
    · have c0 := D.at 0 _ rfl
      have c1 := N.at 0 _ rfl
      cases l
      · have sa := SA.out rfl
        rcases sa.1 with sh | sh
        · have h1 : x0 + y0 ≤ T := by omega
          have h2 : T ≤ x0 + y0 := by omega
          clear sh sa
          go_wp2_with fail
          go_quiet (fail)
          go_wp2_with fail
          go_roundw
          case rel => exact ⟨1, by omega, by go_num, D.drewN _, N.drewN _, (by repeat (first | with_reducible exact Ext.refl _ | with_reducible assumption | (with_reducible refine Ext.drew ?_) | (with_reducible refine Ext.drewN ?_ _) | (with_reducible refine Ext.alloc ?_ _) | (with_reducible refine Ext.setCell ?_ ?_ _) | (with_reducible refine Ext.trans ?_ (by with_reducible assumption)) | omega | (focus (simp <;> omega))))⟩
          case measure => simp [intOf]
        · have h1 : x0 + y0 ≤ T - 1 := by omega
          have h2 : T - 1 ≤ x0 + y0 := by omega
          have h3 : (x0 + y0 != T) = true := by simp; omega
          have h4 : (x0 + y0 != T - 1) = false := by simp; omega
          clear sh sa
          go_wp2_with fail
          go_quiet (fail)
          go_wp2_with fail
          go_roundw
          case rel => exact ⟨1, by omega, by go_num, D.drewN _, N.drewN _, (by repeat (first | with_reducible exact Ext.refl _ | with_reducible assumption | (with_reducible refine Ext.drew ?_) | (with_reducible refine Ext.drewN ?_ _) | (with_reducible refine Ext.alloc ?_ _) | (with_reducible refine Ext.setCell ?_ ?_ _) | (with_reducible refine Ext.trans ?_ (by with_reducible assumption)) | omega | (focus (simp <;> omega))))⟩
          case measure => simp [intOf]
      · go_wp2_with fail
        go_quiet (fail)
        go_wp2_with fail
        go_roundw
        case rel => exact ⟨1, by omega, by go_num, D.drewN _, N.drewN _, (by repeat (first | with_reducible exact Ext.refl _ | with_reducible assumption | (with_reducible refine Ext.drew ?_) | (with_reducible refine Ext.drewN ?_ _) | (with_reducible refine Ext.alloc ?_ _) | (with_reducible refine Ext.setCell ?_ ?_ _) | (with_reducible refine Ext.trans ?_ (by with_reducible assumption)) | omega | (focus (simp <;> omega))))⟩
        case measure => simp [intOf]
    · have c0 := D.at 1 _ rfl
      have c1 := N.at 1 _ rfl
      cases l
      · have sa := SA.out rfl
        rcases sa.2.1 with sh | sh
        · have h1 : x1 + y1 ≤ T := by omega
          have h2 : T ≤ x1 + y1 := by omega
          clear sh sa
          go_wp2_with fail
          go_quiet (fail)
          go_wp2_with fail
          go_roundw
          case rel => exact ⟨2, by omega, by go_num, D.drewN _, N.drewN _, (by repeat (first | with_reducible exact Ext.refl _ | with_reducible assumption | (with_reducible refine Ext.drew ?_) | (with_reducible refine Ext.drewN ?_ _) | (with_reducible refine Ext.alloc ?_ _) | (with_reducible refine Ext.setCell ?_ ?_ _) | (with_reducible refine Ext.trans ?_ (by with_reducible assumption)) | omega | (focus (simp <;> omega))))⟩
          case measure => simp [intOf]
        · have h1 : x1 + y1 ≤ T - 1 := by omega
          have h2 : T - 1 ≤ x1 + y1 := by omega
          have h3 : (x1 + y1 != T) = true := by simp; omega
          have h4 : (x1 + y1 != T - 1) = false := by simp; omega
          clear sh sa
          go_wp2_with fail
          go_quiet (fail)
          go_wp2_with fail
          go_roundw
          case rel => exact ⟨2, by omega, by go_num, D.drewN _, N.drewN _, (by repeat (first | with_reducible exact Ext.refl _ | with_reducible assumption | (with_reducible refine Ext.drew ?_) | (with_reducible refine Ext.drewN ?_ _) | (with_reducible refine Ext.alloc ?_ _) | (with_reducible refine Ext.setCell ?_ ?_ _) | (with_reducible refine Ext.trans ?_ (by with_reducible assumption)) | omega | (focus (simp <;> omega))))⟩
          case measure => simp [intOf]
      · go_wp2_with fail
        go_quiet (fail)
        go_wp2_with fail
        go_roundw
        case rel => exact ⟨2, by omega, by go_num, D.drewN _, N.drewN _, (by repeat (first | with_reducible exact Ext.refl _ | with_reducible assumption | (with_reducible refine Ext.drew ?_) | (with_reducible refine Ext.drewN ?_ _) | (with_reducible refine Ext.alloc ?_ _) | (with_reducible refine Ext.setCell ?_ ?_ _) | (with_reducible refine Ext.trans ?_ (by with_reducible assumption)) | omega | (focus (simp <;> omega))))⟩
        case measure => simp [intOf]
    · have c0 := D.at 2 _ rfl
      have c1 := N.at 2 _ rfl
      cases l
      · have sa := SA.out rfl
        rcases sa.2.2 with sh | sh
        · have h1 : x2 + y2 ≤ T := by omega
          have h2 : T ≤ x2 + y2 := by omega
          clear sh sa
          go_wp2_with fail
          go_quiet (fail)
          go_wp2_with fail
          go_roundw
          case rel => exact ⟨3, by omega, by go_num, D.drewN _, N.drewN _, (by repeat (first | with_reducible exact Ext.refl _ | with_reducible assumption | (with_reducible refine Ext.drew ?_) | (with_reducible refine Ext.drewN ?_ _) | (with_reducible refine Ext.alloc ?_ _) | (with_reducible refine Ext.setCell ?_ ?_ _) | (with_reducible refine Ext.trans ?_ (by with_reducible assumption)) | omega | (focus (simp <;> omega))))⟩
          case measure => simp [intOf]
        · have h1 : x2 + y2 ≤ T - 1 := by omega
          have h2 : T - 1 ≤ x2 + y2 := by omega
          have h3 : (x2 + y2 != T) = true := by simp; omega
          have h4 : (x2 + y2 != T - 1) = false := by simp; omega
          clear sh sa
          go_wp2_with fail
          go_quiet (fail)
          go_wp2_with fail
          go_roundw
          case rel => exact ⟨3, by omega, by go_num, D.drewN _, N.drewN _, (by repeat (first | with_reducible exact Ext.refl _ | with_reducible assumption | (with_reducible refine Ext.drew ?_) | (with_reducible refine Ext.drewN ?_ _) | (with_reducible refine Ext.alloc ?_ _) | (with_reducible refine Ext.setCell ?_ ?_ _) | (with_reducible refine Ext.trans ?_ (by with_reducible assumption)) | omega | (focus (simp <;> omega))))⟩
          case measure => simp [intOf]
      · go_wp2_with fail
        go_quiet (fail)
        go_wp2_with fail
        go_roundw
        case rel => exact ⟨3, by omega, by go_num, D.drewN _, N.drewN _, (by repeat (first | with_reducible exact Ext.refl _ | with_reducible assumption | (with_reducible refine Ext.drew ?_) | (with_reducible refine Ext.drewN ?_ _) | (with_reducible refine Ext.alloc ?_ _) | (with_reducible refine Ext.setCell ?_ ?_ _) | (with_reducible refine Ext.trans ?_ (by with_reducible assumption)) | omega | (focus (simp <;> omega))))⟩
        case measure => simp [intOf]
    · go_wp2_with fail
      go_ret
      exact ⟨(by first | rfl | exact ret_true (by simp <;> omega)), (by repeat (first | with_reducible exact Ext.refl _ | with_reducible assumption | (with_reducible refine Ext.drew ?_) | (with_reducible refine Ext.drewN ?_ _) | (with_reducible refine Ext.alloc ?_ _) | (with_reducible refine Ext.setCell ?_ ?_ _) | (with_reducible refine Ext.trans ?_ (by with_reducible assumption)) | omega | (focus (simp <;> omega))))⟩

theorem own : ownKnob Try.prog.godebug = none := by kernel_rfl
theorem laidOut : laidOutB Try.prog = true := by kernel_rfl

/-- The row's step: the walk's end is what the row asks. -/
theorem lifted (os : Os) (started : os.Started) (H : Type) (enc : TypeId × Value → H) :
    ReturnsInHanded {} Try.checked os 7 .any (Rows.vectorZeroSpec.pre6 enc Try.prog Try.f7 Rows.vectorZeroRow.domain false) (Rows.vectorZeroSpec.post enc Try.prog Try.f7 false true false false) := by
  refine returnsInHanded_of_change (C := Try.checked) own started (by kernel_rfl) Try.func7
    (ChangeSpec.witness6 (enc := enc) (C := Try.checked) false ⟨#[], #[.agg #[.int .i64 0, .int .i64 0], .int .i64 0, .int .i64 0], []⟩ 8 (by kernel_rfl) (by kernel_rfl) (by kernel_rfl) (by kernel_rfl)) ?_
  intro W base args ds gs before hval0 hW hcnd _
  have hval : ∀ (j : Nat) t v, Try.f7.params[j]? = some t → args[j]? = some v → Value.okWide Try.prog W .any base t v := hval0
  have hW' := hW
  obtain ⟨p, q, hA0, hV, rfl, hfz, hnd⟩ := hW
  have hA : DataW.TrodAll enc Try.prog W 0 (fun _ => true) true Try.f7.params.toList args.toList ds p := hA0
  rw [Try.params7] at hA hval
  obtain ⟨v0, vs0, d0, ds0, p0, q0, hargs, rfl, rfl, h0, r0⟩ := trodAll_cons hA
  obtain ⟨v1, vs1, d1, ds1, p1, q1, rfl, rfl, rfl, h1, r1⟩ := trodAll_cons r0
  obtain ⟨v2, vs2, d2, ds2, p2, q2, rfl, rfl, rfl, h2, r2⟩ := trodAll_cons r1
  obtain ⟨rfl, rfl, rfl⟩ := trodAll_nil r2
  obtain rfl : args = #[v0, v1, v2] := by cases args; simp_all
  obtain ⟨rfl, rfl⟩ := trodVars_none hV
  have lt0 : ∀ x ∈ p0, x.block < W.heap.size := by obtain ⟨m, hm⟩ := h0; exact DataW.trod_lt m _ _ _ hm
  obtain ⟨a0x, a0y, rfl, ba0x, ba0y⟩ := open_str2 (u := 3) Try.underlying23 (by kernel_rfl) (by kernel_rfl) (by kernel_rfl) (hval 0 23 v0 rfl rfl)
  have lt1 : ∀ x ∈ p1, x.block < W.heap.size := by obtain ⟨m, hm⟩ := h1; exact DataW.trod_lt m _ _ _ hm
  obtain ⟨a1, rfl, b1⟩ := open_i64 Try.underlying3 (hval 1 3 v1 rfl rfl)
  have lt2 : ∀ x ∈ p2, x.block < W.heap.size := by obtain ⟨m, hm⟩ := h2; exact DataW.trod_lt m _ _ _ hm
  obtain ⟨a2, rfl, b2⟩ := open_i64 Try.underlying3 (hval 2 3 v2 rfl rfl)
  clear hA0 hval0
  refine (walk a0x a0y ba0x ba0y a1 b1 a2 b2 W).mono fun e W' ⟨he, bel0⟩ => ?_
  subst he
  have bel : Below W.heap.size W W' := bel0
  exact ⟨_, rfl, _, _, _, [], _, [], hW', trodAll_mk1 (shut_bool Try.underlying4 _), (trodAll_cons_mk (Below.trod laidOut (by kernel_rfl) (of_decide_eq_true (by kernel_rfl)) h0 bel lt0) (trodAll_cons_mk (Below.trod laidOut (by kernel_rfl) (of_decide_eq_true (by kernel_rfl)) h1 bel lt1) (trodAll_cons_mk (Below.trod laidOut (by kernel_rfl) (of_decide_eq_true (by kernel_rfl)) h2 bel lt2) trodAll_mk0))), rfl, bel.frame _, fun h => by cases h⟩

theorem over : Rows.vectorZeroRow.holds Try.pinned (OpenSpec.ofChange Rows.vectorZeroSpec) :=
  OpenClaim.holds_of_wide 7 Try.f7 rfl rfl rfl rfl rfl rfl rfl ⟨rfl, rfl, rfl, rfl, rfl⟩ rfl rfl rfl rfl rfl (by kernel_rfl) Try.func7 (by kernel_rfl)
    (of_decide_eq_true (by kernel_rfl)) (by unfold Func.isWrapper; first | (rw [if_pos (by decide +kernel)]; kernel_rfl) | (rw [if_neg (by decide +kernel)]; exact ⟨rfl, rfl⟩))
    (fun os started H enc _ => lifted os started H enc)

/-- The statement. -/
theorem proved : Rows.VectorZeroSaid := over
#print axioms proved
end Go.Proofs.Ytmifegcbhcgkfaa.vectorZero
