/- VectorThere: the counts of a vector that is inside make this vector, to within one count's voltage, 5 mV and a 10000th.
   Conditions: none: every input. -/
import Derived.Test.YtmifegcbhcgkfaaAwakeVector
import Derived.Test.YtmifegcbhcgkfaaPlainVector2
import Derived.Test.YtmifegcbhcgkfaaVolts
namespace Go.Proofs.Ytmifegcbhcgkfaa.vectorThere
open Go.ChangeShapes Go.WideShapes Go.ChangeAt Go.RowKit
set_option linter.unusedVariables false

set_option maxRecDepth 100000 in
set_option maxHeartbeats 1000000 in
theorem walk (a0x a0y : Int) (ba0x : I64 a0x) (ba0y : I64 a0y) (a1 : Int) (b1 : I64 a1) (a2 : Int) (b2 : I64 a2) (w : World) :
    Calls Try.prog 8 #[.agg #[.int .i64 a0x, .int .i64 a0y], .int .i64 a1, .int .i64 a2] w fun e w' => e = .returned (.bool true) ∧ Ext w w' := by
  clear ba0x ba0y b1 b2
  obtain ⟨X, hX⟩ : ∃ X, X = clip a0x (-1048576) (1048576) := ⟨_, rfl⟩
  have ⟨X1, X2⟩ := clip_bd a0x (-1048576) (1048576) (by omega)
  rw [← hX] at X1 X2
  have HX := Lib.hid hX
  clear hX
  obtain ⟨Y, hY⟩ : ∃ Y, Y = clip a0y (-1048576) (1048576) := ⟨_, rfl⟩
  have ⟨Y1, Y2⟩ := clip_bd a0y (-1048576) (1048576) (by omega)
  rw [← hY] at Y1 Y2
  have HY := Lib.hid hY
  clear hY
  obtain ⟨L, hL⟩ : ∃ L, L = clip a1 (1) (1048576) := ⟨_, rfl⟩
  have ⟨L1, L2⟩ := clip_bd a1 (1) (1048576) (by omega)
  rw [← hL] at L1 L2
  have HL := Lib.hid hL
  clear hL
  obtain ⟨T, hT⟩ : ∃ T, T = clip a2 (64) (4096) := ⟨_, rfl⟩
  have ⟨T1, T2⟩ := clip_bd a2 (64) (4096) (by omega)
  rw [← hT] at T1 T2
  have HT := Lib.hid hT
  clear hT
  have ok : DutyOK X Y L T := ⟨⟨L1, L2⟩, ⟨T1, T2⟩, ⟨X1, X2⟩, ⟨Y1, Y2⟩⟩
  have OK := Lib.hid ok
  rcases Int.lt_or_le L (Pl.sp X Y) with hi | hi
  · have HI : Hid (decide (Pl.sp X Y ≤ L) = false) := Lib.hid (decide_eq_false (by omega))
    clear hi ok
    go_enter Try.func8, Try.ntmps8
    go_wp2_with fail
    refine (awake21 _).mono ?_
    rintro e wa ⟨rfl, hxwa⟩
    have A := (Blk.new w [.int .i64 a0x, .int .i64 a0y] 23).ext hxwa
    have c0 := A.at 0 _ rfl
    have c1 := A.at 1 _ rfl
    have cf := A.fr
    have cn := A.lt
    go_wp2_with fail
    refine (fit21 a0x a0y a1 a2 _).mono ?_
    rw [← HX.out, ← HY.out, ← HL.out, ← HT.out]
    rintro e w1 ⟨rfl, hxw1⟩
    have A1 := A.ext hxw1
    have d0 := A1.at 0 _ rfl
    have d1 := A1.at 1 _ rfl
    have df := A1.fr
    have dn := A1.lt
    have A2 := (A1.set 0 (.int .i64 X) (by simp)).set 1 (.int .i64 Y) (by simp)
    have f0 := A2.at 0 _ rfl
    have f1 := A2.at 1 _ rfl
    have ff := A2.fr
    have fn := A2.lt
    go_wp2_with fail
    refine (inside_ok X Y L _ OK.out.2.2.1 OK.out.2.2.2 OK.out.1).mono ?_
    rw [HI.out]
    rintro e w3 ⟨rfl, hxw3⟩
    go_wp2_with fail
    go_ret
    exact ⟨(by first | rfl | exact ret_true (by simp <;> omega)), (by repeat (first | with_reducible exact Ext.refl _ | with_reducible assumption | (with_reducible refine Ext.drew ?_) | (with_reducible refine Ext.drewN ?_ _) | (with_reducible refine Ext.alloc ?_ _) | (with_reducible refine Ext.setCell ?_ ?_ _) | (with_reducible refine Ext.trans ?_ (by with_reducible assumption)) | omega | (focus (simp <;> omega))))⟩
  · have HI : Hid (decide (Pl.sp X Y ≤ L) = true) := Lib.hid (decide_eq_true hi)
    have hc := Pl.centre (T := T) (L := L) (a := X) (b := Pl.pb X Y) (c := -X - Pl.pb X Y) (by omega) (by omega) hi
    have hl : (Pl.lm T (d0 X Y L T) || Pl.lm T (d1 X Y L T) || Pl.lm T (d2 X Y L T)) = false := hc.1
    have hl' := hl
    simp only [Bool.or_eq_false_iff] at hl'
    have e0 := Pl.lm_false hl'.1.1
    have e1 := Pl.lm_false hl'.1.2
    have e2 := Pl.lm_false hl'.2
    have ⟨k1, k2⟩ := Pl.cn_bd (T := T) (n := d0 X Y L T) (by omega)
    have ⟨k3, k4⟩ := Pl.cn_bd (T := T) (n := d1 X Y L T) (by omega)
    have ⟨k5, k6⟩ := Pl.cn_bd (T := T) (n := d2 X Y L T) (by omega)
    have hd : dutyOf X Y L T = dutyV (d0 X Y L T) (d1 X Y L T) (d2 X Y L T) false := by unfold dutyOf; rw [hl, e0, e1, e2]
    rw [e0] at k1 k2
    rw [e1] at k3 k4
    rw [e2] at k5 k6
    have tb := Pl.there_back (T := T) (L := L) (al := X) (be := Y) (by omega) (by omega)
    have tb' : (Pl.fa (vq (d0 X Y L T) L T) (vq (d1 X Y L T) L T) (vq (d2 X Y L T) L T) - X ≤ L / T + 5 ∧ X - Pl.fa (vq (d0 X Y L T) L T) (vq (d1 X Y L T) L T) (vq (d2 X Y L T) L T) ≤ L / T + 5) ∧
        (Pl.fb (vq (d1 X Y L T) L T) (vq (d2 X Y L T) L T) - Y ≤ L / T + 5 + (max Y (-Y)) / 10000 ∧ Y - Pl.fb (vq (d1 X Y L T) L T) (vq (d2 X Y L T) L T) ≤ L / T + 5 + (max Y (-Y)) / 10000) := tb
    clear tb hc hl hl' e0 e1 e2
    generalize d0 X Y L T = n0 at *
    generalize d1 X Y L T = n1 at *
    generalize d2 X Y L T = n2 at *
    have okc : CountsOK n0 n1 n2 T := ⟨⟨k1, k2⟩, ⟨k3, k4⟩, k5, k6⟩
    have ⟨_, _, q1, q2⟩ := vq_bd okc.1 ok.1 ok.2.1
    have ⟨_, _, q3, q4⟩ := vq_bd okc.2.1 ok.1 ok.2.1
    have ⟨_, _, q5, q6⟩ := vq_bd okc.2.2 ok.1 ok.2.1
    have ⟨A1b, A2b⟩ := Pl.fa_bd (vq n0 L T) (vq n1 L T) (vq n2 L T) 1048576 ⟨by omega, by omega⟩ ⟨by omega, by omega⟩ ⟨by omega, by omega⟩
    have ⟨B1b, B2b⟩ := Pl.fb_bd (vq n1 L T) (vq n2 L T) 1048576 ⟨by omega, by omega⟩ ⟨by omega, by omega⟩
    clear q1 q2 q3 q4 q5 q6
    obtain ⟨a, ha⟩ : ∃ a, a = Pl.fa (vq n0 L T) (vq n1 L T) (vq n2 L T) := ⟨_, rfl⟩
    obtain ⟨b, hb⟩ : ∃ b, b = Pl.fb (vq n1 L T) (vq n2 L T) := ⟨_, rfl⟩
    rw [← ha] at A1b A2b tb'
    rw [← hb] at B1b B2b tb'
    have hk : 0 ≤ L / T := Int.ediv_nonneg (by omega) (by omega)
    have hk2 : L / T ≤ 1048576 := Int.le_trans (Int.ediv_le_self T (by omega)) L2
    have u1 : max (a - X) (-(a - X)) ≤ L / T + 5 + max X (-X) / 10000 := by omega
    have u2 : max (b - Y) (-(b - Y)) ≤ L / T + 5 + max Y (-Y) / 10000 := by omega
    have mX : 0 ≤ max X (-X) / 10000 ∧ max X (-X) / 10000 ≤ 1048576 := by omega
    have mY : 0 ≤ max Y (-Y) / 10000 ∧ max Y (-Y) / 10000 ≤ 1048576 := by omega
    have wa0 : IntKind.i64.wrap (a - X) = a - X := IntWalk.i64_in _ (by omega)
    have wb0 : IntKind.i64.wrap (b - Y) = b - Y := IntWalk.i64_in _ (by omega)
    have w1 : IntKind.i64.wrap (-(a - X)) = -(a - X) := IntWalk.i64_in _ (by omega)
    have w2 : IntKind.i64.wrap (L.tdiv T) = L / T := by rw [Int.tdiv_eq_ediv_of_nonneg (by omega)]; exact IntWalk.i64_in _ (by omega)
    have w3 : IntKind.i64.wrap (L / T + 5) = L / T + 5 := IntWalk.i64_in _ (by omega)
    have w4 : IntKind.i64.wrap (-X) = -X := IntWalk.i64_in _ (by omega)
    have w5 : IntKind.i64.wrap ((max X (-X)).tdiv 10000) = max X (-X) / 10000 := by rw [Int.tdiv_eq_ediv_of_nonneg (by omega)]; exact IntWalk.i64_in _ (by omega)
    have w6 : IntKind.i64.wrap (L / T + 5 + max X (-X) / 10000) = L / T + 5 + max X (-X) / 10000 := IntWalk.i64_in _ (by omega)
    have w7 : IntKind.i64.wrap (-(b - Y)) = -(b - Y) := IntWalk.i64_in _ (by omega)
    have w8 : IntKind.i64.wrap (-Y) = -Y := IntWalk.i64_in _ (by omega)
    have w9 : IntKind.i64.wrap ((max Y (-Y)).tdiv 10000) = max Y (-Y) / 10000 := by rw [Int.tdiv_eq_ediv_of_nonneg (by omega)]; exact IntWalk.i64_in _ (by omega)
    have w10 : IntKind.i64.wrap (L / T + 5 + max Y (-Y) / 10000) = L / T + 5 + max Y (-Y) / 10000 := IntWalk.i64_in _ (by omega)
    have t0 : ¬ T = 0 := by omega
    have OKC := Lib.hid okc
    have HA := Lib.hid ha
    have HB := Lib.hid hb
    unfold dutyV at hd
    have HD := Lib.hid hd
    clear okc ha hb hd tb' ok hi mX mY
    go_enter Try.func8, Try.ntmps8
    go_wp2_with fail
    refine (awake21 _).mono ?_
    rintro e wa ⟨rfl, hxwa⟩
    have A := (Blk.new w [.int .i64 a0x, .int .i64 a0y] 23).ext hxwa
    have c0 := A.at 0 _ rfl
    have c1 := A.at 1 _ rfl
    have cf := A.fr
    have cn := A.lt
    go_wp2_with fail
    refine (fit21 a0x a0y a1 a2 _).mono ?_
    rw [← HX.out, ← HY.out, ← HL.out, ← HT.out]
    rintro e w1 ⟨rfl, hxw1⟩
    have A1 := A.ext hxw1
    have d0 := A1.at 0 _ rfl
    have d1 := A1.at 1 _ rfl
    have df := A1.fr
    have dn := A1.lt
    have A2 := (A1.set 0 (.int .i64 X) (by simp)).set 1 (.int .i64 Y) (by simp)
    have f0 := A2.at 0 _ rfl
    have f1 := A2.at 1 _ rfl
    have ff := A2.fr
    have fn := A2.lt
    go_wp2_with fail
    refine (inside_ok X Y L _ OK.out.2.2.1 OK.out.2.2.2 OK.out.1).mono ?_
    rw [HI.out]
    rintro e w3 ⟨rfl, hxw3⟩
    have A3 := A2.ext hxw3
    have g0 := A3.at 0 _ rfl
    have g1 := A3.at 1 _ rfl
    have gf := A3.fr
    have gn := A3.lt
    go_wp2_with fail
    refine (duty_ok X Y L T _ OK.out).mono ?_
    rw [HD.out]
    rintro e w4 ⟨rfl, hxw4⟩
    have A4 := A3.ext hxw4
    have r0 := A4.at 0 _ rfl
    have r1 := A4.at 1 _ rfl
    have rf := A4.fr
    have rn := A4.lt
    go_wp2_with fail
    refine (volts_ok n0 n1 n2 L T _ ⟨OK.out.1, OK.out.2.1, OKC.out⟩).mono ?_
    rw [← HA.out, ← HB.out]
    rintro e w5 ⟨rfl, hxw5⟩
    have A5 : Blk w5 w.heap.size [.int .i64 X, .int .i64 Y] := (A4.alloc _).ext hxw5
    have j0 := A5.at 0 _ rfl
    have j1 := A5.at 1 _ rfl
    have jf := A5.fr
    have jn := A5.lt
    go_wp2_with fail
    go_quiet (fail)
    go_wp2_with fail
    go_quiet (fail)
    go_wp2_with fail
    go_ret
    exact ⟨(by first | rfl | exact ret_true (by simp <;> omega)), (by repeat (first | with_reducible exact Ext.refl _ | with_reducible assumption | (with_reducible refine Ext.drew ?_) | (with_reducible refine Ext.drewN ?_ _) | (with_reducible refine Ext.alloc ?_ _) | (with_reducible refine Ext.setCell ?_ ?_ _) | (with_reducible refine Ext.trans ?_ (by with_reducible assumption)) | omega | (focus (simp <;> omega))))⟩

theorem own : ownKnob Try.prog.godebug = none := by kernel_rfl
theorem laidOut : laidOutB Try.prog = true := by kernel_rfl

/-- The row's step: the walk's end is what the row asks. -/
theorem lifted (os : Os) (started : os.Started) (H : Type) (enc : TypeId × Value → H) :
    ReturnsInHanded {} Try.checked os 8 .any (Rows.vectorThereSpec.pre6 enc Try.prog Try.f8 Rows.vectorThereRow.domain false) (Rows.vectorThereSpec.post enc Try.prog Try.f8 false true false false) := by
  refine returnsInHanded_of_change (C := Try.checked) own started (by kernel_rfl) Try.func8
    (ChangeSpec.witness6 (enc := enc) (C := Try.checked) false ⟨#[], #[.agg #[.int .i64 0, .int .i64 0], .int .i64 0, .int .i64 0], []⟩ 8 (by kernel_rfl) (by kernel_rfl) (by kernel_rfl) (by kernel_rfl)) ?_
  intro W base args ds gs before hval0 hW hcnd _
  have hval : ∀ (j : Nat) t v, Try.f8.params[j]? = some t → args[j]? = some v → Value.okWide Try.prog W .any base t v := hval0
  have hW' := hW
  obtain ⟨p, q, hA0, hV, rfl, hfz, hnd⟩ := hW
  have hA : DataW.TrodAll enc Try.prog W 0 (fun _ => true) true Try.f8.params.toList args.toList ds p := hA0
  rw [Try.params8] at hA hval
  obtain ⟨v0, vs0, d0, ds0, p0, q0, hargs, rfl, rfl, h0, r0⟩ := trodAll_cons hA
  obtain ⟨v1, vs1, d1, ds1, p1, q1, rfl, rfl, rfl, h1, r1⟩ := trodAll_cons r0
  obtain ⟨v2, vs2, d2, ds2, p2, q2, rfl, rfl, rfl, h2, r2⟩ := trodAll_cons r1
  obtain ⟨rfl, rfl, rfl⟩ := trodAll_nil r2
  obtain rfl : args = #[v0, v1, v2] := by cases args; simp_all
  obtain ⟨rfl, rfl⟩ := trodVars_none hV
  have lt0 : ∀ x ∈ p0, x.block < W.heap.size := by obtain ⟨m, hm⟩ := h0; exact DataW.trod_lt m _ _ _ hm
  obtain ⟨a0x, a0y, rfl, ba0x, ba0y⟩ := open_str2 (u := 3) Try.underlying23 (by kernel_rfl) (by kernel_rfl) (by kernel_rfl) (hval 0 23 v0 rfl rfl)
  have lt1 : ∀ x ∈ p1, x.block < W.heap.size := by obtain ⟨m, hm⟩ := h1; exact DataW.trod_lt m _ _ _ hm
  obtain ⟨a1, rfl, b1⟩ := open_i64 Try.underlying3 (hval 1 3 v1 rfl rfl)
  have lt2 : ∀ x ∈ p2, x.block < W.heap.size := by obtain ⟨m, hm⟩ := h2; exact DataW.trod_lt m _ _ _ hm
  obtain ⟨a2, rfl, b2⟩ := open_i64 Try.underlying3 (hval 2 3 v2 rfl rfl)
  clear hA0 hval0
  refine (walk a0x a0y ba0x ba0y a1 b1 a2 b2 W).mono fun e W' ⟨he, bel0⟩ => ?_
  subst he
  have bel : Below W.heap.size W W' := bel0
  exact ⟨_, rfl, _, _, _, [], _, [], hW', trodAll_mk1 (shut_bool Try.underlying4 _), (trodAll_cons_mk (Below.trod laidOut (by kernel_rfl) (of_decide_eq_true (by kernel_rfl)) h0 bel lt0) (trodAll_cons_mk (Below.trod laidOut (by kernel_rfl) (of_decide_eq_true (by kernel_rfl)) h1 bel lt1) (trodAll_cons_mk (Below.trod laidOut (by kernel_rfl) (of_decide_eq_true (by kernel_rfl)) h2 bel lt2) trodAll_mk0))), rfl, bel.frame _, fun h => by cases h⟩

theorem over : Rows.vectorThereRow.holds Try.pinned (OpenSpec.ofChange Rows.vectorThereSpec) :=
  OpenClaim.holds_of_wide 8 Try.f8 rfl rfl rfl rfl rfl rfl rfl ⟨rfl, rfl, rfl, rfl, rfl⟩ rfl rfl rfl rfl rfl (by kernel_rfl) Try.func8 (by kernel_rfl)
    (of_decide_eq_true (by kernel_rfl)) (by unfold Func.isWrapper; first | (rw [if_pos (by decide +kernel)]; kernel_rfl) | (rw [if_neg (by decide +kernel)]; exact ⟨rfl, rfl⟩))
    (fun os started H enc _ => lifted os started H enc)

/-- The statement. -/
theorem proved : Rows.VectorThereSaid := over
#print axioms proved
end Go.Proofs.Ytmifegcbhcgkfaa.vectorThere
