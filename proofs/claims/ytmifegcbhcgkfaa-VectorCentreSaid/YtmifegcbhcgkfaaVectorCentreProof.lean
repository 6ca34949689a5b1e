/- VectorCentre: a vector that is inside is not limited, and its greatest and least count lie symmetrically.
   Conditions: none: every input. -/
import Derived.Test.YtmifegcbhcgkfaaAwakeVector
import Derived.Test.YtmifegcbhcgkfaaPlainVector2
namespace Go.Proofs.Ytmifegcbhcgkfaa.vectorCentre
open Go.ChangeShapes Go.WideShapes Go.ChangeAt Go.RowKit
set_option linter.unusedVariables false

set_option maxRecDepth 100000 in
set_option maxHeartbeats 1000000 in
theorem walk (a0x a0y : Int) (ba0x : I64 a0x) (ba0y : I64 a0y) (a1 : Int) (b1 : I64 a1) (a2 : Int) (b2 : I64 a2) (w : World) :
    Calls Try.prog 5 #[.agg #[.int .i64 a0x, .int .i64 a0y], .int .i64 a1, .int .i64 a2] w fun e w' => e = .returned (.bool true) ∧ Ext w w' := by
  clear ba0x ba0y b1 b2
  obtain ⟨X, hX⟩ : ∃ X, X = clip a0x (-1048576) (1048576) := ⟨_, rfl⟩
  have ⟨X1, X2⟩ := clip_bd a0x (-1048576) (1048576) (by omega)
  rw [← hX] at X1 X2
  have HX := Lib.hid hX
  clear hX
  obtain ⟨Y, hY⟩ : ∃ Y, Y = clip a0y (-1048576) (1048576) := ⟨_, rfl⟩
  have ⟨Y1, Y2⟩ := clip_bd a0y (-1048576) (1048576) (by omega)
  rw [← hY] at Y1 Y2
  have HY := Lib.hid hY
  clear hY
  obtain ⟨L, hL⟩ : ∃ L, L = clip a1 (1) (1048576) := ⟨_, rfl⟩
  have ⟨L1, L2⟩ := clip_bd a1 (1) (1048576) (by omega)
  rw [← hL] at L1 L2
  have HL := Lib.hid hL
  clear hL
  obtain ⟨T, hT⟩ : ∃ T, T = clip a2 (64) (4096) := ⟨_, rfl⟩
  have ⟨T1, T2⟩ := clip_bd a2 (64) (4096) (by omega)
  rw [← hT] at T1 T2
  have HT := Lib.hid hT
  clear hT
  have ok : DutyOK X Y L T := ⟨⟨L1, L2⟩, ⟨T1, T2⟩, ⟨X1, X2⟩, ⟨Y1, Y2⟩⟩
  have hc := Pl.centre (T := T) (L := L) (a := X) (b := Pl.pb X Y) (c := -X - Pl.pb X Y) (by omega) (by omega)
  obtain ⟨n0, hn0⟩ : ∃ n, n = d0 X Y L T := ⟨_, rfl⟩
  obtain ⟨n1, hn1⟩ : ∃ n, n = d1 X Y L T := ⟨_, rfl⟩
  obtain ⟨n2, hn2⟩ : ∃ n, n = d2 X Y L T := ⟨_, rfl⟩
  have hd : dutyOf X Y L T = dutyV (Pl.cn T n0) (Pl.cn T n1) (Pl.cn T n2) (Pl.lm T n0 || Pl.lm T n1 || Pl.lm T n2) := by rw [hn0, hn1, hn2]; rfl
  have hc' : Pl.sp X Y ≤ L → (Pl.lm T n0 || Pl.lm T n1 || Pl.lm T n2) = false ∧
      (max (Pl.cn T n0) (max (Pl.cn T n1) (Pl.cn T n2)) + min (Pl.cn T n0) (min (Pl.cn T n1) (Pl.cn T n2)) = T ∨ max (Pl.cn T n0) (max (Pl.cn T n1) (Pl.cn T n2)) + min (Pl.cn T n0) (min (Pl.cn T n1) (Pl.cn T n2)) = T - 1) := by
    rw [hn0, hn1, hn2]; exact hc
  clear hc
  have ⟨k1, k2⟩ := Pl.cn_bd (T := T) (n := n0) (by omega)
  have ⟨k3, k4⟩ := Pl.cn_bd (T := T) (n := n1) (by omega)
  have ⟨k5, k6⟩ := Pl.cn_bd (T := T) (n := n2) (by omega)
  generalize Pl.cn T n0 = k0 at *
  generalize Pl.cn T n1 = kk1 at *
  generalize Pl.cn T n2 = kk2 at *
  generalize (Pl.lm T n0 || Pl.lm T n1 || Pl.lm T n2) = l at *
  unfold dutyV at hd
  have HD := Lib.hid hd
  have OK := Lib.hid ok
  clear hd ok hn0 hn1 hn2
  rcases Int.lt_or_le L (Pl.sp X Y) with hi | hi
  · have HI : Hid (decide (Pl.sp X Y ≤ L) = false) := Lib.hid (decide_eq_false (by omega))
    clear hc' hi
    go_enter Try.func5, Try.ntmps5
    go_wp2_with fail
    refine (awake21 _).mono ?_
    rintro e wa ⟨rfl, hxwa⟩
    have A := (Blk.new w [.int .i64 a0x, .int .i64 a0y] 23).ext hxwa
    have c0 := A.at 0 _ rfl
    have c1 := A.at 1 _ rfl
    have cf := A.fr
    have cn := A.lt
    go_wp2_with fail
    refine (fit21 a0x a0y a1 a2 _).mono ?_
    rw [← HX.out, ← HY.out, ← HL.out, ← HT.out]
    rintro e w1 ⟨rfl, hxw1⟩
    have A1 := A.ext hxw1
    have d0 := A1.at 0 _ rfl
    have d1 := A1.at 1 _ rfl
    have df := A1.fr
    have dn := A1.lt
    have A2 := (A1.set 0 (.int .i64 X) (by simp)).set 1 (.int .i64 Y) (by simp)
    have f0 := A2.at 0 _ rfl
    have f1 := A2.at 1 _ rfl
    have ff := A2.fr
    have fn := A2.lt
    go_wp2_with fail
    refine (duty_ok X Y L T _ OK.out).mono ?_
    rw [HD.out]
    rintro e w3 ⟨rfl, hxw3⟩
    have A3 := A2.ext hxw3
    have g0 := A3.at 0 _ rfl
    have g1 := A3.at 1 _ rfl
    have gf := A3.fr
    have gn := A3.lt
    go_wp2_with fail
    refine (inside_ok X Y L _ OK.out.2.2.1 OK.out.2.2.2 OK.out.1).mono ?_
    rw [HI.out]
    rintro e w4 ⟨rfl, hxw4⟩
    have D := (Blk.new w3 [.int .i64 k0, .int .i64 kk1, .int .i64 kk2, .bool l] 27).ext hxw4
    have e0 := D.at 0 _ rfl
    have e1 := D.at 1 _ rfl
    have e2 := D.at 2 _ rfl
    have e3 := D.at 3 _ rfl
    have ef := D.fr
    have en := D.lt
    go_wp2_with fail
    go_quiet (fail)
    go_wp2_with fail
    go_ret
    exact ⟨(by first | rfl | exact ret_true (by simp <;> omega)), (by repeat (first | with_reducible exact Ext.refl _ | with_reducible assumption | (with_reducible refine Ext.drew ?_) | (with_reducible refine Ext.drewN ?_ _) | (with_reducible refine Ext.alloc ?_ _) | (with_reducible refine Ext.setCell ?_ ?_ _) | (with_reducible refine Ext.trans ?_ (by with_reducible assumption)) | omega | (focus (simp <;> omega))))⟩
  · obtain ⟨rfl, hsum⟩ := hc' hi
    have HI : Hid (decide (Pl.sp X Y ≤ L) = true) := Lib.hid (decide_eq_true hi)
    clear hc' hi
    rcases hsum with hs | hs
    · have g1 : max k0 (max kk1 kk2) + min k0 (min kk1 kk2) ≤ T := by omega
      have g2 : T ≤ max k0 (max kk1 kk2) + min k0 (min kk1 kk2) := by omega
      clear hs
      go_enter Try.func5, Try.ntmps5
      go_wp2_with fail
      refine (awake21 _).mono ?_
      rintro e wa ⟨rfl, hxwa⟩
      have A := (Blk.new w [.int .i64 a0x, .int .i64 a0y] 23).ext hxwa
      have c0 := A.at 0 _ rfl
      have c1 := A.at 1 _ rfl
      have cf := A.fr
      have cn := A.lt
      go_wp2_with fail
      refine (fit21 a0x a0y a1 a2 _).mono ?_
      rw [← HX.out, ← HY.out, ← HL.out, ← HT.out]
      rintro e w1 ⟨rfl, hxw1⟩
      have A1 := A.ext hxw1
      have d0 := A1.at 0 _ rfl
      have d1 := A1.at 1 _ rfl
      have df := A1.fr
      have dn := A1.lt
      have A2 := (A1.set 0 (.int .i64 X) (by simp)).set 1 (.int .i64 Y) (by simp)
      have f0 := A2.at 0 _ rfl
      have f1 := A2.at 1 _ rfl
      have ff := A2.fr
      have fn := A2.lt
      go_wp2_with fail
      refine (duty_ok X Y L T _ OK.out).mono ?_
      rw [HD.out]
      rintro e w3 ⟨rfl, hxw3⟩
      have A3 := A2.ext hxw3
      have g0 := A3.at 0 _ rfl
      have g1 := A3.at 1 _ rfl
      have gf := A3.fr
      have gn := A3.lt
      go_wp2_with fail
      refine (inside_ok X Y L _ OK.out.2.2.1 OK.out.2.2.2 OK.out.1).mono ?_
      rw [HI.out]
      rintro e w4 ⟨rfl, hxw4⟩
      have D := (Blk.new w3 [.int .i64 k0, .int .i64 kk1, .int .i64 kk2, .bool false] 27).ext hxw4
      have e0 := D.at 0 _ rfl
      have e1 := D.at 1 _ rfl
      have e2 := D.at 2 _ rfl
      have e3 := D.at 3 _ rfl
      have ef := D.fr
      have en := D.lt
      go_wp2_with fail
      go_quiet (fail)
      go_wp2_with fail
      go_ret
      exact ⟨(by first | rfl | exact ret_true (by simp <;> omega)), (by repeat (first | with_reducible exact Ext.refl _ | with_reducible assumption | (with_reducible refine Ext.drew ?_) | (with_reducible refine Ext.drewN ?_ _) | (with_reducible refine Ext.alloc ?_ _) | (with_reducible refine Ext.setCell ?_ ?_ _) | (with_reducible refine Ext.trans ?_ (by with_reducible assumption)) | omega | (focus (simp <;> omega))))⟩
    · have g1 : max k0 (max kk1 kk2) + min k0 (min kk1 kk2) ≤ T - 1 := by omega
      have g2 : T - 1 ≤ max k0 (max kk1 kk2) + min k0 (min kk1 kk2) := by omega
      clear hs
      go_enter Try.func5, Try.ntmps5
      go_wp2_with fail
      refine (awake21 _).mono ?_
      rintro e wa ⟨rfl, hxwa⟩
      have A := (Blk.new w [.int .i64 a0x, .int .i64 a0y] 23).ext hxwa
      have c0 := A.at 0 _ rfl
      have c1 := A.at 1 _ rfl
      have cf := A.fr
      have cn := A.lt
      go_wp2_with fail
      refine (fit21 a0x a0y a1 a2 _).mono ?_
      rw [← HX.out, ← HY.out, ← HL.out, ← HT.out]
      rintro e w1 ⟨rfl, hxw1⟩
      have A1 := A.ext hxw1
      have d0 := A1.at 0 _ rfl
      have d1 := A1.at 1 _ rfl
      have df := A1.fr
      have dn := A1.lt
      have A2 := (A1.set 0 (.int .i64 X) (by simp)).set 1 (.int .i64 Y) (by simp)
      have f0 := A2.at 0 _ rfl
      have f1 := A2.at 1 _ rfl
      have ff := A2.fr
      have fn := A2.lt
      go_wp2_with fail
      refine (duty_ok X Y L T _ OK.out).mono ?_
      rw [HD.out]
      rintro e w3 ⟨rfl, hxw3⟩
      have A3 := A2.ext hxw3
      have g0 := A3.at 0 _ rfl
      have g1 := A3.at 1 _ rfl
      have gf := A3.fr
      have gn := A3.lt
      go_wp2_with fail
      refine (inside_ok X Y L _ OK.out.2.2.1 OK.out.2.2.2 OK.out.1).mono ?_
      rw [HI.out]
      rintro e w4 ⟨rfl, hxw4⟩
      have D := (Blk.new w3 [.int .i64 k0, .int .i64 kk1, .int .i64 kk2, .bool false] 27).ext hxw4
      have e0 := D.at 0 _ rfl
      have e1 := D.at 1 _ rfl
      have e2 := D.at 2 _ rfl
      have e3 := D.at 3 _ rfl
      have ef := D.fr
      have en := D.lt
      go_wp2_with fail
      go_quiet (fail)
      go_wp2_with fail
      go_ret
      exact ⟨(by first | rfl | exact ret_true (by simp <;> omega)), (by repeat (first | with_reducible exact Ext.refl _ | with_reducible assumption | (with_reducible refine Ext.drew ?_) | (with_reducible refine Ext.drewN ?_ _) | (with_reducible refine Ext.alloc ?_ _) | (with_reducible refine Ext.setCell ?_ ?_ _) | (with_reducible refine Ext.trans ?_ (by with_reducible assumption)) | omega | (focus (simp <;> omega))))⟩

theorem own : ownKnob Try.prog.godebug = none := by kernel_rfl
theorem laidOut : laidOutB Try.prog = true := by kernel_rfl

/-- The row's step: the walk's end is what the row asks. -/
theorem lifted (os : Os) (started : os.Started) (H : Type) (enc : TypeId × Value → H) :
    ReturnsInHanded {} Try.checked os 5 .any (Rows.vectorCentreSpec.pre6 enc Try.prog Try.f5 Rows.vectorCentreRow.domain false) (Rows.vectorCentreSpec.post enc Try.prog Try.f5 false true false false) := by
  refine returnsInHanded_of_change (C := Try.checked) own started (by kernel_rfl) Try.func5
    (ChangeSpec.witness6 (enc := enc) (C := Try.checked) false ⟨#[], #[.agg #[.int .i64 0, .int .i64 0], .int .i64 0, .int .i64 0], []⟩ 8 (by kernel_rfl) (by kernel_rfl) (by kernel_rfl) (by kernel_rfl)) ?_
  intro W base args ds gs before hval0 hW hcnd _
  have hval : ∀ (j : Nat) t v, Try.f5.params[j]? = some t → args[j]? = some v → Value.okWide Try.prog W .any base t v := hval0
  have hW' := hW
  obtain ⟨p, q, hA0, hV, rfl, hfz, hnd⟩ := hW
  have hA : DataW.TrodAll enc Try.prog W 0 (fun _ => true) true Try.f5.params.toList args.toList ds p := hA0
  rw [Try.params5] at hA hval
  obtain ⟨v0, vs0, d0, ds0, p0, q0, hargs, rfl, rfl, h0, r0⟩ := trodAll_cons hA
  obtain ⟨v1, vs1, d1, ds1, p1, q1, rfl, rfl, rfl, h1, r1⟩ := trodAll_cons r0
  obtain ⟨v2, vs2, d2, ds2, p2, q2, rfl, rfl, rfl, h2, r2⟩ := trodAll_cons r1
  obtain ⟨rfl, rfl, rfl⟩ := trodAll_nil r2
  obtain rfl : args = #[v0, v1, v2] := by cases args; simp_all
  obtain ⟨rfl, rfl⟩ := trodVars_none hV
  have lt0 : ∀ x ∈ p0, x.block < W.heap.size := by obtain ⟨m, hm⟩ := h0; exact DataW.trod_lt m _ _ _ hm
  obtain ⟨a0x, a0y, rfl, ba0x, ba0y⟩ := open_str2 (u := 3) Try.underlying23 (by kernel_rfl) (by kernel_rfl) (by kernel_rfl) (hval 0 23 v0 rfl rfl)
  have lt1 : ∀ x ∈ p1, x.block < W.heap.size := by obtain ⟨m, hm⟩ := h1; exact DataW.trod_lt m _ _ _ hm
  obtain ⟨a1, rfl, b1⟩ := open_i64 Try.underlying3 (hval 1 3 v1 rfl rfl)
  have lt2 : ∀ x ∈ p2, x.block < W.heap.size := by obtain ⟨m, hm⟩ := h2; exact DataW.trod_lt m _ _ _ hm
  obtain ⟨a2, rfl, b2⟩ := open_i64 Try.underlying3 (hval 2 3 v2 rfl rfl)
  clear hA0 hval0
  refine (walk a0x a0y ba0x ba0y a1 b1 a2 b2 W).mono fun e W' ⟨he, bel0⟩ => ?_
  subst he
  have bel : Below W.heap.size W W' := bel0
  exact ⟨_, rfl, _, _, _, [], _, [], hW', trodAll_mk1 (shut_bool Try.underlying4 _), (trodAll_cons_mk (Below.trod laidOut (by kernel_rfl) (of_decide_eq_true (by kernel_rfl)) h0 bel lt0) (trodAll_cons_mk (Below.trod laidOut (by kernel_rfl) (of_decide_eq_true (by kernel_rfl)) h1 bel lt1) (trodAll_cons_mk (Below.trod laidOut (by kernel_rfl) (of_decide_eq_true (by kernel_rfl)) h2 bel lt2) trodAll_mk0))), rfl, bel.frame _, fun h => by cases h⟩

theorem over : Rows.vectorCentreRow.holds Try.pinned (OpenSpec.ofChange Rows.vectorCentreSpec) :=
  OpenClaim.holds_of_wide 5 Try.f5 rfl rfl rfl rfl rfl rfl rfl ⟨rfl, rfl, rfl, rfl, rfl⟩ rfl rfl rfl rfl rfl (by kernel_rfl) Try.func5 (by kernel_rfl)
    (of_decide_eq_true (by kernel_rfl)) (by unfold Func.isWrapper; first | (rw [if_pos (by decide +kernel)]; kernel_rfl) | (rw [if_neg (by decide +kernel)]; exact ⟨rfl, rfl⟩))
    (fun os started H enc _ => lifted os started H enc)

/-- The statement. -/
theorem proved : Rows.VectorCentreSaid := over
#print axioms proved
end Go.Proofs.Ytmifegcbhcgkfaa.vectorCentre
