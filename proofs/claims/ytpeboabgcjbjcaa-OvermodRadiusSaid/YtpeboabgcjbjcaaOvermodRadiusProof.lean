/- OvermodRadius: Radius and Depth are as specified, for any ints.
   Conditions: none: every input. -/
import Derived.Test.YtpeboabgcjbjcaaAwakeOver
namespace Go.Proofs.Ytpeboabgcjbjcaa.overmodRadius
open Go.ChangeShapes Go.WideShapes Go.ChangeAt Go.RowKit
set_option linter.unusedVariables false

theorem walk (a0 : Int) (b0 : I64 a0) (a1 : Int) (b1 : I64 a1) (a2 : Int) (b2 : I64 a2) (w : World) :
    Calls Try.prog 8 #[.int .i64 a0, .int .i64 a1, .int .i64 a2] w fun e w' => e = .returned (.bool true) ∧ Ext w w' := by
  clear b0 b1 b2
  by_cases hm : MinOK a2
  · obtain ⟨r, hr⟩ : ∃ r, r = Pl.rad a2 := ⟨_, rfl⟩
    by_cases ho : OverOK a0 a1 a2
    · obtain ⟨d, hd⟩ : ∃ d, d = dep a0 a1 a2 := ⟨_, rfl⟩
      have HM := Lib.hid hm
      have HO := Lib.hid ho
      have HR := Lib.hid hr
      have HD := Lib.hid hd
      clear hm ho hr hd
      go_enter Try.func8, Try.ntmps8
      go_wp2_with fail
      refine (awake22 _).mono ?_
      rintro e wa ⟨rfl, hxwa⟩
      go_wp2_with fail
      refine (radius_ok a2 _ HM.out).mono ?_
      rw [← HR.out]
      rintro e w1 ⟨rfl, hxw1⟩
      go_wp2_with fail
      refine (radius22_ok a2 _ HM.out).mono ?_
      rw [← HR.out]
      rintro e w2 ⟨rfl, hxw2⟩
      go_wp2_with fail
      refine (depth_ok a0 a1 a2 _ HO.out).mono ?_
      rw [← HD.out]
      rintro e w3 ⟨rfl, hxw3⟩
      go_wp2_with fail
      refine (depth22_ok a0 a1 a2 _ HO.out).mono ?_
      rw [← HD.out]
      rintro e w4 ⟨rfl, hxw4⟩
      go_wp2_with fail
      refine (num_nil _).mono ?_
      rintro e w5 ⟨rfl, rfl⟩
      go_wp2_with fail
      refine (num_nil _).mono ?_
      rintro e w6 ⟨rfl, rfl⟩
      go_wp2_with fail
      go_ret
      exact ⟨(by first | rfl | exact ret_true (by simp <;> omega)), (by repeat (first | with_reducible exact Ext.refl _ | with_reducible assumption | (with_reducible refine Ext.drew ?_) | (with_reducible refine Ext.drewN ?_ _) | (with_reducible refine Ext.alloc ?_ _) | (with_reducible refine Ext.setCell ?_ ?_ _) | (with_reducible refine Ext.trans ?_ (by with_reducible assumption)) | omega | (focus (simp <;> omega))))⟩
    · have HM := Lib.hid hm
      have HO := Lib.hid ho
      have HR := Lib.hid hr
      clear hm ho hr
      go_enter Try.func8, Try.ntmps8
      go_wp2_with fail
      refine (awake22 _).mono ?_
      rintro e wa ⟨rfl, hxwa⟩
      go_wp2_with fail
      refine (radius_ok a2 _ HM.out).mono ?_
      rw [← HR.out]
      rintro e w1 ⟨rfl, hxw1⟩
      go_wp2_with fail
      refine (radius22_ok a2 _ HM.out).mono ?_
      rw [← HR.out]
      rintro e w2 ⟨rfl, hxw2⟩
      go_wp2_with fail
      refine (depth_bad a0 a1 a2 _ HO.out).mono ?_
      rw [errv_3]
      rintro e w3 ⟨rfl, hxw3⟩
      go_wp2_with fail
      refine (depth22_bad a0 a1 a2 _ HO.out).mono ?_
      rintro e w4 ⟨rfl, hxw4⟩
      go_wp2_with fail
      refine (num_nil _).mono ?_
      rintro e w5 ⟨rfl, rfl⟩
      go_wp2_with fail
      refine (num_err 3 _).mono ?_
      rintro e w6 ⟨rfl, rfl⟩
      go_wp2_with fail
      go_ret
      exact ⟨(by first | rfl | exact ret_true (by simp <;> omega)), (by repeat (first | with_reducible exact Ext.refl _ | with_reducible assumption | (with_reducible refine Ext.drew ?_) | (with_reducible refine Ext.drewN ?_ _) | (with_reducible refine Ext.alloc ?_ _) | (with_reducible refine Ext.setCell ?_ ?_ _) | (with_reducible refine Ext.trans ?_ (by with_reducible assumption)) | omega | (focus (simp <;> omega))))⟩
  · have ho : ¬ OverOK a0 a1 a2 := fun q => hm q.1
    have HM := Lib.hid hm
    have HO := Lib.hid ho
    clear hm ho
    go_enter Try.func8, Try.ntmps8
    go_wp2_with fail
    refine (awake22 _).mono ?_
    rintro e wa ⟨rfl, hxwa⟩
    go_wp2_with fail
    refine (radius_bad a2 _ HM.out).mono ?_
    rw [errv_3]
    rintro e w1 ⟨rfl, hxw1⟩
    go_wp2_with fail
    refine (radius22_bad a2 _ HM.out).mono ?_
    rintro e w2 ⟨rfl, hxw2⟩
    go_wp2_with fail
    refine (depth_bad a0 a1 a2 _ HO.out).mono ?_
    rw [errv_3]
    rintro e w3 ⟨rfl, hxw3⟩
    go_wp2_with fail
    refine (depth22_bad a0 a1 a2 _ HO.out).mono ?_
    rintro e w4 ⟨rfl, hxw4⟩
    go_wp2_with fail
    refine (num_err 3 _).mono ?_
    rintro e w5 ⟨rfl, rfl⟩
    go_wp2_with fail
    refine (num_err 3 _).mono ?_
    rintro e w6 ⟨rfl, rfl⟩
    go_wp2_with fail
    go_ret
    exact ⟨(by first | rfl | exact ret_true (by simp <;> omega)), (by repeat (first | with_reducible exact Ext.refl _ | with_reducible assumption | (with_reducible refine Ext.drew ?_) | (with_reducible refine Ext.drewN ?_ _) | (with_reducible refine Ext.alloc ?_ _) | (with_reducible refine Ext.setCell ?_ ?_ _) | (with_reducible refine Ext.trans ?_ (by with_reducible assumption)) | omega | (focus (simp <;> omega))))⟩

theorem own : ownKnob Try.prog.godebug = none := by kernel_rfl
theorem laidOut : laidOutB Try.prog = true := by kernel_rfl

/-- The row's step: the walk's end is what the row asks. -/
theorem lifted (os : Os) (started : os.Started) (H : Type) (enc : TypeId × Value → H) :
    ReturnsInHanded {} Try.checked os 8 .any (Rows.overmodRadiusSpec.pre6 enc Try.prog Try.f8 Rows.overmodRadiusRow.domain false) (Rows.overmodRadiusSpec.post enc Try.prog Try.f8 false true false false) := by
  refine returnsInHanded_of_change (C := Try.checked) own started (by kernel_rfl) Try.func8
    (ChangeSpec.witness6 (enc := enc) (C := Try.checked) false ⟨#[], #[.int .i64 0, .int .i64 0, .int .i64 0], []⟩ 8 (by kernel_rfl) (by kernel_rfl) (by kernel_rfl) (by kernel_rfl)) ?_
  intro W base args ds gs before hval0 hW hcnd _
  have hval : ∀ (j : Nat) t v, Try.f8.params[j]? = some t → args[j]? = some v → Value.okWide Try.prog W .any base t v := hval0
  have hW' := hW
  obtain ⟨p, q, hA0, hV, rfl, hfz, hnd⟩ := hW
  have hA : DataW.TrodAll enc Try.prog W 0 (fun _ => true) true Try.f8.params.toList args.toList ds p := hA0
  rw [Try.params8] at hA hval
  obtain ⟨v0, vs0, d0, ds0, p0, q0, hargs, rfl, rfl, h0, r0⟩ := trodAll_cons hA
  obtain ⟨v1, vs1, d1, ds1, p1, q1, rfl, rfl, rfl, h1, r1⟩ := trodAll_cons r0
  obtain ⟨v2, vs2, d2, ds2, p2, q2, rfl, rfl, rfl, h2, r2⟩ := trodAll_cons r1
  obtain ⟨rfl, rfl, rfl⟩ := trodAll_nil r2
  obtain rfl : args = #[v0, v1, v2] := by cases args; simp_all
  obtain ⟨rfl, rfl⟩ := trodVars_none hV
  have lt0 : ∀ x ∈ p0, x.block < W.heap.size := by obtain ⟨m, hm⟩ := h0; exact DataW.trod_lt m _ _ _ hm
  obtain ⟨a0, rfl, b0⟩ := open_i64 Try.underlying3 (hval 0 3 v0 rfl rfl)
  have lt1 : ∀ x ∈ p1, x.block < W.heap.size := by obtain ⟨m, hm⟩ := h1; exact DataW.trod_lt m _ _ _ hm
  obtain ⟨a1, rfl, b1⟩ := open_i64 Try.underlying3 (hval 1 3 v1 rfl rfl)
  have lt2 : ∀ x ∈ p2, x.block < W.heap.size := by obtain ⟨m, hm⟩ := h2; exact DataW.trod_lt m _ _ _ hm
  obtain ⟨a2, rfl, b2⟩ := open_i64 Try.underlying3 (hval 2 3 v2 rfl rfl)
  clear hA0 hval0
  refine (walk a0 b0 a1 b1 a2 b2 W).mono fun e W' ⟨he, bel0⟩ => ?_
  subst he
  have bel : Below W.heap.size W W' := bel0
  exact ⟨_, rfl, _, _, _, [], _, [], hW', trodAll_mk1 (shut_bool Try.underlying4 _), (trodAll_cons_mk (Below.trod laidOut (by kernel_rfl) (of_decide_eq_true (by kernel_rfl)) h0 bel lt0) (trodAll_cons_mk (Below.trod laidOut (by kernel_rfl) (of_decide_eq_true (by kernel_rfl)) h1 bel lt1) (trodAll_cons_mk (Below.trod laidOut (by kernel_rfl) (of_decide_eq_true (by kernel_rfl)) h2 bel lt2) trodAll_mk0))), rfl, bel.frame _, fun h => by cases h⟩

theorem over : Rows.overmodRadiusRow.holds Try.pinned (OpenSpec.ofChange Rows.overmodRadiusSpec) :=
  OpenClaim.holds_of_wide 8 Try.f8 rfl rfl rfl rfl rfl rfl rfl ⟨rfl, rfl, rfl, rfl, rfl⟩ rfl rfl rfl rfl rfl (by kernel_rfl) Try.func8 (by kernel_rfl)
    (of_decide_eq_true (by kernel_rfl)) (by unfold Func.isWrapper; first | (rw [if_pos (by decide +kernel)]; kernel_rfl) | (rw [if_neg (by decide +kernel)]; exact ⟨rfl, rfl⟩))
    (fun os started H enc _ => lifted os started H enc)

/-- The statement. -/
theorem proved : Rows.OvermodRadiusSaid := over
#print axioms proved
end Go.Proofs.Ytpeboabgcjbjcaa.overmodRadius
