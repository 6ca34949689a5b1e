/- RootAxes: with what Rest leaves a vector is within the length, and with one more it is not.
   Conditions: none: every input. -/
import Derived.Test.YtelmeebpnbhoiaaAwakeRoot
namespace Go.Proofs.Ytelmeebpnbhoiaa.rootAxes
open Go.ChangeShapes Go.WideShapes Go.ChangeAt Go.RowKit
set_option linter.unusedVariables false

theorem walk (a0 : Int) (b0 : I64 a0) (a1 : Int) (b1 : I64 a1) (w : World) :
    Calls Try.prog 8 #[.int .i64 a0, .int .i64 a1] w fun e w' => e = .returned (.bool true) ∧ Ext w w' := by
  clear b0 b1
  obtain ⟨m, hm⟩ : ∃ m, m = clip a0 (0) (1073741824) := ⟨_, rfl⟩
  have ⟨m1, m2⟩ := clip_bd a0 (0) (1073741824) (by omega)
  rw [← hm] at m1 m2
  have Hm := Lib.hid hm
  clear hm
  obtain ⟨d, hd⟩ : ∃ d, d = clip a1 (-m) (m) := ⟨_, rfl⟩
  have ⟨d1, d2⟩ := clip_bd a1 (-m) (m) (by omega)
  rw [← hd] at d1 d2
  have Hd := Lib.hid hd
  clear hd
  have ok : RestOK m d := ⟨⟨by omega, by omega⟩, ⟨by omega, by omega⟩, by omega, by omega, by omega⟩
  have ⟨t0, t1, t2, t3, t4⟩ := Pl.rest_bd m d (by omega) (by omega) (by omega)
  obtain ⟨r, hr⟩ : ∃ r, r = rst m d := ⟨_, rfl⟩
  have hr' : Pl.isq (m * m - d * d) = r := by rw [hr]; rfl
  rw [hr'] at t1 t2 t3 t4
  have ir : In30 r := ⟨by omega, by omega⟩
  have ⟨s1, s2⟩ := in30_sq ir
  have ⟨s3, s4⟩ := in30_sq ok.1
  have ⟨s5, s6⟩ := in30_sq ok.2.1
  have re : (r + 1) * (r + 1) = r * r + 2 * r + 1 := by grind
  have rm : (r + 1) * (r + 1) ≤ 1152921506754330625 := by omega
  have rp : 0 ≤ (r + 1) * (r + 1) := by omega
  have HR := Lib.hid hr
  have OK := Lib.hid ok
  clear hr hr' ok ir re t0
  go_enter Try.func8, Try.ntmps8
  go_wp2_with fail
  refine (awake08 _).mono ?_
  rintro e wa ⟨rfl, hxwa⟩
  go_wp2_with fail
  refine (clip_any a0 0 1073741824 _).mono ?_
  rw [← Hm.out]
  rintro e w1 ⟨rfl, rfl⟩
  go_wp2_with fail
  refine (clip_any a1 (-m) m _).mono ?_
  rw [← Hd.out]
  rintro e w2 ⟨rfl, rfl⟩
  go_wp2_with fail
  refine (rest_ok m d _ OK.out).mono ?_
  rw [← HR.out]
  rintro e w3 ⟨rfl, hxw3⟩
  go_wp2_with fail
  go_ret
  exact ⟨(by first | rfl | exact ret_true (by simp <;> omega)), (by repeat (first | exact Ext.refl _ | with_reducible assumption | (refine Ext.drew ?_) | (refine Ext.drewN ?_ _) | (refine Ext.alloc ?_ _) | (refine Ext.setCell ?_ (by simp <;> omega) _) | (refine Ext.trans ?_ (by with_reducible assumption))))⟩

theorem own : ownKnob Try.prog.godebug = none := by kernel_rfl
theorem laidOut : laidOutB Try.prog = true := by kernel_rfl

/-- The row's step: the walk's end is what the row asks. -/
theorem lifted (os : Os) (started : os.Started) (H : Type) (enc : TypeId × Value → H) :
    ReturnsInHanded {} Try.checked os 8 .any (Rows.rootAxesSpec.pre6 enc Try.prog Try.f8 Rows.rootAxesRow.domain false) (Rows.rootAxesSpec.post enc Try.prog Try.f8 false true false false) := by
  refine returnsInHanded_of_change (C := Try.checked) own started (by kernel_rfl) Try.func8
    (ChangeSpec.witness6 (enc := enc) (C := Try.checked) false ⟨#[], #[.int .i64 0, .int .i64 0], []⟩ 8 (by kernel_rfl) (by kernel_rfl) (by kernel_rfl) (by kernel_rfl)) ?_
  intro W base args ds gs before hval0 hW hcnd _
  have hval : ∀ (j : Nat) t v, Try.f8.params[j]? = some t → args[j]? = some v → Value.okWide Try.prog W .any base t v := hval0
  have hW' := hW
  obtain ⟨p, q, hA0, hV, rfl, hfz, hnd⟩ := hW
  have hA : DataW.TrodAll enc Try.prog W 0 (fun _ => true) true Try.f8.params.toList args.toList ds p := hA0
  rw [Try.params8] at hA hval
  obtain ⟨v0, vs0, d0, ds0, p0, q0, hargs, rfl, rfl, h0, r0⟩ := trodAll_cons hA
  obtain ⟨v1, vs1, d1, ds1, p1, q1, rfl, rfl, rfl, h1, r1⟩ := trodAll_cons r0
  obtain ⟨rfl, rfl, rfl⟩ := trodAll_nil r1
  obtain rfl : args = #[v0, v1] := by cases args; simp_all
  obtain ⟨rfl, rfl⟩ := trodVars_none hV
  have lt0 : ∀ x ∈ p0, x.block < W.heap.size := by obtain ⟨m, hm⟩ := h0; exact DataW.trod_lt m _ _ _ hm
  obtain ⟨a0, rfl, b0⟩ := open_i64 Try.underlying3 (hval 0 3 v0 rfl rfl)
  have lt1 : ∀ x ∈ p1, x.block < W.heap.size := by obtain ⟨m, hm⟩ := h1; exact DataW.trod_lt m _ _ _ hm
  obtain ⟨a1, rfl, b1⟩ := open_i64 Try.underlying3 (hval 1 3 v1 rfl rfl)
  clear hA0 hval0
  refine (walk a0 b0 a1 b1 W).mono fun e W' ⟨he, bel0⟩ => ?_
  subst he
  have bel : Below W.heap.size W W' := bel0
  exact ⟨_, rfl, _, _, _, [], _, [], hW', trodAll_mk1 (shut_bool Try.underlying4 _), (trodAll_cons_mk (Below.trod laidOut (by kernel_rfl) (of_decide_eq_true (by kernel_rfl)) h0 bel lt0) (trodAll_cons_mk (Below.trod laidOut (by kernel_rfl) (of_decide_eq_true (by kernel_rfl)) h1 bel lt1) trodAll_mk0)), rfl, bel.frame _, fun h => by cases h⟩

theorem over : Rows.rootAxesRow.holds Try.pinned (OpenSpec.ofChange Rows.rootAxesSpec) :=
  OpenClaim.holds_of_wide 8 Try.f8 rfl rfl rfl rfl rfl rfl rfl ⟨rfl, rfl, rfl, rfl, rfl⟩ rfl rfl rfl rfl rfl (by kernel_rfl) Try.func8 (by kernel_rfl)
    (of_decide_eq_true (by kernel_rfl)) (by unfold Func.isWrapper; first | (rw [if_pos (by decide +kernel)]; kernel_rfl) | (rw [if_neg (by decide +kernel)]; exact ⟨rfl, rfl⟩))
    (fun os started H enc _ => lifted os started H enc)

/-- The statement. -/
theorem proved : Rows.RootAxesSaid := over
#print axioms proved
end Go.Proofs.Ytelmeebpnbhoiaa.rootAxes
