/- RootSquares: the square of the root, and that of the next number, enclose the number; Up is the root, or one more; roots are monotone.
   Conditions: none: every input. -/
import Derived.Test.YtelmeebpnbhoiaaAwakeRoot
namespace Go.Proofs.Ytelmeebpnbhoiaa.rootSquares
open Go.ChangeShapes Go.WideShapes Go.ChangeAt Go.RowKit
set_option linter.unusedVariables false

theorem walk (a0 : Int) (b0 : I64 a0) (a1 : Int) (b1 : 0 ≤ a1 ∧ a1 ≤ 4294967295) (w : World) :
    Calls Try.prog 6 #[.int .i64 a0, .int .u32 a1] w fun e w' => e = .returned (.bool true) ∧ Ext w w' := by
  clear b0
  obtain ⟨b1, b2⟩ := b1
  obtain ⟨n, hn⟩ : ∃ n, n = clip a0 (0) (4611686018427387904) := ⟨_, rfl⟩
  have ⟨n1, n2⟩ := clip_bd a0 (0) (4611686018427387904) (by omega)
  rw [← hn] at n1 n2
  have Hn := Lib.hid hn
  clear hn
  have in1 : I64 n := ⟨by omega, by omega⟩
  have in2 : I64 (n + a1) := ⟨by omega, by omega⟩
  have r0 := Pl.isq_nonneg n
  have r1 := Pl.isq_le_of (n := n) (b := 2147483648) (by omega) (by omega)
  have r2 := Pl.isq_le n1
  have r3 := Pl.isq_lt n
  have rr := Int.mul_nonneg r0 r0
  have r4 := Pl.isq_mono (n := n) (m := n + a1) (by omega)
  have r5 := isq_bd in2
  obtain ⟨r, hr⟩ : ∃ r, r = Pl.isq n := ⟨_, rfl⟩
  obtain ⟨t, ht⟩ : ∃ t, t = Pl.isq (n + a1) := ⟨_, rfl⟩
  rw [← ht] at r4 r5
  have ups : Pl.upq n = if 0 < n ∧ r * r < n then r + 1 else r := by rw [hr]; rfl
  rw [← hr] at r0 r1 r2 r3 r4 rr
  have re : (r + 1) * (r + 1) = r * r + 2 * r + 1 := by grind
  have rm : (r + 1) * (r + 1) ≤ 4611686022722355201 := by omega
  have rp : 0 ≤ (r + 1) * (r + 1) := by omega
  have HR := Lib.hid hr
  have HT := Lib.hid ht
  have I1 := Lib.hid in1
  have I2 := Lib.hid in2
  clear hr ht in1 in2 re
  by_cases hq : r * r = n
  · have hu : Pl.upq n = r := by rw [ups, if_neg (by omega)]
    have HU := Lib.hid hu
    have q1 : (r * r == n) = true := by simp [hq]
    clear ups hu hq
    go_enter Try.func6, Try.ntmps6
    go_wp2_with fail
    refine (awake08 _).mono ?_
    rintro e wa ⟨rfl, hxwa⟩
    go_wp2_with fail
    refine (clip_any a0 0 4611686018427387904 _).mono ?_
    rw [← Hn.out]
    rintro e w1 ⟨rfl, rfl⟩
    go_wp2_with fail
    refine (sqrt_any n _ I1.out).mono ?_
    rw [← HR.out]
    rintro e w2 ⟨rfl, rfl⟩
    go_wp2_with fail
    refine (up_any n _ I1.out).mono ?_
    rw [HU.out]
    rintro e w3 ⟨rfl, rfl⟩
    go_wp2_with fail
    refine (sqrt_any (n + a1) _ I2.out).mono ?_
    rw [← HT.out]
    rintro e w4 ⟨rfl, rfl⟩
    go_wp2_with fail
    go_ret
    exact ⟨(by first | rfl | exact ret_true (by simp <;> omega)), (by repeat (first | exact Ext.refl _ | with_reducible assumption | (refine Ext.drew ?_) | (refine Ext.drewN ?_ _) | (refine Ext.alloc ?_ _) | (refine Ext.setCell ?_ (by simp <;> omega) _) | (refine Ext.trans ?_ (by with_reducible assumption))))⟩
  · have hu : Pl.upq n = r + 1 := by rw [ups, if_pos (by omega)]
    have HU := Lib.hid hu
    have q1 : (r * r == n) = false := by simp [hq]
    clear ups hu hq
    go_enter Try.func6, Try.ntmps6
    go_wp2_with fail
    refine (awake08 _).mono ?_
    rintro e wa ⟨rfl, hxwa⟩
    go_wp2_with fail
    refine (clip_any a0 0 4611686018427387904 _).mono ?_
    rw [← Hn.out]
    rintro e w1 ⟨rfl, rfl⟩
    go_wp2_with fail
    refine (sqrt_any n _ I1.out).mono ?_
    rw [← HR.out]
    rintro e w2 ⟨rfl, rfl⟩
    go_wp2_with fail
    refine (up_any n _ I1.out).mono ?_
    rw [HU.out]
    rintro e w3 ⟨rfl, rfl⟩
    go_wp2_with fail
    refine (sqrt_any (n + a1) _ I2.out).mono ?_
    rw [← HT.out]
    rintro e w4 ⟨rfl, rfl⟩
    go_wp2_with fail
    go_ret
    exact ⟨(by first | rfl | exact ret_true (by simp <;> omega)), (by repeat (first | exact Ext.refl _ | with_reducible assumption | (refine Ext.drew ?_) | (refine Ext.drewN ?_ _) | (refine Ext.alloc ?_ _) | (refine Ext.setCell ?_ (by simp <;> omega) _) | (refine Ext.trans ?_ (by with_reducible assumption))))⟩

theorem own : ownKnob Try.prog.godebug = none := by kernel_rfl
theorem laidOut : laidOutB Try.prog = true := by kernel_rfl

/-- The row's step: the walk's end is what the row asks. -/
theorem lifted (os : Os) (started : os.Started) (H : Type) (enc : TypeId × Value → H) :
    ReturnsInHanded {} Try.checked os 6 .any (Rows.rootSquaresSpec.pre6 enc Try.prog Try.f6 Rows.rootSquaresRow.domain false) (Rows.rootSquaresSpec.post enc Try.prog Try.f6 false true false false) := by
  refine returnsInHanded_of_change (C := Try.checked) own started (by kernel_rfl) Try.func6
    (ChangeSpec.witness6 (enc := enc) (C := Try.checked) false ⟨#[], #[.int .i64 0, .int .u32 0], []⟩ 8 (by kernel_rfl) (by kernel_rfl) (by kernel_rfl) (by kernel_rfl)) ?_
  intro W base args ds gs before hval0 hW hcnd _
  have hval : ∀ (j : Nat) t v, Try.f6.params[j]? = some t → args[j]? = some v → Value.okWide Try.prog W .any base t v := hval0
  have hW' := hW
  obtain ⟨p, q, hA0, hV, rfl, hfz, hnd⟩ := hW
  have hA : DataW.TrodAll enc Try.prog W 0 (fun _ => true) true Try.f6.params.toList args.toList ds p := hA0
  rw [Try.params6] at hA hval
  obtain ⟨v0, vs0, d0, ds0, p0, q0, hargs, rfl, rfl, h0, r0⟩ := trodAll_cons hA
  obtain ⟨v1, vs1, d1, ds1, p1, q1, rfl, rfl, rfl, h1, r1⟩ := trodAll_cons r0
  obtain ⟨rfl, rfl, rfl⟩ := trodAll_nil r1
  obtain rfl : args = #[v0, v1] := by cases args; simp_all
  obtain ⟨rfl, rfl⟩ := trodVars_none hV
  have lt0 : ∀ x ∈ p0, x.block < W.heap.size := by obtain ⟨m, hm⟩ := h0; exact DataW.trod_lt m _ _ _ hm
  obtain ⟨a0, rfl, b0⟩ := open_i64 Try.underlying3 (hval 0 3 v0 rfl rfl)
  have lt1 : ∀ x ∈ p1, x.block < W.heap.size := by obtain ⟨m, hm⟩ := h1; exact DataW.trod_lt m _ _ _ hm
  obtain ⟨a1, rfl, b1⟩ := open_u32 Try.underlying42 (hval 1 42 v1 rfl rfl)
  clear hA0 hval0
  refine (walk a0 b0 a1 b1 W).mono fun e W' ⟨he, bel0⟩ => ?_
  subst he
  have bel : Below W.heap.size W W' := bel0
  exact ⟨_, rfl, _, _, _, [], _, [], hW', trodAll_mk1 (shut_bool Try.underlying4 _), (trodAll_cons_mk (Below.trod laidOut (by kernel_rfl) (of_decide_eq_true (by kernel_rfl)) h0 bel lt0) (trodAll_cons_mk (Below.trod laidOut (by kernel_rfl) (of_decide_eq_true (by kernel_rfl)) h1 bel lt1) trodAll_mk0)), rfl, bel.frame _, fun h => by cases h⟩

theorem over : Rows.rootSquaresRow.holds Try.pinned (OpenSpec.ofChange Rows.rootSquaresSpec) :=
  OpenClaim.holds_of_wide 6 Try.f6 rfl rfl rfl rfl rfl rfl rfl ⟨rfl, rfl, rfl, rfl, rfl⟩ rfl rfl rfl rfl rfl (by kernel_rfl) Try.func6 (by kernel_rfl)
    (of_decide_eq_true (by kernel_rfl)) (by unfold Func.isWrapper; first | (rw [if_pos (by decide +kernel)]; kernel_rfl) | (rw [if_neg (by decide +kernel)]; exact ⟨rfl, rfl⟩))
    (fun os started H enc _ => lifted os started H enc)

/-- The statement. -/
theorem proved : Rows.RootSquaresSaid := over
#print axioms proved
end Go.Proofs.Ytelmeebpnbhoiaa.rootSquares
