/- RootCircle: a scaled vector is within the length, keeps its signs, is longer than the length less 3, and is scaled no further.
   Conditions: none: every input. -/
import Derived.Test.YtelmeebpnbhoiaaAwakeRoot
namespace Go.Proofs.Ytelmeebpnbhoiaa.rootCircle
open Go.ChangeShapes Go.WideShapes Go.ChangeAt Go.RowKit
set_option linter.unusedVariables false

set_option maxRecDepth 100000 in
set_option maxHeartbeats 1000000 in
theorem walk (a0 : Int) (b0 : I64 a0) (a1 : Int) (b1 : I64 a1) (a2 : Int) (b2 : I64 a2) (w : World) :
    Calls Try.prog 7 #[.int .i64 a0, .int .i64 a1, .int .i64 a2] w fun e w' => e = .returned (.bool true) ∧ Ext w w' := by
  clear b0 b1 b2
  obtain ⟨x, hx⟩ : ∃ x, x = clip a0 (-1073741824) (1073741824) := ⟨_, rfl⟩
  have ⟨x1, x2⟩ := clip_bd a0 (-1073741824) (1073741824) (by omega)
  rw [← hx] at x1 x2
  have Hx := Lib.hid hx
  clear hx
  obtain ⟨y, hy⟩ : ∃ y, y = clip a1 (-1073741824) (1073741824) := ⟨_, rfl⟩
  have ⟨y1, y2⟩ := clip_bd a1 (-1073741824) (1073741824) (by omega)
  rw [← hy] at y1 y2
  have Hy := Lib.hid hy
  clear hy
  obtain ⟨m, hm⟩ : ∃ m, m = clip a2 (0) (1073741824) := ⟨_, rfl⟩
  have ⟨m1, m2⟩ := clip_bd a2 (0) (1073741824) (by omega)
  rw [← hm] at m1 m2
  have Hm := Lib.hid hm
  clear hm
  have ok : WithinOK x y m := ⟨⟨by omega, by omega⟩, ⟨by omega, by omega⟩, ⟨by omega, by omega⟩, by omega⟩
  have ⟨sx1, sx2⟩ := in30_sq ok.1
  have ⟨sy1, sy2⟩ := in30_sq ok.2.1
  have ⟨sm1, sm2⟩ := in30_sq ok.2.2.1
  rcases Int.lt_or_le (m * m) (x * x + y * y) with hi | hi
  · have ⟨l0, l1, l2⟩ := scale_facts ok hi
    have f1 := Pl.sc_bd x m (Pl.upq (x * x + y * y)) (by omega) (by omega) l0
    have f2 := Pl.sc_bd y m (Pl.upq (x * x + y * y)) (by omega) (by omega) l0
    have f3 := Pl.sc_in x y m (Pl.upq (x * x + y * y)) l0 (Pl.upq_ge _)
    have f4 := fun h3 : 3 ≤ m => Pl.sc_long x y m (Pl.upq (x * x + y * y)) h3 (by omega) (Pl.upq_lt (by omega)).2
    obtain ⟨u, hu⟩ : ∃ u, u = (x * m).tdiv (Pl.upq (x * x + y * y)) := ⟨_, rfl⟩
    obtain ⟨v, hv⟩ : ∃ v, v = (y * m).tdiv (Pl.upq (x * x + y * y)) := ⟨_, rfl⟩
    rw [← hu] at f1 f3 f4
    rw [← hv] at f2 f3 f4
    have iu : In30 u := ⟨by omega, by omega⟩
    have iv : In30 v := ⟨by omega, by omega⟩
    have g1 : 0 ≤ u * x := Pl.mul_sign ⟨fun h => (f1.1 h).1, fun h => (f1.2 h).1⟩
    have g2 : 0 ≤ v * y := Pl.mul_sign ⟨fun h => (f2.1 h).1, fun h => (f2.2 h).1⟩
    have ⟨g3, g4⟩ := mul_bd iu ok.1
    have ⟨g5, g6⟩ := mul_bd iv ok.2.1
    have ⟨su1, su2⟩ := in30_sq iu
    have ⟨sv1, sv2⟩ := in30_sq iv
    have k1 : max u (-u) ≤ max x (-x) := by omega
    have k2 : max v (-v) ≤ max y (-y) := by omega
    have ⟨u1, u2⟩ := iu
    have ⟨v1, v2⟩ := iv
    have ok2 : WithinOK u v m := ⟨iu, iv, ok.2.2.1, ok.2.2.2⟩
    have HU := Lib.hid hu
    have HV := Lib.hid hv
    have HI := Lib.hid hi
    have OK := Lib.hid ok
    have OK2 := Lib.hid ok2
    have F3 := Lib.hid f3
    clear hu hv hi ok ok2 l0 l1 l2 f1 f2 iu iv
    by_cases h3 : m < 3
    · clear f4
      go_enter Try.func7, Try.ntmps7
      go_wp2_with fail
      refine (awake08 _).mono ?_
      rintro e wa ⟨rfl, hxwa⟩
      go_wp2_with fail
      refine (clip_any a0 (-1073741824) 1073741824 _).mono ?_
      rw [← Hx.out]
      rintro e w1 ⟨rfl, rfl⟩
      go_wp2_with fail
      refine (clip_any a1 (-1073741824) 1073741824 _).mono ?_
      rw [← Hy.out]
      rintro e w2 ⟨rfl, rfl⟩
      go_wp2_with fail
      refine (clip_any a2 0 1073741824 _).mono ?_
      rw [← Hm.out]
      rintro e w3 ⟨rfl, rfl⟩
      go_wp2_with fail
      refine (scale_cut x y m _ OK.out HI.out).mono ?_
      rw [← HU.out, ← HV.out]
      rintro e w4 ⟨rfl, hxw4⟩
      go_wp2_with fail
      refine (scale_in u v m _ OK2.out F3.out).mono ?_
      rintro e w5 ⟨rfl, hxw5⟩
      go_wp2_with fail
      go_ret
      exact ⟨(by first | rfl | exact ret_true (by simp <;> omega)), (by repeat (first | exact Ext.refl _ | with_reducible assumption | (refine Ext.drew ?_) | (refine Ext.drewN ?_ _) | (refine Ext.alloc ?_ _) | (refine Ext.setCell ?_ (by simp <;> omega) _) | (refine Ext.trans ?_ (by with_reducible assumption))))⟩
    · have f5 := f4 (by omega)
      have m3 : 3 ≤ m := by omega
      have em : (m - 3) * (m - 3) ≤ m * m := Pl.sq_mono (by omega) (by omega)
      have em0 : 0 ≤ (m - 3) * (m - 3) := Int.mul_nonneg (by omega) (by omega)
      clear f4 h3
      go_enter Try.func7, Try.ntmps7
      go_wp2_with fail
      refine (awake08 _).mono ?_
      rintro e wa ⟨rfl, hxwa⟩
      go_wp2_with fail
      refine (clip_any a0 (-1073741824) 1073741824 _).mono ?_
      rw [← Hx.out]
      rintro e w1 ⟨rfl, rfl⟩
      go_wp2_with fail
      refine (clip_any a1 (-1073741824) 1073741824 _).mono ?_
      rw [← Hy.out]
      rintro e w2 ⟨rfl, rfl⟩
      go_wp2_with fail
      refine (clip_any a2 0 1073741824 _).mono ?_
      rw [← Hm.out]
      rintro e w3 ⟨rfl, rfl⟩
      go_wp2_with fail
      refine (scale_cut x y m _ OK.out HI.out).mono ?_
      rw [← HU.out, ← HV.out]
      rintro e w4 ⟨rfl, hxw4⟩
      go_wp2_with fail
      refine (scale_in u v m _ OK2.out F3.out).mono ?_
      rintro e w5 ⟨rfl, hxw5⟩
      go_wp2_with fail
      go_ret
      exact ⟨(by first | rfl | exact ret_true (by simp <;> omega)), (by repeat (first | exact Ext.refl _ | with_reducible assumption | (refine Ext.drew ?_) | (refine Ext.drewN ?_ _) | (refine Ext.alloc ?_ _) | (refine Ext.setCell ?_ (by simp <;> omega) _) | (refine Ext.trans ?_ (by with_reducible assumption))))⟩
  · have HI := Lib.hid hi
    have OK := Lib.hid ok
    clear ok
    go_enter Try.func7, Try.ntmps7
    go_wp2_with fail
    refine (awake08 _).mono ?_
    rintro e wa ⟨rfl, hxwa⟩
    go_wp2_with fail
    refine (clip_any a0 (-1073741824) 1073741824 _).mono ?_
    rw [← Hx.out]
    rintro e w1 ⟨rfl, rfl⟩
    go_wp2_with fail
    refine (clip_any a1 (-1073741824) 1073741824 _).mono ?_
    rw [← Hy.out]
    rintro e w2 ⟨rfl, rfl⟩
    go_wp2_with fail
    refine (clip_any a2 0 1073741824 _).mono ?_
    rw [← Hm.out]
    rintro e w3 ⟨rfl, rfl⟩
    go_wp2_with fail
    refine (scale_in x y m _ OK.out HI.out).mono ?_
    rintro e w4 ⟨rfl, hxw4⟩
    go_wp2_with fail
    refine (scale_in x y m _ OK.out HI.out).mono ?_
    rintro e w5 ⟨rfl, hxw5⟩
    go_wp2_with fail
    go_ret
    exact ⟨(by first | rfl | exact ret_true (by simp <;> omega)), (by repeat (first | exact Ext.refl _ | with_reducible assumption | (refine Ext.drew ?_) | (refine Ext.drewN ?_ _) | (refine Ext.alloc ?_ _) | (refine Ext.setCell ?_ (by simp <;> omega) _) | (refine Ext.trans ?_ (by with_reducible assumption))))⟩

theorem own : ownKnob Try.prog.godebug = none := by kernel_rfl
theorem laidOut : laidOutB Try.prog = true := by kernel_rfl

/-- The row's step: the walk's end is what the row asks. -/
theorem lifted (os : Os) (started : os.Started) (H : Type) (enc : TypeId × Value → H) :
    ReturnsInHanded {} Try.checked os 7 .any (Rows.rootCircleSpec.pre6 enc Try.prog Try.f7 Rows.rootCircleRow.domain false) (Rows.rootCircleSpec.post enc Try.prog Try.f7 false true false false) := by
  refine returnsInHanded_of_change (C := Try.checked) own started (by kernel_rfl) Try.func7
    (ChangeSpec.witness6 (enc := enc) (C := Try.checked) false ⟨#[], #[.int .i64 0, .int .i64 0, .int .i64 0], []⟩ 8 (by kernel_rfl) (by kernel_rfl) (by kernel_rfl) (by kernel_rfl)) ?_
  intro W base args ds gs before hval0 hW hcnd _
  have hval : ∀ (j : Nat) t v, Try.f7.params[j]? = some t → args[j]? = some v → Value.okWide Try.prog W .any base t v := hval0
  have hW' := hW
  obtain ⟨p, q, hA0, hV, rfl, hfz, hnd⟩ := hW
  have hA : DataW.TrodAll enc Try.prog W 0 (fun _ => true) true Try.f7.params.toList args.toList ds p := hA0
  rw [Try.params7] at hA hval
  obtain ⟨v0, vs0, d0, ds0, p0, q0, hargs, rfl, rfl, h0, r0⟩ := trodAll_cons hA
  obtain ⟨v1, vs1, d1, ds1, p1, q1, rfl, rfl, rfl, h1, r1⟩ := trodAll_cons r0
  obtain ⟨v2, vs2, d2, ds2, p2, q2, rfl, rfl, rfl, h2, r2⟩ := trodAll_cons r1
  obtain ⟨rfl, rfl, rfl⟩ := trodAll_nil r2
  obtain rfl : args = #[v0, v1, v2] := by cases args; simp_all
  obtain ⟨rfl, rfl⟩ := trodVars_none hV
  have lt0 : ∀ x ∈ p0, x.block < W.heap.size := by obtain ⟨m, hm⟩ := h0; exact DataW.trod_lt m _ _ _ hm
  obtain ⟨a0, rfl, b0⟩ := open_i64 Try.underlying3 (hval 0 3 v0 rfl rfl)
  have lt1 : ∀ x ∈ p1, x.block < W.heap.size := by obtain ⟨m, hm⟩ := h1; exact DataW.trod_lt m _ _ _ hm
  obtain ⟨a1, rfl, b1⟩ := open_i64 Try.underlying3 (hval 1 3 v1 rfl rfl)
  have lt2 : ∀ x ∈ p2, x.block < W.heap.size := by obtain ⟨m, hm⟩ := h2; exact DataW.trod_lt m _ _ _ hm
  obtain ⟨a2, rfl, b2⟩ := open_i64 Try.underlying3 (hval 2 3 v2 rfl rfl)
  clear hA0 hval0
  refine (walk a0 b0 a1 b1 a2 b2 W).mono fun e W' ⟨he, bel0⟩ => ?_
  subst he
  have bel : Below W.heap.size W W' := bel0
  exact ⟨_, rfl, _, _, _, [], _, [], hW', trodAll_mk1 (shut_bool Try.underlying4 _), (trodAll_cons_mk (Below.trod laidOut (by kernel_rfl) (of_decide_eq_true (by kernel_rfl)) h0 bel lt0) (trodAll_cons_mk (Below.trod laidOut (by kernel_rfl) (of_decide_eq_true (by kernel_rfl)) h1 bel lt1) (trodAll_cons_mk (Below.trod laidOut (by kernel_rfl) (of_decide_eq_true (by kernel_rfl)) h2 bel lt2) trodAll_mk0))), rfl, bel.frame _, fun h => by cases h⟩

theorem over : Rows.rootCircleRow.holds Try.pinned (OpenSpec.ofChange Rows.rootCircleSpec) :=
  OpenClaim.holds_of_wide 7 Try.f7 rfl rfl rfl rfl rfl rfl rfl ⟨rfl, rfl, rfl, rfl, rfl⟩ rfl rfl rfl rfl rfl (by kernel_rfl) Try.func7 (by kernel_rfl)
    (of_decide_eq_true (by kernel_rfl)) (by unfold Func.isWrapper; first | (rw [if_pos (by decide +kernel)]; kernel_rfl) | (rw [if_neg (by decide +kernel)]; exact ⟨rfl, rfl⟩))
    (fun os started H enc _ => lifted os started H enc)

/-- The statement. -/
theorem proved : Rows.RootCircleSaid := over
#print axioms proved
end Go.Proofs.Ytelmeebpnbhoiaa.rootCircle
