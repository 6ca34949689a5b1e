/- ClarkeSigns: beta has the sign of b - c; the span is the greatest difference of two phases, and that of the cyclic neighbour is the same to within the rounding.
   Conditions: none: every input. -/
import Derived.Test.YteljjkkpkkiddaaAwakeClarke
namespace Go.Proofs.Yteljjkkpkkiddaa.clarkeSigns
open Go.ChangeShapes Go.WideShapes Go.ChangeAt Go.RowKit
set_option linter.unusedVariables false

theorem fb_bd' (b c m : Int) (h : -m ≤ b - c ∧ b - c ≤ m) : -m ≤ Pl.fb b c ∧ Pl.fb b c ≤ m := by
  have := Pl.td ((b - c) * 37837) 65536 (by omega)
  unfold Pl.fb; omega

set_option maxRecDepth 100000 in
set_option maxHeartbeats 2000000 in
theorem walk (a0 : Int) (b0 : I64 a0) (a1 : Int) (b1 : I64 a1) (a2 : Int) (b2 : I64 a2) (w : World) :
    Calls Try.prog 10 #[.int .i64 a0, .int .i64 a1, .int .i64 a2] w fun e w' => e = .returned (.bool true) ∧ Ext w w' := by
  clear b0 b1 b2
  obtain ⟨x, hx⟩ : ∃ x, x = clip a0 (-134217728) 134217728 := ⟨_, rfl⟩
  have ⟨x1, x2⟩ := clip_bd a0 (-134217728) 134217728 (by omega)
  rw [← hx] at x1 x2
  have Hx := Lib.hid hx
  clear hx
  obtain ⟨y, hy⟩ : ∃ y, y = clip a1 (-134217728) 134217728 := ⟨_, rfl⟩
  have ⟨y1, y2⟩ := clip_bd a1 (-134217728) 134217728 (by omega)
  rw [← hy] at y1 y2
  have Hy := Lib.hid hy
  clear hy
  obtain ⟨z, hz⟩ : ∃ z, z = clip a2 (-134217728) 134217728 := ⟨_, rfl⟩
  have ⟨z1, z2⟩ := clip_bd a2 (-134217728) 134217728 (by omega)
  rw [← hz] at z1 z2
  have Hz := Lib.hid hz
  clear hz
  obtain ⟨F, hF⟩ : ∃ F, F = Pl.fa x y z := ⟨_, rfl⟩
  obtain ⟨G, hG⟩ : ∃ G, G = Pl.fb y z := ⟨_, rfl⟩
  have ⟨F1, F2⟩ := Pl.fa_bd x y z 134217728 ⟨by omega, by omega⟩ ⟨by omega, by omega⟩ ⟨by omega, by omega⟩
  have ⟨G1, G2⟩ := Pl.fb_bd y z 134217728 ⟨by omega, by omega⟩ ⟨by omega, by omega⟩
  have sg := Pl.fb_signs y z
  rw [← hF] at F1 F2
  rw [← hG] at G1 G2 sg
  obtain ⟨p, hp⟩ : ∃ p, p = Pl.pb F G := ⟨_, rfl⟩
  have ⟨p1, p2⟩ := Pl.pb_bd F G 268435456 ⟨by omega, by omega⟩ ⟨by omega, by omega⟩
  rw [← hp] at p1 p2
  obtain ⟨Q, hQ⟩ : ∃ Q, Q = Pl.fb (-F - p) F := ⟨_, rfl⟩
  have ⟨Q1, Q2⟩ := fb_bd' (-F - p) F 1073741824 ⟨by omega, by omega⟩
  rw [← hQ] at Q1 Q2
  obtain ⟨S, hS⟩ : ∃ S, S = Pl.sp F G := ⟨_, rfl⟩
  obtain ⟨M, hM⟩ : ∃ M, M = Pl.sp p Q := ⟨_, rfl⟩
  have ⟨S1, S2⟩ := Pl.sp_bd F G 268435456 ⟨by omega, by omega⟩ ⟨by omega, by omega⟩
  have ⟨M1, M2⟩ := Pl.sp_bd p Q 1073741824 ⟨by omega, by omega⟩ ⟨by omega, by omega⟩
  have ⟨t1, t2⟩ := Pl.sp_cyc F G
  rw [← hp, ← hQ, ← hM, ← hS] at t1 t2
  rw [← hS] at S1 S2
  rw [← hM] at M1 M2
  rw [Int.tdiv_eq_ediv_of_nonneg (by omega)] at t1 t2
  have es : S = max (F - p) (max (p - F) (max (p - (-F - p)) (max ((-F - p) - p) (max (F - (-F - p)) ((-F - p) - F))))) := by
    rw [hS]; unfold Pl.sp; rw [← hp]; exact Pl.sp_eq F p (-F - p)
  have s1 : S ≤ max (F - p) (max (p - F) (max (p - (-F - p)) (max ((-F - p) - p) (max (F - (-F - p)) ((-F - p) - F))))) := by omega
  have s2 : max (F - p) (max (p - F) (max (p - (-F - p)) (max ((-F - p) - p) (max (F - (-F - p)) ((-F - p) - F))))) ≤ S := by omega
  have f1 : Pl.fa p (-F - p) F = p := by
    have h := Pl.fa_sum p (-F - p)
    have e : -p - (-F - p) = F := by omega
    rw [e] at h; exact h
  have HF := Lib.hid hF
  have HG := Lib.hid hG
  have Hp := Lib.hid hp
  have HQ := Lib.hid hQ
  have HS := Lib.hid hS
  have HM := Lib.hid hM
  have Hf1 := Lib.hid f1
  clear hF hG hp hQ hS hM f1 es
  have ix : In30 x := ⟨by omega, by omega⟩
  have iy : In30 y := ⟨by omega, by omega⟩
  have iz : In30 z := ⟨by omega, by omega⟩
  have iF : In30 F := ⟨by omega, by omega⟩
  have iG : In30 G := ⟨by omega, by omega⟩
  have ip : In30 p := ⟨by omega, by omega⟩
  have ir : In30 (-F - p) := ⟨by omega, by omega⟩
  have iQ : In30 Q := ⟨by omega, by omega⟩
  have hc : (0 < G ∧ z < y ∧ 2 ≤ y - z) ∨ (0 < G ∧ z < y ∧ y - z < 2) ∨ (G < 0 ∧ y < z ∧ 2 ≤ z - y) ∨ (G < 0 ∧ y < z ∧ z - y < 2) ∨ (G = 0 ∧ y - z < 2 ∧ z - y < 2) := by omega
  clear sg
  rcases hc with ⟨g1, g2, g3⟩ | ⟨g1, g2, g3⟩ | ⟨g1, g2, g3⟩ | ⟨g1, g2, g3⟩ | ⟨g0, g1, g2⟩
  · go_enter Try.func10, Try.ntmps10
    go_wp2_with fail
    refine (awake19 _).mono ?_
    rintro e wa ⟨rfl, hxa⟩
    go_wp2_with fail
    refine (limit_8 a0 _).mono ?_
    rw [← Hx.out]
    rintro e wb ⟨rfl, hxb⟩
    go_wp2_with fail
    refine (limit_8 a1 _).mono ?_
    rw [← Hy.out]
    rintro e wc ⟨rfl, hxc⟩
    go_wp2_with fail
    refine (limit_8 a2 _).mono ?_
    rw [← Hz.out]
    rintro e wd ⟨rfl, hxd⟩
    go_wp2_with fail
    refine (forward_ok x y z _ ix iy iz).mono ?_
    rw [← HF.out, ← HG.out]
    rintro e we ⟨rfl, hxe⟩
    go_wp2_with fail
    refine (span_ok F G _ iF iG).mono ?_
    rw [← HS.out]
    rintro e wf ⟨rfl, hxf⟩
    go_wp2_with fail
    refine (back_ok F G _ iF iG).mono ?_
    unfold phv
    rw [← Hp.out]
    rintro e wg ⟨rfl, hxg⟩
    go_wp2_with fail
    refine (forward_ok p (-F - p) F _ ip ir iF).mono ?_
    rw [Hf1.out, ← HQ.out]
    rintro e wh ⟨rfl, hxh⟩
    have ⟨c0, c1, c2, hf, hn⟩ := hxh.arr3_new
    go_wp2_with fail
    refine (span_ok p Q _ ip iQ).mono ?_
    rw [← HM.out]
    rintro e wi ⟨rfl, hxi⟩
    have ⟨c0, c1, c2, hf, hn⟩ := hxi.arr3 hn c0 c1 c2 hf
    go_wp2_with fail
    go_ret
    exact ⟨(by first | rfl | exact ret_true (by simp <;> omega)), (by repeat (first | exact Ext.refl _ | with_reducible assumption | (refine Ext.drew ?_) | (refine Ext.drewN ?_ _) | (refine Ext.alloc ?_ _) | (refine Ext.setCell ?_ (by simp <;> omega) _) | (refine Ext.trans ?_ (by with_reducible assumption))))⟩
  · go_enter Try.func10, Try.ntmps10
    go_wp2_with fail
    refine (awake19 _).mono ?_
    rintro e wa ⟨rfl, hxa⟩
    go_wp2_with fail
    refine (limit_8 a0 _).mono ?_
    rw [← Hx.out]
    rintro e wb ⟨rfl, hxb⟩
    go_wp2_with fail
    refine (limit_8 a1 _).mono ?_
    rw [← Hy.out]
    rintro e wc ⟨rfl, hxc⟩
    go_wp2_with fail
    refine (limit_8 a2 _).mono ?_
    rw [← Hz.out]
    rintro e wd ⟨rfl, hxd⟩
    go_wp2_with fail
    refine (forward_ok x y z _ ix iy iz).mono ?_
    rw [← HF.out, ← HG.out]
    rintro e we ⟨rfl, hxe⟩
    go_wp2_with fail
    refine (span_ok F G _ iF iG).mono ?_
    rw [← HS.out]
    rintro e wf ⟨rfl, hxf⟩
    go_wp2_with fail
    refine (back_ok F G _ iF iG).mono ?_
    unfold phv
    rw [← Hp.out]
    rintro e wg ⟨rfl, hxg⟩
    go_wp2_with fail
    refine (forward_ok p (-F - p) F _ ip ir iF).mono ?_
    rw [Hf1.out, ← HQ.out]
    rintro e wh ⟨rfl, hxh⟩
    have ⟨c0, c1, c2, hf, hn⟩ := hxh.arr3_new
    go_wp2_with fail
    refine (span_ok p Q _ ip iQ).mono ?_
    rw [← HM.out]
    rintro e wi ⟨rfl, hxi⟩
    have ⟨c0, c1, c2, hf, hn⟩ := hxi.arr3 hn c0 c1 c2 hf
    go_wp2_with fail
    go_ret
    exact ⟨(by first | rfl | exact ret_true (by simp <;> omega)), (by repeat (first | exact Ext.refl _ | with_reducible assumption | (refine Ext.drew ?_) | (refine Ext.drewN ?_ _) | (refine Ext.alloc ?_ _) | (refine Ext.setCell ?_ (by simp <;> omega) _) | (refine Ext.trans ?_ (by with_reducible assumption))))⟩
  · go_enter Try.func10, Try.ntmps10
    go_wp2_with fail
    refine (awake19 _).mono ?_
    rintro e wa ⟨rfl, hxa⟩
    go_wp2_with fail
    refine (limit_8 a0 _).mono ?_
    rw [← Hx.out]
    rintro e wb ⟨rfl, hxb⟩
    go_wp2_with fail
    refine (limit_8 a1 _).mono ?_
    rw [← Hy.out]
    rintro e wc ⟨rfl, hxc⟩
    go_wp2_with fail
    refine (limit_8 a2 _).mono ?_
    rw [← Hz.out]
    rintro e wd ⟨rfl, hxd⟩
    go_wp2_with fail
    refine (forward_ok x y z _ ix iy iz).mono ?_
    rw [← HF.out, ← HG.out]
    rintro e we ⟨rfl, hxe⟩
    go_wp2_with fail
    refine (span_ok F G _ iF iG).mono ?_
    rw [← HS.out]
    rintro e wf ⟨rfl, hxf⟩
    go_wp2_with fail
    refine (back_ok F G _ iF iG).mono ?_
    unfold phv
    rw [← Hp.out]
    rintro e wg ⟨rfl, hxg⟩
    go_wp2_with fail
    refine (forward_ok p (-F - p) F _ ip ir iF).mono ?_
    rw [Hf1.out, ← HQ.out]
    rintro e wh ⟨rfl, hxh⟩
    have ⟨c0, c1, c2, hf, hn⟩ := hxh.arr3_new
    go_wp2_with fail
    refine (span_ok p Q _ ip iQ).mono ?_
    rw [← HM.out]
    rintro e wi ⟨rfl, hxi⟩
    have ⟨c0, c1, c2, hf, hn⟩ := hxi.arr3 hn c0 c1 c2 hf
    go_wp2_with fail
    go_ret
    exact ⟨(by first | rfl | exact ret_true (by simp <;> omega)), (by repeat (first | exact Ext.refl _ | with_reducible assumption | (refine Ext.drew ?_) | (refine Ext.drewN ?_ _) | (refine Ext.alloc ?_ _) | (refine Ext.setCell ?_ (by simp <;> omega) _) | (refine Ext.trans ?_ (by with_reducible assumption))))⟩
  · go_enter Try.func10, Try.ntmps10
    go_wp2_with fail
    refine (awake19 _).mono ?_
    rintro e wa ⟨rfl, hxa⟩
    go_wp2_with fail
    refine (limit_8 a0 _).mono ?_
    rw [← Hx.out]
    rintro e wb ⟨rfl, hxb⟩
    go_wp2_with fail
    refine (limit_8 a1 _).mono ?_
    rw [← Hy.out]
    rintro e wc ⟨rfl, hxc⟩
    go_wp2_with fail
    refine (limit_8 a2 _).mono ?_
    rw [← Hz.out]
    rintro e wd ⟨rfl, hxd⟩
    go_wp2_with fail
    refine (forward_ok x y z _ ix iy iz).mono ?_
    rw [← HF.out, ← HG.out]
    rintro e we ⟨rfl, hxe⟩
    go_wp2_with fail
    refine (span_ok F G _ iF iG).mono ?_
    rw [← HS.out]
    rintro e wf ⟨rfl, hxf⟩
    go_wp2_with fail
    refine (back_ok F G _ iF iG).mono ?_
    unfold phv
    rw [← Hp.out]
    rintro e wg ⟨rfl, hxg⟩
    go_wp2_with fail
    refine (forward_ok p (-F - p) F _ ip ir iF).mono ?_
    rw [Hf1.out, ← HQ.out]
    rintro e wh ⟨rfl, hxh⟩
    have ⟨c0, c1, c2, hf, hn⟩ := hxh.arr3_new
    go_wp2_with fail
    refine (span_ok p Q _ ip iQ).mono ?_
    rw [← HM.out]
    rintro e wi ⟨rfl, hxi⟩
    have ⟨c0, c1, c2, hf, hn⟩ := hxi.arr3 hn c0 c1 c2 hf
    go_wp2_with fail
    go_ret
    exact ⟨(by first | rfl | exact ret_true (by simp <;> omega)), (by repeat (first | exact Ext.refl _ | with_reducible assumption | (refine Ext.drew ?_) | (refine Ext.drewN ?_ _) | (refine Ext.alloc ?_ _) | (refine Ext.setCell ?_ (by simp <;> omega) _) | (refine Ext.trans ?_ (by with_reducible assumption))))⟩
  · have g3 : G ≤ 0 := by omega
    have g4 : 0 ≤ G := by omega
    clear g0
    go_enter Try.func10, Try.ntmps10
    go_wp2_with fail
    refine (awake19 _).mono ?_
    rintro e wa ⟨rfl, hxa⟩
    go_wp2_with fail
    refine (limit_8 a0 _).mono ?_
    rw [← Hx.out]
    rintro e wb ⟨rfl, hxb⟩
    go_wp2_with fail
    refine (limit_8 a1 _).mono ?_
    rw [← Hy.out]
    rintro e wc ⟨rfl, hxc⟩
    go_wp2_with fail
    refine (limit_8 a2 _).mono ?_
    rw [← Hz.out]
    rintro e wd ⟨rfl, hxd⟩
    go_wp2_with fail
    refine (forward_ok x y z _ ix iy iz).mono ?_
    rw [← HF.out, ← HG.out]
    rintro e we ⟨rfl, hxe⟩
    go_wp2_with fail
    refine (span_ok F G _ iF iG).mono ?_
    rw [← HS.out]
    rintro e wf ⟨rfl, hxf⟩
    go_wp2_with fail
    refine (back_ok F G _ iF iG).mono ?_
    unfold phv
    rw [← Hp.out]
    rintro e wg ⟨rfl, hxg⟩
    go_wp2_with fail
    refine (forward_ok p (-F - p) F _ ip ir iF).mono ?_
    rw [Hf1.out, ← HQ.out]
    rintro e wh ⟨rfl, hxh⟩
    have ⟨c0, c1, c2, hf, hn⟩ := hxh.arr3_new
    go_wp2_with fail
    refine (span_ok p Q _ ip iQ).mono ?_
    rw [← HM.out]
    rintro e wi ⟨rfl, hxi⟩
    have ⟨c0, c1, c2, hf, hn⟩ := hxi.arr3 hn c0 c1 c2 hf
    go_wp2_with fail
    go_ret
    exact ⟨(by first | rfl | exact ret_true (by simp <;> omega)), (by repeat (first | exact Ext.refl _ | with_reducible assumption | (refine Ext.drew ?_) | (refine Ext.drewN ?_ _) | (refine Ext.alloc ?_ _) | (refine Ext.setCell ?_ (by simp <;> omega) _) | (refine Ext.trans ?_ (by with_reducible assumption))))⟩

theorem own : ownKnob Try.prog.godebug = none := by kernel_rfl
theorem laidOut : laidOutB Try.prog = true := by kernel_rfl

/-- The row's step: the walk's end is what the row asks. -/
theorem lifted (os : Os) (started : os.Started) (H : Type) (enc : TypeId × Value → H) :
    ReturnsInHanded {} Try.checked os 10 .any (Rows.clarkeSignsSpec.pre6 enc Try.prog Try.f10 Rows.clarkeSignsRow.domain false) (Rows.clarkeSignsSpec.post enc Try.prog Try.f10 false true false false) := by
  refine returnsInHanded_of_change (C := Try.checked) own started (by kernel_rfl) Try.func10
    (ChangeSpec.witness6 (enc := enc) (C := Try.checked) false ⟨#[], #[.int .i64 0, .int .i64 0, .int .i64 0], []⟩ 8 (by kernel_rfl) (by kernel_rfl) (by kernel_rfl) (by kernel_rfl)) ?_
  intro W base args ds gs before hval0 hW hcnd _
  have hval : ∀ (j : Nat) t v, Try.f10.params[j]? = some t → args[j]? = some v → Value.okWide Try.prog W .any base t v := hval0
  have hW' := hW
  obtain ⟨p, q, hA0, hV, rfl, hfz, hnd⟩ := hW
  have hA : DataW.TrodAll enc Try.prog W 0 (fun _ => true) true Try.f10.params.toList args.toList ds p := hA0
  rw [Try.params10] at hA hval
  obtain ⟨v0, vs0, d0, ds0, p0, q0, hargs, rfl, rfl, h0, r0⟩ := trodAll_cons hA
  obtain ⟨v1, vs1, d1, ds1, p1, q1, rfl, rfl, rfl, h1, r1⟩ := trodAll_cons r0
  obtain ⟨v2, vs2, d2, ds2, p2, q2, rfl, rfl, rfl, h2, r2⟩ := trodAll_cons r1
  obtain ⟨rfl, rfl, rfl⟩ := trodAll_nil r2
  obtain rfl : args = #[v0, v1, v2] := by cases args; simp_all
  obtain ⟨rfl, rfl⟩ := trodVars_none hV
  have lt0 : ∀ x ∈ p0, x.block < W.heap.size := by obtain ⟨m, hm⟩ := h0; exact DataW.trod_lt m _ _ _ hm
  obtain ⟨a0, rfl, b0⟩ := open_i64 Try.underlying3 (hval 0 3 v0 rfl rfl)
  have lt1 : ∀ x ∈ p1, x.block < W.heap.size := by obtain ⟨m, hm⟩ := h1; exact DataW.trod_lt m _ _ _ hm
  obtain ⟨a1, rfl, b1⟩ := open_i64 Try.underlying3 (hval 1 3 v1 rfl rfl)
  have lt2 : ∀ x ∈ p2, x.block < W.heap.size := by obtain ⟨m, hm⟩ := h2; exact DataW.trod_lt m _ _ _ hm
  obtain ⟨a2, rfl, b2⟩ := open_i64 Try.underlying3 (hval 2 3 v2 rfl rfl)
  clear hA0 hval0
  refine (walk a0 b0 a1 b1 a2 b2 W).mono fun e W' ⟨he, bel0⟩ => ?_
  subst he
  have bel : Below W.heap.size W W' := bel0
  exact ⟨_, rfl, _, _, _, [], _, [], hW', trodAll_mk1 (shut_bool Try.underlying4 _), (trodAll_cons_mk (Below.trod laidOut (by kernel_rfl) (of_decide_eq_true (by kernel_rfl)) h0 bel lt0) (trodAll_cons_mk (Below.trod laidOut (by kernel_rfl) (of_decide_eq_true (by kernel_rfl)) h1 bel lt1) (trodAll_cons_mk (Below.trod laidOut (by kernel_rfl) (of_decide_eq_true (by kernel_rfl)) h2 bel lt2) trodAll_mk0))), rfl, bel.frame _, fun h => by cases h⟩

theorem over : Rows.clarkeSignsRow.holds Try.pinned (OpenSpec.ofChange Rows.clarkeSignsSpec) :=
  OpenClaim.holds_of_wide 10 Try.f10 rfl rfl rfl rfl rfl rfl rfl ⟨rfl, rfl, rfl, rfl, rfl⟩ rfl rfl rfl rfl rfl (by kernel_rfl) Try.func10 (by kernel_rfl)
    (of_decide_eq_true (by kernel_rfl)) (by unfold Func.isWrapper; first | (rw [if_pos (by decide +kernel)]; kernel_rfl) | (rw [if_neg (by decide +kernel)]; exact ⟨rfl, rfl⟩))
    (fun os started H enc _ => lifted os started H enc)

/-- The statement. -/
theorem proved : Rows.ClarkeSignsSaid := over
#print axioms proved
end Go.Proofs.Yteljjkkpkkiddaa.clarkeSigns
