/- ClarkeCommon: Forward does not change if all phases are changed by the same number; with all signs its results change theirs.
   Conditions: none: every input. -/
import Derived.Test.YteljjkkpkkiddaaAwakeClarke
namespace Go.Proofs.Yteljjkkpkkiddaa.clarkeCommon
open Go.ChangeShapes Go.WideShapes Go.ChangeAt Go.RowKit
set_option linter.unusedVariables false

theorem walk (a0x a0y a0z : Int) (ba0x : I64 a0x) (ba0y : I64 a0y) (ba0z : I64 a0z) (a1 : Int) (b1 : I64 a1) (w : World) :
    Calls Try.prog 3 #[.agg #[.int .i64 a0x, .int .i64 a0y, .int .i64 a0z], .int .i64 a1] w fun e w' => e = .returned (.bool true) ∧ Ext w w' := by
  clear b1 ba0x ba0y ba0z
  obtain ⟨x, hx⟩ : ∃ x, x = clip a0x (-536870912) 536870912 := ⟨_, rfl⟩
  have ⟨x1, x2⟩ := clip_bd a0x (-536870912) 536870912 (by omega)
  rw [← hx] at x1 x2
  have Hx := Lib.hid hx
  clear hx
  obtain ⟨y, hy⟩ : ∃ y, y = clip a0y (-536870912) 536870912 := ⟨_, rfl⟩
  have ⟨y1, y2⟩ := clip_bd a0y (-536870912) 536870912 (by omega)
  rw [← hy] at y1 y2
  have Hy := Lib.hid hy
  clear hy
  obtain ⟨z, hz⟩ : ∃ z, z = clip a0z (-536870912) 536870912 := ⟨_, rfl⟩
  have ⟨z1, z2⟩ := clip_bd a0z (-536870912) 536870912 (by omega)
  rw [← hz] at z1 z2
  have Hz := Lib.hid hz
  clear hz
  obtain ⟨n, hn⟩ : ∃ n, n = clip a1 (-536870912) 536870912 := ⟨_, rfl⟩
  have ⟨n1, n2⟩ := clip_bd a1 (-536870912) 536870912 (by omega)
  rw [← hn] at n1 n2
  have Hn := Lib.hid hn
  clear hn
  obtain ⟨F, hF⟩ : ∃ F, F = Pl.fa x y z := ⟨_, rfl⟩
  obtain ⟨G, hG⟩ : ∃ G, G = Pl.fb y z := ⟨_, rfl⟩
  have ⟨F1, F2⟩ := Pl.fa_bd x y z 536870912 ⟨by omega, by omega⟩ ⟨by omega, by omega⟩ ⟨by omega, by omega⟩
  have ⟨G1, G2⟩ := Pl.fb_bd y z 536870912 ⟨by omega, by omega⟩ ⟨by omega, by omega⟩
  have e1 := Pl.fa_common x y z n
  have e2 := Pl.fb_common y z n
  have e3 := Pl.fa_neg x y z
  have e4 := Pl.fb_neg y z
  rw [← hF] at F1 F2 e1 e3
  rw [← hG] at G1 G2 e2 e4
  have HF := Lib.hid hF
  have HG := Lib.hid hG
  have E1 := Lib.hid e1
  have E2 := Lib.hid e2
  have E3 := Lib.hid e3
  have E4 := Lib.hid e4
  clear hF hG e1 e2 e3 e4
  have ix : In30 x := ⟨by omega, by omega⟩
  have iy : In30 y := ⟨by omega, by omega⟩
  have iz : In30 z := ⟨by omega, by omega⟩
  have jx : In30 (x + n) := ⟨by omega, by omega⟩
  have jy : In30 (y + n) := ⟨by omega, by omega⟩
  have jz : In30 (z + n) := ⟨by omega, by omega⟩
  have kx : In30 (-x) := ⟨by omega, by omega⟩
  have ky : In30 (-y) := ⟨by omega, by omega⟩
  have kz : In30 (-z) := ⟨by omega, by omega⟩
  go_enter Try.func3, Try.ntmps3
  go_wp2_with fail
  refine (awake19 _).mono ?_
  rintro e wa ⟨rfl, hxa⟩
  have A0 := (Arr3.new w (.int .i64 a0x) (.int .i64 a0y) (.int .i64 a0z) 22).ext hxa
  have ⟨c0, c1, c2, hf, hn⟩ := A0
  go_wp2_with fail
  refine wp_loop_rounds 4 ?_
  rw [rounds_succ]
  go_wp2_with fail
  refine (limit_2 a0x _).mono ?_
  rw [← Hx.out]
  rintro e wb ⟨rfl, hxb⟩
  have A1 := A0.ext hxb
  have ⟨c0, c1, c2, hf, hn⟩ := A1
  have A1 := A1.set0 (.int .i64 x)
  go_wp2_with fail
  rw [rounds_succ]
  go_wp2_with fail
  refine (limit_2 a0y _).mono ?_
  rw [← Hy.out]
  rintro e wc ⟨rfl, hxc⟩
  have A2 := A1.ext hxc
  have ⟨c0, c1, c2, hf, hn⟩ := A2
  have A2 := A2.set1 (.int .i64 y)
  go_wp2_with fail
  rw [rounds_succ]
  go_wp2_with fail
  refine (limit_2 a0z _).mono ?_
  rw [← Hz.out]
  rintro e wd ⟨rfl, hxd⟩
  have A3 := A2.ext hxd
  have ⟨c0, c1, c2, hf, hn⟩ := A3
  have A3 := A3.set2 (.int .i64 z)
  go_wp2_with fail
  rw [rounds_succ]
  go_wp2_with fail
  refine (limit_2 a1 _).mono ?_
  rw [← Hn.out]
  rintro e we ⟨rfl, hxe⟩
  have ⟨c0, c1, c2, hf, hn⟩ := A3.ext hxe
  have A4 := A3.ext hxe
  go_wp2_with fail
  refine (forward_ok x y z _ ix iy iz).mono ?_
  rw [← HF.out, ← HG.out]
  rintro e wf ⟨rfl, hxf⟩
  have A5 := A4.ext hxf
  have ⟨c0, c1, c2, hf, hn⟩ := A5
  go_wp2_with fail
  refine (forward_ok (x + n) (y + n) (z + n) _ jx jy jz).mono ?_
  rw [E1.out, E2.out]
  rintro e wg ⟨rfl, hxg⟩
  have A6 := A5.ext hxg
  have ⟨c0, c1, c2, hf, hn⟩ := A6
  go_wp2_with fail
  refine (forward_ok (-x) (-y) (-z) _ kx ky kz).mono ?_
  rw [E3.out, E4.out]
  rintro e wh ⟨rfl, hxh⟩
  go_wp2_with fail
  go_ret
  exact ⟨(by first | rfl | exact ret_true (by simp <;> omega)), (by repeat (first | exact Ext.refl _ | with_reducible assumption | (refine Ext.drew ?_) | (refine Ext.drewN ?_ _) | (refine Ext.alloc ?_ _) | (refine Ext.setCell ?_ (by simp <;> omega) _) | (refine Ext.trans ?_ (by with_reducible assumption))))⟩

theorem own : ownKnob Try.prog.godebug = none := by kernel_rfl
theorem laidOut : laidOutB Try.prog = true := by kernel_rfl

/-- The row's step: the walk's end is what the row asks. -/
theorem lifted (os : Os) (started : os.Started) (H : Type) (enc : TypeId × Value → H) :
    ReturnsInHanded {} Try.checked os 3 .any (Rows.clarkeCommonSpec.pre6 enc Try.prog Try.f3 Rows.clarkeCommonRow.domain false) (Rows.clarkeCommonSpec.post enc Try.prog Try.f3 false true false false) := by
  refine returnsInHanded_of_change (C := Try.checked) own started (by kernel_rfl) Try.func3
    (ChangeSpec.witness6 (enc := enc) (C := Try.checked) false ⟨#[], #[.agg #[.int .i64 0, .int .i64 0, .int .i64 0], .int .i64 0], []⟩ 8 (by kernel_rfl) (by kernel_rfl) (by kernel_rfl) (by kernel_rfl)) ?_
  intro W base args ds gs before hval0 hW hcnd _
  have hval : ∀ (j : Nat) t v, Try.f3.params[j]? = some t → args[j]? = some v → Value.okWide Try.prog W .any base t v := hval0
  have hW' := hW
  obtain ⟨p, q, hA0, hV, rfl, hfz, hnd⟩ := hW
  have hA : DataW.TrodAll enc Try.prog W 0 (fun _ => true) true Try.f3.params.toList args.toList ds p := hA0
  rw [Try.params3] at hA hval
  obtain ⟨v0, vs0, d0, ds0, p0, q0, hargs, rfl, rfl, h0, r0⟩ := trodAll_cons hA
  obtain ⟨v1, vs1, d1, ds1, p1, q1, rfl, rfl, rfl, h1, r1⟩ := trodAll_cons r0
  obtain ⟨rfl, rfl, rfl⟩ := trodAll_nil r1
  obtain rfl : args = #[v0, v1] := by cases args; simp_all
  obtain ⟨rfl, rfl⟩ := trodVars_none hV
  have lt0 : ∀ x ∈ p0, x.block < W.heap.size := by obtain ⟨m, hm⟩ := h0; exact DataW.trod_lt m _ _ _ hm
  obtain ⟨a0x, a0y, a0z, rfl, ba0x, ba0y, ba0z⟩ := open_arr3 (u := 3) Try.underlying22 (by kernel_rfl) (by kernel_rfl) (by kernel_rfl) (hval 0 22 v0 rfl rfl)
  have lt1 : ∀ x ∈ p1, x.block < W.heap.size := by obtain ⟨m, hm⟩ := h1; exact DataW.trod_lt m _ _ _ hm
  obtain ⟨a1, rfl, b1⟩ := open_i64 Try.underlying3 (hval 1 3 v1 rfl rfl)
  clear hA0 hval0
  refine (walk a0x a0y a0z ba0x ba0y ba0z a1 b1 W).mono fun e W' ⟨he, bel0⟩ => ?_
  subst he
  have bel : Below W.heap.size W W' := bel0
  exact ⟨_, rfl, _, _, _, [], _, [], hW', trodAll_mk1 (shut_bool Try.underlying4 _), (trodAll_cons_mk (Below.trod laidOut (by kernel_rfl) (of_decide_eq_true (by kernel_rfl)) h0 bel lt0) (trodAll_cons_mk (Below.trod laidOut (by kernel_rfl) (of_decide_eq_true (by kernel_rfl)) h1 bel lt1) trodAll_mk0)), rfl, bel.frame _, fun h => by cases h⟩

theorem over : Rows.clarkeCommonRow.holds Try.pinned (OpenSpec.ofChange Rows.clarkeCommonSpec) :=
  OpenClaim.holds_of_wide 3 Try.f3 rfl rfl rfl rfl rfl rfl rfl ⟨rfl, rfl, rfl, rfl, rfl⟩ rfl rfl rfl rfl rfl (by kernel_rfl) Try.func3 (by kernel_rfl)
    (of_decide_eq_true (by kernel_rfl)) (by unfold Func.isWrapper; first | (rw [if_pos (by decide +kernel)]; kernel_rfl) | (rw [if_neg (by decide +kernel)]; exact ⟨rfl, rfl⟩))
    (fun os started H enc _ => lifted os started H enc)

/-- The statement. -/
theorem proved : Rows.ClarkeCommonSaid := over
#print axioms proved
end Go.Proofs.Yteljjkkpkkiddaa.clarkeCommon
