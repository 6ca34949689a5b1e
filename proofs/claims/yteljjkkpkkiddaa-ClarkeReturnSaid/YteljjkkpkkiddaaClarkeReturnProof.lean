/- ClarkeReturn: Back of Forward are the phases, if they sum to 0, to within 4 units and a 10000th of the greatest one.
   Conditions: none: every input. -/
import Derived.Test.YteljjkkpkkiddaaAwakeClarke
namespace Go.Proofs.Yteljjkkpkkiddaa.clarkeReturn
open Go.ChangeShapes Go.WideShapes Go.ChangeAt Go.RowKit
set_option linter.unusedVariables false

theorem walk (a0 : Int) (b0 : I64 a0) (a1 : Int) (b1 : I64 a1) (w : World) :
    Calls Try.prog 5 #[.int .i64 a0, .int .i64 a1] w fun e w' => e = .returned (.bool true) ∧ Ext w w' := by
  clear b0 b1
  obtain ⟨x, hx⟩ : ∃ x, x = clip a0 (-134217728) 134217728 := ⟨_, rfl⟩
  have ⟨x1, x2⟩ := clip_bd a0 (-134217728) 134217728 (by omega)
  rw [← hx] at x1 x2
  have Hx := Lib.hid hx
  clear hx
  obtain ⟨y, hy⟩ : ∃ y, y = clip a1 (-134217728) 134217728 := ⟨_, rfl⟩
  have ⟨y1, y2⟩ := clip_bd a1 (-134217728) 134217728 (by omega)
  rw [← hy] at y1 y2
  have Hy := Lib.hid hy
  clear hy
  have f1 : Pl.fa x y (-x - y) = x := Pl.fa_sum x y
  obtain ⟨q, hq⟩ : ∃ q, q = Pl.fb y (-x - y) := ⟨_, rfl⟩
  have ⟨q1, q2⟩ := Pl.fb_bd y (-x - y) 268435456 ⟨by omega, by omega⟩ ⟨by omega, by omega⟩
  obtain ⟨p, hp⟩ : ∃ p, p = Pl.pb x q := ⟨_, rfl⟩
  obtain ⟨M, hM⟩ : ∃ M, M = max x (max (-x) (max y (max (-y) (max (-x - y) (-(-x - y)))))) := ⟨_, rfl⟩
  have ⟨k1, k2⟩ := Pl.back x y M (by omega) (by omega) (by omega)
  rw [← hq] at q1 q2 k1 k2
  have ⟨p1, p2⟩ := Pl.pb_bd x q 536870912 ⟨by omega, by omega⟩ ⟨by omega, by omega⟩
  rw [← hp] at p1 p2 k1 k2
  have m0 : 0 ≤ M := by omega
  have k3 : max 0 (max (p - y) (y - p)) ≤ 4 + M / 10000 := by omega
  have k4 : max ((-x - p) - (-x - y)) ((-x - y) - (-x - p)) ≤ 4 + M / 10000 := by omega
  rw [hM] at k3 k4
  clear k1 k2 hM m0
  have Hp := Lib.hid hp
  have Hq := Lib.hid hq
  have F1 := Lib.hid f1
  clear hp f1 hq
  have ix : In30 x := ⟨by omega, by omega⟩
  have iy : In30 y := ⟨by omega, by omega⟩
  have iq : In30 q := ⟨by omega, by omega⟩
  have iz : In30 (-x - y) := ⟨by omega, by omega⟩
  go_enter Try.func5, Try.ntmps5
  go_wp2_with (first | (go_at_call 11; refine (awake19 _).mono ?_; rintro e wa ⟨rfl, hxa⟩) | (go_at_call 12; (with_reducible refine (limit_8 a0 _).mono ?_); rw [← Hx.out]; rintro e wlx ⟨rfl, hlx⟩) | (go_at_call 12; (with_reducible refine (limit_8 a1 _).mono ?_); rw [← Hy.out]; rintro e wly ⟨rfl, hly⟩) | (go_at_call 14; refine (back_ok x q _ ix iq).mono ?_; unfold phv; rw [← Hp.out]; rintro e w1 ⟨rfl, hx1⟩) | (go_at_call 13; refine (forward_ok x y (-x - y) _ ix iy iz).mono ?_; rw [F1.out, ← Hq.out]; rintro e w2 ⟨rfl, hx2⟩))
  go_ret
  exact ⟨(by first | rfl | exact ret_true (by simp <;> omega)), (by repeat (first | exact Ext.refl _ | with_reducible assumption | (refine Ext.drew ?_) | (refine Ext.drewN ?_ _) | (refine Ext.alloc ?_ _) | (refine Ext.setCell ?_ (by simp <;> omega) _) | (refine Ext.trans ?_ (by with_reducible assumption))))⟩

theorem own : ownKnob Try.prog.godebug = none := by kernel_rfl
theorem laidOut : laidOutB Try.prog = true := by kernel_rfl

/-- The row's step: the walk's end is what the row asks. -/
theorem lifted (os : Os) (started : os.Started) (H : Type) (enc : TypeId × Value → H) :
    ReturnsInHanded {} Try.checked os 5 .any (Rows.clarkeReturnSpec.pre6 enc Try.prog Try.f5 Rows.clarkeReturnRow.domain false) (Rows.clarkeReturnSpec.post enc Try.prog Try.f5 false true false false) := by
  refine returnsInHanded_of_change (C := Try.checked) own started (by kernel_rfl) Try.func5
    (ChangeSpec.witness6 (enc := enc) (C := Try.checked) false ⟨#[], #[.int .i64 0, .int .i64 0], []⟩ 8 (by kernel_rfl) (by kernel_rfl) (by kernel_rfl) (by kernel_rfl)) ?_
  intro W base args ds gs before hval0 hW hcnd _
  have hval : ∀ (j : Nat) t v, Try.f5.params[j]? = some t → args[j]? = some v → Value.okWide Try.prog W .any base t v := hval0
  have hW' := hW
  obtain ⟨p, q, hA0, hV, rfl, hfz, hnd⟩ := hW
  have hA : DataW.TrodAll enc Try.prog W 0 (fun _ => true) true Try.f5.params.toList args.toList ds p := hA0
  rw [Try.params5] at hA hval
  obtain ⟨v0, vs0, d0, ds0, p0, q0, hargs, rfl, rfl, h0, r0⟩ := trodAll_cons hA
  obtain ⟨v1, vs1, d1, ds1, p1, q1, rfl, rfl, rfl, h1, r1⟩ := trodAll_cons r0
  obtain ⟨rfl, rfl, rfl⟩ := trodAll_nil r1
  obtain rfl : args = #[v0, v1] := by cases args; simp_all
  obtain ⟨rfl, rfl⟩ := trodVars_none hV
  have lt0 : ∀ x ∈ p0, x.block < W.heap.size := by obtain ⟨m, hm⟩ := h0; exact DataW.trod_lt m _ _ _ hm
  obtain ⟨a0, rfl, b0⟩ := open_i64 Try.underlying3 (hval 0 3 v0 rfl rfl)
  have lt1 : ∀ x ∈ p1, x.block < W.heap.size := by obtain ⟨m, hm⟩ := h1; exact DataW.trod_lt m _ _ _ hm
  obtain ⟨a1, rfl, b1⟩ := open_i64 Try.underlying3 (hval 1 3 v1 rfl rfl)
  clear hA0 hval0
  refine (walk a0 b0 a1 b1 W).mono fun e W' ⟨he, bel0⟩ => ?_
  subst he
  have bel : Below W.heap.size W W' := bel0
  exact ⟨_, rfl, _, _, _, [], _, [], hW', trodAll_mk1 (shut_bool Try.underlying4 _), (trodAll_cons_mk (Below.trod laidOut (by kernel_rfl) (of_decide_eq_true (by kernel_rfl)) h0 bel lt0) (trodAll_cons_mk (Below.trod laidOut (by kernel_rfl) (of_decide_eq_true (by kernel_rfl)) h1 bel lt1) trodAll_mk0)), rfl, bel.frame _, fun h => by cases h⟩

theorem over : Rows.clarkeReturnRow.holds Try.pinned (OpenSpec.ofChange Rows.clarkeReturnSpec) :=
  OpenClaim.holds_of_wide 5 Try.f5 rfl rfl rfl rfl rfl rfl rfl ⟨rfl, rfl, rfl, rfl, rfl⟩ rfl rfl rfl rfl rfl (by kernel_rfl) Try.func5 (by kernel_rfl)
    (of_decide_eq_true (by kernel_rfl)) (by unfold Func.isWrapper; first | (rw [if_pos (by decide +kernel)]; kernel_rfl) | (rw [if_neg (by decide +kernel)]; exact ⟨rfl, rfl⟩))
    (fun os started H enc _ => lifted os started H enc)

/-- The statement. -/
theorem proved : Rows.ClarkeReturnSaid := over
#print axioms proved
end Go.Proofs.Yteljjkkpkkiddaa.clarkeReturn
