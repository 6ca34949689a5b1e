/- ClarkeSums: the phases of a vector sum to 0, and Forward and Two agree for them.
   Conditions: none: every input. -/
import Derived.Test.YteljjkkpkkiddaaAwakeClarke
namespace Go.Proofs.Yteljjkkpkkiddaa.clarkeSums
open Go.ChangeShapes Go.WideShapes Go.ChangeAt Go.RowKit
set_option linter.unusedVariables false

theorem walk (a0 : Int) (b0 : I64 a0) (a1 : Int) (b1 : I64 a1) (w : World) :
    Calls Try.prog 8 #[.int .i64 a0, .int .i64 a1] w fun e w' => e = .returned (.bool true) ∧ Ext w w' := by
  clear b0 b1
  obtain ⟨x, hx⟩ : ∃ x, x = clip a0 (-268435456) 268435456 := ⟨_, rfl⟩
  have ⟨x1, x2⟩ := clip_bd a0 (-268435456) 268435456 (by omega)
  rw [← hx] at x1 x2
  have Hx := Lib.hid hx
  clear hx
  obtain ⟨y, hy⟩ : ∃ y, y = clip a1 (-268435456) 268435456 := ⟨_, rfl⟩
  have ⟨y1, y2⟩ := clip_bd a1 (-268435456) 268435456 (by omega)
  rw [← hy] at y1 y2
  have Hy := Lib.hid hy
  clear hy
  obtain ⟨p, hp⟩ : ∃ p, p = Pl.pb x y := ⟨_, rfl⟩
  have ⟨p1, p2⟩ := Pl.pb_bd x y 268435456 ⟨by omega, by omega⟩ ⟨by omega, by omega⟩
  rw [← hp] at p1 p2
  have f1 : Pl.fa x p (-x - p) = x := Pl.fa_sum x p
  have f2 : Pl.fb p (-x - p) = Pl.tb x p := Pl.fb_sum x p
  have Hp := Lib.hid hp
  have F1 := Lib.hid f1
  have F2 := Lib.hid f2
  clear hp f1 f2
  have ix : In30 x := ⟨by omega, by omega⟩
  have iy : In30 y := ⟨by omega, by omega⟩
  have ip : In30 p := ⟨by omega, by omega⟩
  have iz : In30 (-x - p) := ⟨by omega, by omega⟩
  go_enter Try.func8, Try.ntmps8
  go_wp2_with (first | (go_at_call 11; refine (awake19 _).mono ?_; rintro e wa ⟨rfl, hxa⟩) | (go_at_call 12; (with_reducible refine (limit_4 a0 _).mono ?_); rw [← Hx.out]; rintro e wlx ⟨rfl, hlx⟩) | (go_at_call 12; (with_reducible refine (limit_4 a1 _).mono ?_); rw [← Hy.out]; rintro e wly ⟨rfl, hly⟩) | (go_at_call 14; refine (back_ok x y _ ix iy).mono ?_; unfold phv; rw [← Hp.out]; rintro e w1 ⟨rfl, hx1⟩) | (go_at_call 13; refine (forward_ok x p (-x - p) _ ix ip iz).mono ?_; rw [F1.out, F2.out]; rintro e w2 ⟨rfl, hx2⟩; obtain ⟨c0, c1, c2, hf, hn⟩ := hx2.arr3_new) | (go_at_call 19; refine (two_ok x p _ ix ip).mono ?_; rintro e w3 ⟨rfl, hx3⟩; obtain ⟨d0, d1, d2, hg, hm⟩ := hx3.arr3 hn c0 c1 c2 hf))
  go_ret
  exact ⟨rfl, (by repeat (first | exact Ext.refl _ | with_reducible assumption | (refine Ext.drew ?_) | (refine Ext.drewN ?_ _) | (refine Ext.alloc ?_ _) | (refine Ext.setCell ?_ (by simp <;> omega) _) | (refine Ext.trans ?_ (by with_reducible assumption))))⟩

theorem own : ownKnob Try.prog.godebug = none := by kernel_rfl
theorem laidOut : laidOutB Try.prog = true := by kernel_rfl

/-- The row's step: the walk's end is what the row asks. -/
theorem lifted (os : Os) (started : os.Started) (H : Type) (enc : TypeId × Value → H) :
    ReturnsInHanded {} Try.checked os 8 .any (Rows.clarkeSumsSpec.pre6 enc Try.prog Try.f8 Rows.clarkeSumsRow.domain false) (Rows.clarkeSumsSpec.post enc Try.prog Try.f8 false true false false) := by
  refine returnsInHanded_of_change (C := Try.checked) own started (by kernel_rfl) Try.func8
    (ChangeSpec.witness6 (enc := enc) (C := Try.checked) false ⟨#[], #[.int .i64 0, .int .i64 0], []⟩ 8 (by kernel_rfl) (by kernel_rfl) (by kernel_rfl) (by kernel_rfl)) ?_
  intro W base args ds gs before hval0 hW hcnd _
  have hval : ∀ (j : Nat) t v, Try.f8.params[j]? = some t → args[j]? = some v → Value.okWide Try.prog W .any base t v := hval0
  have hW' := hW
  obtain ⟨p, q, hA0, hV, rfl, hfz, hnd⟩ := hW
  have hA : DataW.TrodAll enc Try.prog W 0 (fun _ => true) true Try.f8.params.toList args.toList ds p := hA0
  rw [Try.params8] at hA hval
  obtain ⟨v0, vs0, d0, ds0, p0, q0, hargs, rfl, rfl, h0, r0⟩ := trodAll_cons hA
  obtain ⟨v1, vs1, d1, ds1, p1, q1, rfl, rfl, rfl, h1, r1⟩ := trodAll_cons r0
  obtain ⟨rfl, rfl, rfl⟩ := trodAll_nil r1
  obtain rfl : args = #[v0, v1] := by cases args; simp_all
  obtain ⟨rfl, rfl⟩ := trodVars_none hV
  have lt0 : ∀ x ∈ p0, x.block < W.heap.size := by obtain ⟨m, hm⟩ := h0; exact DataW.trod_lt m _ _ _ hm
  obtain ⟨a0, rfl, b0⟩ := open_i64 Try.underlying3 (hval 0 3 v0 rfl rfl)
  have lt1 : ∀ x ∈ p1, x.block < W.heap.size := by obtain ⟨m, hm⟩ := h1; exact DataW.trod_lt m _ _ _ hm
  obtain ⟨a1, rfl, b1⟩ := open_i64 Try.underlying3 (hval 1 3 v1 rfl rfl)
  clear hA0 hval0
  refine (walk a0 b0 a1 b1 W).mono fun e W' ⟨he, bel0⟩ => ?_
  subst he
  have bel : Below W.heap.size W W' := bel0
  exact ⟨_, rfl, _, _, _, [], _, [], hW', trodAll_mk1 (shut_bool Try.underlying4 _), (trodAll_cons_mk (Below.trod laidOut (by kernel_rfl) (of_decide_eq_true (by kernel_rfl)) h0 bel lt0) (trodAll_cons_mk (Below.trod laidOut (by kernel_rfl) (of_decide_eq_true (by kernel_rfl)) h1 bel lt1) trodAll_mk0)), rfl, bel.frame _, fun h => by cases h⟩

theorem over : Rows.clarkeSumsRow.holds Try.pinned (OpenSpec.ofChange Rows.clarkeSumsSpec) :=
  OpenClaim.holds_of_wide 8 Try.f8 rfl rfl rfl rfl rfl rfl rfl ⟨rfl, rfl, rfl, rfl, rfl⟩ rfl rfl rfl rfl rfl (by kernel_rfl) Try.func8 (by kernel_rfl)
    (of_decide_eq_true (by kernel_rfl)) (by unfold Func.isWrapper; first | (rw [if_pos (by decide +kernel)]; kernel_rfl) | (rw [if_neg (by decide +kernel)]; exact ⟨rfl, rfl⟩))
    (fun os started H enc _ => lifted os started H enc)

/-- The statement. -/
theorem proved : Rows.ClarkeSumsSaid := over
#print axioms proved
end Go.Proofs.Yteljjkkpkkiddaa.clarkeSums
