/- CurveSteepest: Steepest returns the least integer that is at least d times the greatest slope, or the error of the curve.
   Conditions: none: every input. -/
import Derived.Test.YtbeolonbboibfaaAwakeCurve
namespace Go.Proofs.Ytbeolonbboibfaa.curveSteepest
open Go.ChangeShapes Go.WideShapes Go.ChangeAt Go.RowKit
set_option linter.unusedVariables false

set_option maxRecDepth 100000 in
set_option maxHeartbeats 1000000 in
theorem walk_big (a b : Option Addr) (k l : Nat) (c : Pl.Cv) (a1 : Int) (b1 : I64 a1) (w : World) (hl : lg c = true) :
    Calls Try.prog 8 #[.agg #[.slice a c.nx k, .slice b c.ny l], .int .i64 a1] w fun e w' => e = .returned (.bool true) ∧ Ext w w' := by
  · have LG := Lib.hid hl
    clear hl
    go_enter Try.func8, Try.ntmps8
    go_wp2_with fail
    refine (awake09 _).mono ?_
    rintro e wa ⟨rfl, hxwa⟩
    have A0 := (Blk.new w [.slice a c.nx k, .slice b c.ny l] 24).ext hxwa
    have E0 : Ext w wa := ((Ext.refl w).alloc _).trans hxwa
    have b00 := A0.at 0 _ rfl
    have b10 := A0.at 1 _ rfl
    have bn0 := A0.lt
    go_wp2_with fail
    refine (large_any a b k l c _).mono ?_
    rw [LG.out]
    rintro e w1 ⟨rfl, hx1⟩
    have A1 := A0.ext hx1
    have E1 := E0.trans hx1
    have b01 := A1.at 0 _ rfl
    have b11 := A1.at 1 _ rfl
    have bn1 := A1.lt
    go_wp2_with fail
    refine (awake09 _).mono ?_
    rintro e w2 ⟨rfl, hx2⟩
    have A2 := A1.ext hx2
    have E2 := E1.trans hx2
    have b02 := A2.at 0 _ rfl
    have b12 := A2.at 1 _ rfl
    have bn2 := A2.lt
    go_wp2_with fail
    go_ret
    exact ⟨(by first | rfl | exact ret_true (by simp <;> omega)), (by repeat (first | with_reducible exact Ext.refl _ | with_reducible assumption | (with_reducible refine Ext.drew ?_) | (with_reducible refine Ext.drewN ?_ _) | (with_reducible refine Ext.alloc ?_ _) | (with_reducible refine Ext.setCell ?_ ?_ _) | (with_reducible refine Ext.trans ?_ (by with_reducible assumption)) | omega | (focus (simp <;> omega))))⟩

set_option maxRecDepth 100000 in
set_option maxHeartbeats 1000000 in
theorem walk_ok (a b : Option Addr) (k l : Nat) (c : Pl.Cv) (a1 : Int) (b1 : I64 a1) (w : World) (hl : lg c = false) (hc : Pl.chk c = 0) (hx : Row w a c.nx c.x) (hy : Row w b c.nx c.y) (lx : c.nx ≤ maxLen) :
    Calls Try.prog 8 #[.agg #[.slice a c.nx k, .slice b c.nx l], .int .i64 a1] w fun e w' => e = .returned (.bool true) ∧ Ext w w' := by
  · have g := Pl.good_of c hc
    have G := Lib.hid g
    have sm := g.same
    have SM := Lib.hid sm
    have HX := Lib.hid hx
    have HY := Lib.hid hy
    have HC := Lib.hid hc
    have LX := Lib.hid lx
    have LG := Lib.hid hl
    have LGN : Hid (lg ⟨c.nx, c.nx, c.x, c.y⟩ = false) := Lib.hid (lg_same sm hl)
    have B1 := Lib.hid b1
    clear b1
    obtain ⟨v, hv⟩ : ∃ v, v = Pl.stp c (stm a1) c.nx := ⟨_, rfl⟩
    have HV := Lib.hid hv
    clear hv
    clear hx hy hc hl g sm lx
    go_enter Try.func8, Try.ntmps8
    go_wp2_with fail
    refine (awake09 _).mono ?_
    rintro e wa ⟨rfl, hxwa⟩
    have A0 := (Blk.new w [.slice a c.nx k, .slice b c.nx l] 24).ext hxwa
    have E0 : Ext w wa := ((Ext.refl w).alloc _).trans hxwa
    have b00 := A0.at 0 _ rfl
    have b10 := A0.at 1 _ rfl
    have bn0 := A0.lt
    go_wp2_with fail
    refine (large_any a b k l ⟨c.nx, c.nx, c.x, c.y⟩ _).mono ?_
    rw [LGN.out]
    rintro e w1 ⟨rfl, hx1⟩
    have A1 := A0.ext hx1
    have E1 := E0.trans hx1
    have b01 := A1.at 0 _ rfl
    have b11 := A1.at 1 _ rfl
    have bn1 := A1.lt
    go_wp2_with fail
    refine (steepest_ok a b k l c a1 _ HC.out (HX.out.ext E1) (HY.out.ext E1)).mono ?_
    rw [← HV.out]
    rintro e w2 ⟨rfl, hx2⟩
    have A2 := A1.ext hx2
    have E2 := E1.trans hx2
    have b02 := A2.at 0 _ rfl
    have b12 := A2.at 1 _ rfl
    have bn2 := A2.lt
    go_wp2_with fail
    refine (check09_eq a b k l c _ SM.out (HX.out.ext E2) (HY.out.ext E2) LX.out).mono ?_
    rw [HC.out]
    rintro e w3 ⟨rfl, hx3⟩
    have A3 := A2.ext hx3
    have E3 := E2.trans hx3
    have b03 := A3.at 0 _ rfl
    have b13 := A3.at 1 _ rfl
    have bn3 := A3.lt
    go_wp2_with fail
    refine (steepest09 a b k l c a1 _ HC.out (HX.out.ext E3) (HY.out.ext E3)).mono ?_
    rw [← HV.out]
    rintro e w4 ⟨rfl, hx4⟩
    have A4 := A3.ext hx4
    have E4 := E3.trans hx4
    have b04 := A4.at 0 _ rfl
    have b14 := A4.at 1 _ rfl
    have bn4 := A4.lt
    go_wp2_with fail
    go_ret
    exact ⟨(by first | rfl | exact ret_true (by simp <;> omega)), (by repeat (first | with_reducible exact Ext.refl _ | with_reducible assumption | (with_reducible refine Ext.drew ?_) | (with_reducible refine Ext.drewN ?_ _) | (with_reducible refine Ext.alloc ?_ _) | (with_reducible refine Ext.setCell ?_ ?_ _) | (with_reducible refine Ext.trans ?_ (by with_reducible assumption)) | omega | (focus (simp <;> omega))))⟩

set_option maxRecDepth 100000 in
set_option maxHeartbeats 1000000 in
theorem walk_bad (a b : Option Addr) (k l : Nat) (c : Pl.Cv) (a1 : Int) (b1 : I64 a1) (w : World) (hl : lg c = false) (hc : Pl.chk c ≠ 0) (hx : Row w a c.nx c.x) (hy : Row w b c.ny c.y) (lx : c.nx ≤ maxLen) (ly : c.ny ≤ maxLen) :
    Calls Try.prog 8 #[.agg #[.slice a c.nx k, .slice b c.ny l], .int .i64 a1] w fun e w' => e = .returned (.bool true) ∧ Ext w w' := by
  · have he : errv (Pl.chk c) = .iface 51 (.int .i64 (Pl.chk c)) := by unfold errv; rw [if_neg hc]
    have HE := Lib.hid he
    have HX := Lib.hid hx
    have HY := Lib.hid hy
    have HC := Lib.hid hc
    have LX := Lib.hid lx
    have LY := Lib.hid ly
    have LG := Lib.hid hl
    have nz : (Pl.chk c != 0) = true := by simpa using hc
    have nz2 : (Pl.chk c == 0) = false := by simpa using hc
    have hq : ¬ Pl.chk c = 0 := hc
    obtain ⟨r, hr⟩ : ∃ r, r = Pl.chk c := ⟨_, rfl⟩
    have RR := Lib.hid hr
    rw [← hr] at nz nz2 hq
    clear he hx hy hc lx ly hl hr
    clear b1
    go_enter Try.func8, Try.ntmps8
    go_wp2_with fail
    refine (awake09 _).mono ?_
    rintro e wa ⟨rfl, hxwa⟩
    have A0 := (Blk.new w [.slice a c.nx k, .slice b c.ny l] 24).ext hxwa
    have E0 : Ext w wa := ((Ext.refl w).alloc _).trans hxwa
    have b00 := A0.at 0 _ rfl
    have b10 := A0.at 1 _ rfl
    have bn0 := A0.lt
    go_wp2_with fail
    refine (large_any a b k l c _).mono ?_
    rw [LG.out]
    rintro e w1 ⟨rfl, hx1⟩
    have A1 := A0.ext hx1
    have E1 := E0.trans hx1
    have b01 := A1.at 0 _ rfl
    have b11 := A1.at 1 _ rfl
    have bn1 := A1.lt
    go_wp2_with fail
    refine (steepest_bad a b k l c a1 _ (by have := RR.out; omega) (HX.out.ext E1) (HY.out.ext E1) LX.out LY.out).mono ?_
    rw [HE.out, ← RR.out]
    rintro e w2 ⟨rfl, hx2⟩
    have A2 := A1.ext hx2
    have E2 := E1.trans hx2
    have b02 := A2.at 0 _ rfl
    have b12 := A2.at 1 _ rfl
    have bn2 := A2.lt
    go_wp2_with fail
    refine (check09 a b k l c _ (HX.out.ext E2) (HY.out.ext E2) LX.out LY.out).mono ?_
    rw [← RR.out]
    rintro e w3 ⟨rfl, hx3⟩
    have A3 := A2.ext hx3
    have E3 := E2.trans hx3
    have b03 := A3.at 0 _ rfl
    have b13 := A3.at 1 _ rfl
    have bn3 := A3.lt
    go_wp2_with fail
    refine (num_err r _).mono ?_
    rintro e w4 ⟨rfl, rfl⟩
    have A4 := A3
    have E4 := E3
    go_wp2_with fail
    go_ret
    exact ⟨(by first | rfl | exact ret_true (by simp <;> omega)), (by repeat (first | with_reducible exact Ext.refl _ | with_reducible assumption | (with_reducible refine Ext.drew ?_) | (with_reducible refine Ext.drewN ?_ _) | (with_reducible refine Ext.alloc ?_ _) | (with_reducible refine Ext.setCell ?_ ?_ _) | (with_reducible refine Ext.trans ?_ (by with_reducible assumption)) | omega | (focus (simp <;> omega))))⟩

theorem walk (u0 : Cu) (a1 : Int) (b1 : I64 a1) (w : World) (hu0 : CuAt w u0) :
    Calls Try.prog 8 #[.agg #[.slice u0.a u0.v.nx u0.k, .slice u0.b u0.v.ny u0.l], .int .i64 a1] w fun e w' => e = .returned (.bool true) ∧ Ext w w' := by
  obtain ⟨a, b, k, l, c⟩ := u0
  obtain ⟨hx, hy, ix, iy, lx, ly⟩ := hu0
  dsimp only at hx hy ix iy lx ly ⊢
  cases hl : lg c
  · by_cases hc : Pl.chk c = 0
    · have sm := (Pl.good_of c hc).same
      rw [← sm] at hy ⊢
      exact walk_ok a b k l c a1 b1 w hl hc hx hy lx
    · exact walk_bad a b k l c a1 b1 w hl hc hx hy lx ly
  · exact walk_big a b k l c a1 b1 w hl

theorem own : ownKnob Try.prog.godebug = none := by kernel_rfl
theorem laidOut : laidOutB Try.prog = true := by kernel_rfl

/-- The row's step: the walk's end is what the row asks. -/
theorem lifted (os : Os) (started : os.Started) (H : Type) (enc : TypeId × Value → H) :
    ReturnsInHanded {} Try.checked os 8 .any (Rows.curveSteepestSpec.pre6 enc Try.prog Try.f8 Rows.curveSteepestRow.domain false) (Rows.curveSteepestSpec.post enc Try.prog Try.f8 false true false false) := by
  refine returnsInHanded_of_change (C := Try.checked) own started (by kernel_rfl) Try.func8
    (ChangeSpec.witness6 (enc := enc) (C := Try.checked) false ⟨#[], #[.agg #[.slice none 0 0, .slice none 0 0], .int .i64 0], []⟩ 8 (by kernel_rfl) (by kernel_rfl) (by kernel_rfl) (by kernel_rfl)) ?_
  intro W base args ds gs before hval0 hW hcnd _
  have hval : ∀ (j : Nat) t v, Try.f8.params[j]? = some t → args[j]? = some v → Value.okWide Try.prog W .any base t v := hval0
  have hW' := hW
  obtain ⟨p, q, hA0, hV, rfl, hfz, hnd⟩ := hW
  have hA : DataW.TrodAll enc Try.prog W 0 (fun _ => true) true Try.f8.params.toList args.toList ds p := hA0
  rw [Try.params8] at hA hval
  obtain ⟨v0, vs0, d0, ds0, p0, q0, hargs, rfl, rfl, h0, r0⟩ := trodAll_cons hA
  obtain ⟨v1, vs1, d1, ds1, p1, q1, rfl, rfl, rfl, h1, r1⟩ := trodAll_cons r0
  obtain ⟨rfl, rfl, rfl⟩ := trodAll_nil r1
  obtain rfl : args = #[v0, v1] := by cases args; simp_all
  obtain ⟨rfl, rfl⟩ := trodVars_none hV
  have lt0 : ∀ x ∈ p0, x.block < W.heap.size := by obtain ⟨m, hm⟩ := h0; exact DataW.trod_lt m _ _ _ hm
  obtain ⟨u0, rfl, hu0⟩ := open_crv (hval 0 24 v0 rfl rfl) h0
  have lt1 : ∀ x ∈ p1, x.block < W.heap.size := by obtain ⟨m, hm⟩ := h1; exact DataW.trod_lt m _ _ _ hm
  obtain ⟨a1, rfl, b1⟩ := open_i64 Try.underlying3 (hval 1 3 v1 rfl rfl)
  clear hA0 hval0
  refine (walk u0 a1 b1 W hu0).mono fun e W' ⟨he, bel0⟩ => ?_
  subst he
  have bel : Below W.heap.size W W' := bel0
  exact ⟨_, rfl, _, _, _, [], _, [], hW', trodAll_mk1 (shut_bool Try.underlying4 _), (trodAll_cons_mk (Below.trod laidOut (by kernel_rfl) (of_decide_eq_true (by kernel_rfl)) h0 bel lt0) (trodAll_cons_mk (Below.trod laidOut (by kernel_rfl) (of_decide_eq_true (by kernel_rfl)) h1 bel lt1) trodAll_mk0)), rfl, bel.frame _, fun h => by cases h⟩

theorem over : Rows.curveSteepestRow.holds Try.pinned (OpenSpec.ofChange Rows.curveSteepestSpec) :=
  OpenClaim.holds_of_wide 8 Try.f8 rfl rfl rfl rfl rfl rfl rfl ⟨rfl, rfl, rfl, rfl, rfl⟩ rfl rfl rfl rfl rfl (by kernel_rfl) Try.func8 (by kernel_rfl)
    (of_decide_eq_true (by kernel_rfl)) (by unfold Func.isWrapper; first | (rw [if_pos (by decide +kernel)]; kernel_rfl) | (rw [if_neg (by decide +kernel)]; exact ⟨rfl, rfl⟩))
    (fun os started H enc _ => lifted os started H enc)

/-- The statement. -/
theorem proved : Rows.CurveSteepestSaid := over
#print axioms proved
end Go.Proofs.Ytbeolonbboibfaa.curveSteepest
