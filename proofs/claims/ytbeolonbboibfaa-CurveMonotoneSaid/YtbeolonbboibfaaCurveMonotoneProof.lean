/- CurveMonotone: At does not descend, and changes between x and y by at most Steepest of the distance.
   Conditions: none: every input. -/
import Derived.Test.YtbeolonbboibfaaAwakeCurve
namespace Go.Proofs.Ytbeolonbboibfaa.curveMonotone
open Go.ChangeShapes Go.WideShapes Go.ChangeAt Go.RowKit
set_option linter.unusedVariables false

theorem near09 (x : Int) (w : World) : Calls Try.prog 26 #[.int .i64 x] w fun e w' => e = .returned (.int .i64 (clip x (-2147483648) 2147483648)) ∧ Ext w w' := by
  go_enter Try.func26, Try.ntmps26
  go_wp2_with fail
  refine (clip_any x (-2147483648) 2147483648 _).mono ?_
  rintro e w1 ⟨rfl, rfl⟩
  go_wp2_with fail
  go_ret
  exact ⟨rfl, (by repeat (first | with_reducible exact Ext.refl _ | with_reducible assumption | (with_reducible refine Ext.drew ?_) | (with_reducible refine Ext.drewN ?_ _) | (with_reducible refine Ext.alloc ?_ _) | (with_reducible refine Ext.setCell ?_ ?_ _) | (with_reducible refine Ext.trans ?_ (by with_reducible assumption)) | omega | (focus (simp <;> omega))))⟩

set_option maxRecDepth 100000 in
set_option maxHeartbeats 1000000 in
theorem walk_big (a b : Option Addr) (k l : Nat) (c : Pl.Cv) (a1 : Int) (b1 : I64 a1) (a2 : Int) (b2 : I64 a2) (w : World) (hl : lg c = true) :
    Calls Try.prog 9 #[.agg #[.slice a c.nx k, .slice b c.ny l], .int .i64 a1, .int .i64 a2] w fun e w' => e = .returned (.bool true) ∧ Ext w w' := by
  · have LG := Lib.hid hl
    clear hl
    go_enter Try.func9, Try.ntmps9
    go_wp2_with fail
    refine (awake09 _).mono ?_
    rintro e wa ⟨rfl, hxwa⟩
    have A0 := (Blk.new w [.slice a c.nx k, .slice b c.ny l] 24).ext hxwa
    have E0 : Ext w wa := ((Ext.refl w).alloc _).trans hxwa
    have b00 := A0.at 0 _ rfl
    have b10 := A0.at 1 _ rfl
    have bn0 := A0.lt
    go_wp2_with fail
    refine (large_any a b k l c _).mono ?_
    rw [LG.out]
    rintro e w1 ⟨rfl, hx1⟩
    have A1 := A0.ext hx1
    have E1 := E0.trans hx1
    have b01 := A1.at 0 _ rfl
    have b11 := A1.at 1 _ rfl
    have bn1 := A1.lt
    go_wp2_with fail
    refine (awake09 _).mono ?_
    rintro e w2 ⟨rfl, hx2⟩
    have A2 := A1.ext hx2
    have E2 := E1.trans hx2
    have b02 := A2.at 0 _ rfl
    have b12 := A2.at 1 _ rfl
    have bn2 := A2.lt
    go_wp2_with fail
    go_ret
    exact ⟨(by first | rfl | exact ret_true (by simp <;> omega)), (by repeat (first | with_reducible exact Ext.refl _ | with_reducible assumption | (with_reducible refine Ext.drew ?_) | (with_reducible refine Ext.drewN ?_ _) | (with_reducible refine Ext.alloc ?_ _) | (with_reducible refine Ext.setCell ?_ ?_ _) | (with_reducible refine Ext.trans ?_ (by with_reducible assumption)) | omega | (focus (simp <;> omega))))⟩

set_option maxRecDepth 100000 in
set_option maxHeartbeats 1000000 in
theorem walk_ok (a b : Option Addr) (k l : Nat) (c : Pl.Cv) (a1 : Int) (b1 : I64 a1) (a2 : Int) (b2 : I64 a2) (w : World) (hl : lg c = false) (hc : Pl.chk c = 0) (hx : Row w a c.nx c.x) (hy : Row w b c.nx c.y) (lx : c.nx ≤ maxLen) :
    Calls Try.prog 9 #[.agg #[.slice a c.nx k, .slice b c.nx l], .int .i64 a1, .int .i64 a2] w fun e w' => e = .returned (.bool true) ∧ Ext w w' := by
  · have g := Pl.good_of c hc
    have G := Lib.hid g
    have sm := g.same
    have SM := Lib.hid sm
    have HX := Lib.hid hx
    have HY := Lib.hid hy
    have HC := Lib.hid hc
    have LX := Lib.hid lx
    have LG := Lib.hid hl
    have LGN : Hid (lg ⟨c.nx, c.nx, c.x, c.y⟩ = false) := Lib.hid (lg_same sm hl)
    clear b1 b2
    obtain ⟨x, hx⟩ : ∃ x, x = clip a1 (-2147483648) (2147483648) := ⟨_, rfl⟩
    have ⟨x1, x2⟩ := clip_bd a1 (-2147483648) (2147483648) (by omega)
    rw [← hx] at x1 x2
    have Hx := Lib.hid hx
    clear hx
    obtain ⟨y, hy⟩ : ∃ y, y = clip a2 (-2147483648) (2147483648) := ⟨_, rfl⟩
    have ⟨y1, y2⟩ := clip_bd a2 (-2147483648) (2147483648) (by omega)
    rw [← hy] at y1 y2
    have Hy := Lib.hid hy
    clear hy
    have m1 := Pl.atv_mono g (q := min x y) (q' := max x y) (by omega)
    have m2 := Pl.atv_rise g (q := min x y) (q' := max x y) (m := stm (max x y - min x y)) (by omega) (by unfold stm; omega) (by unfold stm; omega) (by unfold stm; omega)
    have m3 := Pl.atv_in g (min x y)
    have m4 := Pl.atv_in g (max x y)
    have m5 := Pl.stp_nonneg c (stm (max x y - min x y)) c.nx
    obtain ⟨p, hp⟩ : ∃ p, p = Pl.atv c (min x y) := ⟨_, rfl⟩
    obtain ⟨q, hq⟩ : ∃ q, q = Pl.atv c (max x y) := ⟨_, rfl⟩
    obtain ⟨n, hn⟩ : ∃ n, n = Pl.stp c (stm (max x y - min x y)) c.nx := ⟨_, rfl⟩
    rw [← hp, ← hq] at m1 m2
    rw [← hp] at m3
    rw [← hq] at m4
    rw [← hn] at m2 m5
    obtain ⟨m31, m32⟩ := m3
    obtain ⟨m41, m42⟩ := m4
    have HP := Lib.hid hp
    have HQ := Lib.hid hq
    have HN := Lib.hid hn
    clear hp hq hn
    clear hx hy hc hl g sm lx
    go_enter Try.func9, Try.ntmps9
    go_wp2_with fail
    refine (awake09 _).mono ?_
    rintro e wa ⟨rfl, hxwa⟩
    have A0 := (Blk.new w [.slice a c.nx k, .slice b c.nx l] 24).ext hxwa
    have E0 : Ext w wa := ((Ext.refl w).alloc _).trans hxwa
    have b00 := A0.at 0 _ rfl
    have b10 := A0.at 1 _ rfl
    have bn0 := A0.lt
    go_wp2_with fail
    refine (large_any a b k l ⟨c.nx, c.nx, c.x, c.y⟩ _).mono ?_
    rw [LGN.out]
    rintro e w1 ⟨rfl, hx1⟩
    have A1 := A0.ext hx1
    have E1 := E0.trans hx1
    have b01 := A1.at 0 _ rfl
    have b11 := A1.at 1 _ rfl
    have bn1 := A1.lt
    go_wp2_with fail
    refine (ccheck_eq a b k l c _ SM.out (HX.out.ext E1) (HY.out.ext E1) LX.out).mono ?_
    rw [HC.out, errv_0]
    rintro e w2 ⟨rfl, hx2⟩
    have A2 := A1.ext hx2
    have E2 := E1.trans hx2
    have b02 := A2.at 0 _ rfl
    have b12 := A2.at 1 _ rfl
    have bn2 := A2.lt
    go_wp2_with fail
    refine (near09 a1 _).mono ?_
    rw [← Hx.out]
    rintro e w3 ⟨rfl, hx3⟩
    have A3 := A2.ext hx3
    have E3 := E2.trans hx3
    have b03 := A3.at 0 _ rfl
    have b13 := A3.at 1 _ rfl
    have bn3 := A3.lt
    go_wp2_with fail
    refine (near09 a2 _).mono ?_
    rw [← Hy.out]
    rintro e w4 ⟨rfl, hx4⟩
    have A4 := A3.ext hx4
    have E4 := E3.trans hx4
    have b04 := A4.at 0 _ rfl
    have b14 := A4.at 1 _ rfl
    have bn4 := A4.lt
    go_wp2_with fail
    refine (cAt_ok a b k l c (min x y) _ HC.out (HX.out.ext E4) (HY.out.ext E4)).mono ?_
    rw [← HP.out]
    rintro e w5 ⟨rfl, hx5⟩
    have A5 := A4.ext hx5
    have E5 := E4.trans hx5
    have b05 := A5.at 0 _ rfl
    have b15 := A5.at 1 _ rfl
    have bn5 := A5.lt
    go_wp2_with fail
    refine (cAt_ok a b k l c (max x y) _ HC.out (HX.out.ext E5) (HY.out.ext E5)).mono ?_
    rw [← HQ.out]
    rintro e w6 ⟨rfl, hx6⟩
    have A6 := A5.ext hx6
    have E6 := E5.trans hx6
    have b06 := A6.at 0 _ rfl
    have b16 := A6.at 1 _ rfl
    have bn6 := A6.lt
    go_wp2_with fail
    refine (steepest_ok a b k l c (max x y - min x y) _ HC.out (HX.out.ext E6) (HY.out.ext E6)).mono ?_
    rw [← HN.out]
    rintro e w7 ⟨rfl, hx7⟩
    have A7 := A6.ext hx7
    have E7 := E6.trans hx7
    have b07 := A7.at 0 _ rfl
    have b17 := A7.at 1 _ rfl
    have bn7 := A7.lt
    go_wp2_with fail
    go_ret
    exact ⟨(by first | rfl | exact ret_true (by simp <;> omega)), (by repeat (first | with_reducible exact Ext.refl _ | with_reducible assumption | (with_reducible refine Ext.drew ?_) | (with_reducible refine Ext.drewN ?_ _) | (with_reducible refine Ext.alloc ?_ _) | (with_reducible refine Ext.setCell ?_ ?_ _) | (with_reducible refine Ext.trans ?_ (by with_reducible assumption)) | omega | (focus (simp <;> omega))))⟩

set_option maxRecDepth 100000 in
set_option maxHeartbeats 1000000 in
theorem walk_bad (a b : Option Addr) (k l : Nat) (c : Pl.Cv) (a1 : Int) (b1 : I64 a1) (a2 : Int) (b2 : I64 a2) (w : World) (hl : lg c = false) (hc : Pl.chk c ≠ 0) (hx : Row w a c.nx c.x) (hy : Row w b c.ny c.y) (lx : c.nx ≤ maxLen) (ly : c.ny ≤ maxLen) :
    Calls Try.prog 9 #[.agg #[.slice a c.nx k, .slice b c.ny l], .int .i64 a1, .int .i64 a2] w fun e w' => e = .returned (.bool true) ∧ Ext w w' := by
  · have he : errv (Pl.chk c) = .iface 51 (.int .i64 (Pl.chk c)) := by unfold errv; rw [if_neg hc]
    have HE := Lib.hid he
    have HX := Lib.hid hx
    have HY := Lib.hid hy
    have HC := Lib.hid hc
    have LX := Lib.hid lx
    have LY := Lib.hid ly
    have LG := Lib.hid hl
    have nz : (Pl.chk c != 0) = true := by simpa using hc
    have nz2 : (Pl.chk c == 0) = false := by simpa using hc
    have hq : ¬ Pl.chk c = 0 := hc
    obtain ⟨r, hr⟩ : ∃ r, r = Pl.chk c := ⟨_, rfl⟩
    have RR := Lib.hid hr
    rw [← hr] at nz nz2 hq
    clear he hx hy hc lx ly hl hr
    clear b1 b2
    go_enter Try.func9, Try.ntmps9
    go_wp2_with fail
    refine (awake09 _).mono ?_
    rintro e wa ⟨rfl, hxwa⟩
    have A0 := (Blk.new w [.slice a c.nx k, .slice b c.ny l] 24).ext hxwa
    have E0 : Ext w wa := ((Ext.refl w).alloc _).trans hxwa
    have b00 := A0.at 0 _ rfl
    have b10 := A0.at 1 _ rfl
    have bn0 := A0.lt
    go_wp2_with fail
    refine (large_any a b k l c _).mono ?_
    rw [LG.out]
    rintro e w1 ⟨rfl, hx1⟩
    have A1 := A0.ext hx1
    have E1 := E0.trans hx1
    have b01 := A1.at 0 _ rfl
    have b11 := A1.at 1 _ rfl
    have bn1 := A1.lt
    go_wp2_with fail
    refine (ccheck a b k l c _ (HX.out.ext E1) (HY.out.ext E1) LX.out LY.out).mono ?_
    rw [HE.out, ← RR.out]
    rintro e w2 ⟨rfl, hx2⟩
    have A2 := A1.ext hx2
    have E2 := E1.trans hx2
    have b02 := A2.at 0 _ rfl
    have b12 := A2.at 1 _ rfl
    have bn2 := A2.lt
    go_wp2_with fail
    refine (awake09 _).mono ?_
    rintro e w3 ⟨rfl, hx3⟩
    have A3 := A2.ext hx3
    have E3 := E2.trans hx3
    have b03 := A3.at 0 _ rfl
    have b13 := A3.at 1 _ rfl
    have bn3 := A3.lt
    go_wp2_with fail
    go_ret
    exact ⟨(by first | rfl | exact ret_true (by simp <;> omega)), (by repeat (first | with_reducible exact Ext.refl _ | with_reducible assumption | (with_reducible refine Ext.drew ?_) | (with_reducible refine Ext.drewN ?_ _) | (with_reducible refine Ext.alloc ?_ _) | (with_reducible refine Ext.setCell ?_ ?_ _) | (with_reducible refine Ext.trans ?_ (by with_reducible assumption)) | omega | (focus (simp <;> omega))))⟩

theorem walk (u0 : Cu) (a1 : Int) (b1 : I64 a1) (a2 : Int) (b2 : I64 a2) (w : World) (hu0 : CuAt w u0) :
    Calls Try.prog 9 #[.agg #[.slice u0.a u0.v.nx u0.k, .slice u0.b u0.v.ny u0.l], .int .i64 a1, .int .i64 a2] w fun e w' => e = .returned (.bool true) ∧ Ext w w' := by
  obtain ⟨a, b, k, l, c⟩ := u0
  obtain ⟨hx, hy, ix, iy, lx, ly⟩ := hu0
  dsimp only at hx hy ix iy lx ly ⊢
  cases hl : lg c
  · by_cases hc : Pl.chk c = 0
    · have sm := (Pl.good_of c hc).same
      rw [← sm] at hy ⊢
      exact walk_ok a b k l c a1 b1 a2 b2 w hl hc hx hy lx
    · exact walk_bad a b k l c a1 b1 a2 b2 w hl hc hx hy lx ly
  · exact walk_big a b k l c a1 b1 a2 b2 w hl

theorem own : ownKnob Try.prog.godebug = none := by kernel_rfl
theorem laidOut : laidOutB Try.prog = true := by kernel_rfl

/-- The row's step: the walk's end is what the row asks. -/
theorem lifted (os : Os) (started : os.Started) (H : Type) (enc : TypeId × Value → H) :
    ReturnsInHanded {} Try.checked os 9 .any (Rows.curveMonotoneSpec.pre6 enc Try.prog Try.f9 Rows.curveMonotoneRow.domain false) (Rows.curveMonotoneSpec.post enc Try.prog Try.f9 false true false false) := by
  refine returnsInHanded_of_change (C := Try.checked) own started (by kernel_rfl) Try.func9
    (ChangeSpec.witness6 (enc := enc) (C := Try.checked) false ⟨#[], #[.agg #[.slice none 0 0, .slice none 0 0], .int .i64 0, .int .i64 0], []⟩ 8 (by kernel_rfl) (by kernel_rfl) (by kernel_rfl) (by kernel_rfl)) ?_
  intro W base args ds gs before hval0 hW hcnd _
  have hval : ∀ (j : Nat) t v, Try.f9.params[j]? = some t → args[j]? = some v → Value.okWide Try.prog W .any base t v := hval0
  have hW' := hW
  obtain ⟨p, q, hA0, hV, rfl, hfz, hnd⟩ := hW
  have hA : DataW.TrodAll enc Try.prog W 0 (fun _ => true) true Try.f9.params.toList args.toList ds p := hA0
  rw [Try.params9] at hA hval
  obtain ⟨v0, vs0, d0, ds0, p0, q0, hargs, rfl, rfl, h0, r0⟩ := trodAll_cons hA
  obtain ⟨v1, vs1, d1, ds1, p1, q1, rfl, rfl, rfl, h1, r1⟩ := trodAll_cons r0
  obtain ⟨v2, vs2, d2, ds2, p2, q2, rfl, rfl, rfl, h2, r2⟩ := trodAll_cons r1
  obtain ⟨rfl, rfl, rfl⟩ := trodAll_nil r2
  obtain rfl : args = #[v0, v1, v2] := by cases args; simp_all
  obtain ⟨rfl, rfl⟩ := trodVars_none hV
  have lt0 : ∀ x ∈ p0, x.block < W.heap.size := by obtain ⟨m, hm⟩ := h0; exact DataW.trod_lt m _ _ _ hm
  obtain ⟨u0, rfl, hu0⟩ := open_crv (hval 0 24 v0 rfl rfl) h0
  have lt1 : ∀ x ∈ p1, x.block < W.heap.size := by obtain ⟨m, hm⟩ := h1; exact DataW.trod_lt m _ _ _ hm
  obtain ⟨a1, rfl, b1⟩ := open_i64 Try.underlying3 (hval 1 3 v1 rfl rfl)
  have lt2 : ∀ x ∈ p2, x.block < W.heap.size := by obtain ⟨m, hm⟩ := h2; exact DataW.trod_lt m _ _ _ hm
  obtain ⟨a2, rfl, b2⟩ := open_i64 Try.underlying3 (hval 2 3 v2 rfl rfl)
  clear hA0 hval0
  refine (walk u0 a1 b1 a2 b2 W hu0).mono fun e W' ⟨he, bel0⟩ => ?_
  subst he
  have bel : Below W.heap.size W W' := bel0
  exact ⟨_, rfl, _, _, _, [], _, [], hW', trodAll_mk1 (shut_bool Try.underlying4 _), (trodAll_cons_mk (Below.trod laidOut (by kernel_rfl) (of_decide_eq_true (by kernel_rfl)) h0 bel lt0) (trodAll_cons_mk (Below.trod laidOut (by kernel_rfl) (of_decide_eq_true (by kernel_rfl)) h1 bel lt1) (trodAll_cons_mk (Below.trod laidOut (by kernel_rfl) (of_decide_eq_true (by kernel_rfl)) h2 bel lt2) trodAll_mk0))), rfl, bel.frame _, fun h => by cases h⟩

theorem over : Rows.curveMonotoneRow.holds Try.pinned (OpenSpec.ofChange Rows.curveMonotoneSpec) :=
  OpenClaim.holds_of_wide 9 Try.f9 rfl rfl rfl rfl rfl rfl rfl ⟨rfl, rfl, rfl, rfl, rfl⟩ rfl rfl rfl rfl rfl (by kernel_rfl) Try.func9 (by kernel_rfl)
    (of_decide_eq_true (by kernel_rfl)) (by unfold Func.isWrapper; first | (rw [if_pos (by decide +kernel)]; kernel_rfl) | (rw [if_neg (by decide +kernel)]; exact ⟨rfl, rfl⟩))
    (fun os started H enc _ => lifted os started H enc)

/-- The statement. -/
theorem proved : Rows.CurveMonotoneSaid := over
#print axioms proved
end Go.Proofs.Ytbeolonbboibfaa.curveMonotone
