/- CurveChecks: Check accepts exactly the curves of the specified form, and returns the first error.
   Conditions: none: every input. -/
import Derived.Test.YtbeolonbboibfaaAwakeCurve
import Derived.Deep.RegionHeld3
namespace Go.Proofs.Ytbeolonbboibfaa.curveChecks
open Go.ChangeShapes Go.WideShapes Go.ChangeAt Go.RowKit
set_option linter.unusedVariables false

set_option maxRecDepth 100000 in
set_option maxHeartbeats 1000000 in
theorem walk_big (a b : Option Addr) (k l : Nat) (c : Pl.Cv)  (w : World) (hl : lg c = true) :
    Calls Try.prog 3 #[.agg #[.slice a c.nx k, .slice b c.ny l]] w fun e w' => e = .returned (.bool true) ∧ Ext w w' := by
  · have LG := Lib.hid hl
    clear hl
    go_enter Try.func3, Try.ntmps3
    go_wp2_with fail
    refine (awake09 _).mono ?_
    rintro e wa ⟨rfl, hxwa⟩
    have A0 := (Blk.new w [.slice a c.nx k, .slice b c.ny l] 24).ext hxwa
    have E0 : Ext w wa := ((Ext.refl w).alloc _).trans hxwa
    have b00 := A0.at 0 _ rfl
    have b10 := A0.at 1 _ rfl
    have bn0 := A0.lt
    go_wp2_with fail
    refine (large_any a b k l c _).mono ?_
    rw [LG.out]
    rintro e w1 ⟨rfl, hx1⟩
    have A1 := A0.ext hx1
    have E1 := E0.trans hx1
    have b01 := A1.at 0 _ rfl
    have b11 := A1.at 1 _ rfl
    have bn1 := A1.lt
    go_wp2_with fail
    refine (awake09 _).mono ?_
    rintro e w2 ⟨rfl, hx2⟩
    have A2 := A1.ext hx2
    have E2 := E1.trans hx2
    have b02 := A2.at 0 _ rfl
    have b12 := A2.at 1 _ rfl
    have bn2 := A2.lt
    go_wp2_with fail
    go_ret
    exact ⟨(by first | rfl | exact ret_true (by simp <;> omega)), (by repeat (first | with_reducible exact Ext.refl _ | with_reducible assumption | (with_reducible refine Ext.drew ?_) | (with_reducible refine Ext.drewN ?_ _) | (with_reducible refine Ext.alloc ?_ _) | (with_reducible refine Ext.setCell ?_ ?_ _) | (with_reducible refine Ext.trans ?_ (by with_reducible assumption)) | omega | (focus (simp <;> omega))))⟩

set_option maxRecDepth 100000 in
set_option maxHeartbeats 1000000 in
theorem walk_ok (a b : Option Addr) (k l : Nat) (c : Pl.Cv)  (w : World) (hl : lg c = false) (hc : Pl.chk c = 0) (hx : Row w a c.nx c.x) (hy : Row w b c.nx c.y) (lx : c.nx ≤ maxLen) :
    Calls Try.prog 3 #[.agg #[.slice a c.nx k, .slice b c.nx l]] w fun e w' => e = .returned (.bool true) ∧ Ext w w' := by
  · have g := Pl.good_of c hc
    have G := Lib.hid g
    have sm := g.same
    have SM := Lib.hid sm
    have HX := Lib.hid hx
    have HY := Lib.hid hy
    have HC := Lib.hid hc
    have LX := Lib.hid lx
    have LG := Lib.hid hl
    have LGN : Hid (lg ⟨c.nx, c.nx, c.x, c.y⟩ = false) := Lib.hid (lg_same sm hl)
    clear hx hy hc hl g sm lx
    go_enter Try.func3, Try.ntmps3
    go_wp2_with fail
    refine (awake09 _).mono ?_
    rintro e wa ⟨rfl, hxwa⟩
    have A0 := (Blk.new w [.slice a c.nx k, .slice b c.nx l] 24).ext hxwa
    have E0 : Ext w wa := ((Ext.refl w).alloc _).trans hxwa
    have b00 := A0.at 0 _ rfl
    have b10 := A0.at 1 _ rfl
    have bn0 := A0.lt
    go_wp2_with fail
    refine (large_any a b k l ⟨c.nx, c.nx, c.x, c.y⟩ _).mono ?_
    rw [LGN.out]
    rintro e w1 ⟨rfl, hx1⟩
    have A1 := A0.ext hx1
    have E1 := E0.trans hx1
    have b01 := A1.at 0 _ rfl
    have b11 := A1.at 1 _ rfl
    have bn1 := A1.lt
    have CK := Lib.hid (fun V (hV : Ext w V) => ccheck_eq a b k l c V SM.out (HX.out.ext hV) (HY.out.ext hV) LX.out)
    have CR := Lib.hid (fun V (hV : Ext w V) => check09_eq a b k l c V SM.out (HX.out.ext hV) (HY.out.ext hV) LX.out)
    have S0 := b01
    have S1 := b11
    go_wp2_with fail
    go_region_held3 (fun w' => w'.cell? ⟨w.heap.size, 0, none⟩ = some (.slice a c.nx k) ∧ w'.cell? ⟨w.heap.size, 1, none⟩ = some (.slice b c.nx l)) ((refine ⟨?_, ?_⟩ <;> assumption))
      (first | (go_at_call 17; refine (CK.out _ ?_).mono ?_; (exact (by repeat (first | with_reducible exact Ext.refl _ | with_reducible assumption | (with_reducible refine Ext.drew ?_) | (with_reducible refine Ext.drewN ?_ _) | (with_reducible refine Ext.alloc ?_ _) | (with_reducible refine Ext.setCell ?_ ?_ _) | (with_reducible refine Ext.trans ?_ (by with_reducible assumption)) | omega | (focus (simp <;> omega))))); rw [HC.out, errv_0]; rintro e w9 ⟨rfl, hx9⟩; have hx9' : Ext w1 w9 := (by repeat (first | with_reducible exact Ext.refl _ | with_reducible assumption | (with_reducible refine Ext.drew ?_) | (with_reducible refine Ext.drewN ?_ _) | (with_reducible refine Ext.alloc ?_ _) | (with_reducible refine Ext.setCell ?_ ?_ _) | (with_reducible refine Ext.trans ?_ (by with_reducible assumption)) | omega | (focus (simp <;> omega)))); have k0 := (A1.ext hx9').at 0 _ rfl; have k1 := (A1.ext hx9').at 1 _ rfl) | (go_at_call 18; refine (CR.out _ ?_).mono ?_; (exact (by repeat (first | with_reducible exact Ext.refl _ | with_reducible assumption | (with_reducible refine Ext.drew ?_) | (with_reducible refine Ext.drewN ?_ _) | (with_reducible refine Ext.alloc ?_ _) | (with_reducible refine Ext.setCell ?_ ?_ _) | (with_reducible refine Ext.trans ?_ (by with_reducible assumption)) | omega | (focus (simp <;> omega))))); rw [HC.out]; rintro e w9 ⟨rfl, hx9⟩; have hx9' : Ext w1 w9 := (by repeat (first | with_reducible exact Ext.refl _ | with_reducible assumption | (with_reducible refine Ext.drew ?_) | (with_reducible refine Ext.drewN ?_ _) | (with_reducible refine Ext.alloc ?_ _) | (with_reducible refine Ext.setCell ?_ ?_ _) | (with_reducible refine Ext.trans ?_ (by with_reducible assumption)) | omega | (focus (simp <;> omega)))); have k0 := (A1.ext hx9').at 0 _ rfl; have k1 := (A1.ext hx9').at 1 _ rfl) | (go_at_call 16; refine (num_nil _).mono ?_; rintro e w9 ⟨rfl, rfl⟩))
    all_goals
      go_wp2_with fail
      go_ret
      exact ⟨(by first | rfl | exact ret_true (by simp <;> omega)), (by repeat (first | with_reducible exact Ext.refl _ | with_reducible assumption | (with_reducible refine Ext.drew ?_) | (with_reducible refine Ext.drewN ?_ _) | (with_reducible refine Ext.alloc ?_ _) | (with_reducible refine Ext.setCell ?_ ?_ _) | (with_reducible refine Ext.trans ?_ (by with_reducible assumption)) | omega | (focus (simp <;> omega))))⟩

set_option maxRecDepth 100000 in
set_option maxHeartbeats 1000000 in
theorem walk_bad (a b : Option Addr) (k l : Nat) (c : Pl.Cv)  (w : World) (hl : lg c = false) (hc : Pl.chk c ≠ 0) (hx : Row w a c.nx c.x) (hy : Row w b c.ny c.y) (lx : c.nx ≤ maxLen) (ly : c.ny ≤ maxLen) :
    Calls Try.prog 3 #[.agg #[.slice a c.nx k, .slice b c.ny l]] w fun e w' => e = .returned (.bool true) ∧ Ext w w' := by
  · have he : errv (Pl.chk c) = .iface 51 (.int .i64 (Pl.chk c)) := by unfold errv; rw [if_neg hc]
    have HE := Lib.hid he
    have HX := Lib.hid hx
    have HY := Lib.hid hy
    have HC := Lib.hid hc
    have LX := Lib.hid lx
    have LY := Lib.hid ly
    have LG := Lib.hid hl
    have nz : (Pl.chk c != 0) = true := by simpa using hc
    have nz2 : (Pl.chk c == 0) = false := by simpa using hc
    have hq : ¬ Pl.chk c = 0 := hc
    obtain ⟨r, hr⟩ : ∃ r, r = Pl.chk c := ⟨_, rfl⟩
    have RR := Lib.hid hr
    rw [← hr] at nz nz2 hq
    clear he hx hy hc lx ly hl hr
    go_enter Try.func3, Try.ntmps3
    go_wp2_with fail
    refine (awake09 _).mono ?_
    rintro e wa ⟨rfl, hxwa⟩
    have A0 := (Blk.new w [.slice a c.nx k, .slice b c.ny l] 24).ext hxwa
    have E0 : Ext w wa := ((Ext.refl w).alloc _).trans hxwa
    have b00 := A0.at 0 _ rfl
    have b10 := A0.at 1 _ rfl
    have bn0 := A0.lt
    go_wp2_with fail
    refine (large_any a b k l c _).mono ?_
    rw [LG.out]
    rintro e w1 ⟨rfl, hx1⟩
    have A1 := A0.ext hx1
    have E1 := E0.trans hx1
    have b01 := A1.at 0 _ rfl
    have b11 := A1.at 1 _ rfl
    have bn1 := A1.lt
    have CK := Lib.hid (fun V (hV : Ext w V) => ccheck a b k l c V (HX.out.ext hV) (HY.out.ext hV) LX.out LY.out)
    have CR := Lib.hid (fun V (hV : Ext w V) => check09 a b k l c V (HX.out.ext hV) (HY.out.ext hV) LX.out LY.out)
    have S0 := b01
    have S1 := b11
    go_wp2_with fail
    go_region_held3 (fun w' => w'.cell? ⟨w.heap.size, 0, none⟩ = some (.slice a c.nx k) ∧ w'.cell? ⟨w.heap.size, 1, none⟩ = some (.slice b c.ny l)) ((refine ⟨?_, ?_⟩ <;> assumption))
      (first | (go_at_call 17; refine (CK.out _ ?_).mono ?_; (exact (by repeat (first | with_reducible exact Ext.refl _ | with_reducible assumption | (with_reducible refine Ext.drew ?_) | (with_reducible refine Ext.drewN ?_ _) | (with_reducible refine Ext.alloc ?_ _) | (with_reducible refine Ext.setCell ?_ ?_ _) | (with_reducible refine Ext.trans ?_ (by with_reducible assumption)) | omega | (focus (simp <;> omega))))); rw [HE.out, ← RR.out]; rintro e w9 ⟨rfl, hx9⟩; have hx9' : Ext w1 w9 := (by repeat (first | with_reducible exact Ext.refl _ | with_reducible assumption | (with_reducible refine Ext.drew ?_) | (with_reducible refine Ext.drewN ?_ _) | (with_reducible refine Ext.alloc ?_ _) | (with_reducible refine Ext.setCell ?_ ?_ _) | (with_reducible refine Ext.trans ?_ (by with_reducible assumption)) | omega | (focus (simp <;> omega)))); have k0 := (A1.ext hx9').at 0 _ rfl; have k1 := (A1.ext hx9').at 1 _ rfl) | (go_at_call 18; refine (CR.out _ ?_).mono ?_; (exact (by repeat (first | with_reducible exact Ext.refl _ | with_reducible assumption | (with_reducible refine Ext.drew ?_) | (with_reducible refine Ext.drewN ?_ _) | (with_reducible refine Ext.alloc ?_ _) | (with_reducible refine Ext.setCell ?_ ?_ _) | (with_reducible refine Ext.trans ?_ (by with_reducible assumption)) | omega | (focus (simp <;> omega))))); rw [← RR.out]; rintro e w9 ⟨rfl, hx9⟩; have hx9' : Ext w1 w9 := (by repeat (first | with_reducible exact Ext.refl _ | with_reducible assumption | (with_reducible refine Ext.drew ?_) | (with_reducible refine Ext.drewN ?_ _) | (with_reducible refine Ext.alloc ?_ _) | (with_reducible refine Ext.setCell ?_ ?_ _) | (with_reducible refine Ext.trans ?_ (by with_reducible assumption)) | omega | (focus (simp <;> omega)))); have k0 := (A1.ext hx9').at 0 _ rfl; have k1 := (A1.ext hx9').at 1 _ rfl) | (go_at_call 16; refine (num_err r _).mono ?_; rintro e w9 ⟨rfl, rfl⟩))
    all_goals
      go_wp2_with fail
      go_ret
      exact ⟨(by first | rfl | exact ret_true (by simp <;> omega)), (by repeat (first | with_reducible exact Ext.refl _ | with_reducible assumption | (with_reducible refine Ext.drew ?_) | (with_reducible refine Ext.drewN ?_ _) | (with_reducible refine Ext.alloc ?_ _) | (with_reducible refine Ext.setCell ?_ ?_ _) | (with_reducible refine Ext.trans ?_ (by with_reducible assumption)) | omega | (focus (simp <;> omega))))⟩

theorem walk (u0 : Cu)  (w : World) (hu0 : CuAt w u0) :
    Calls Try.prog 3 #[.agg #[.slice u0.a u0.v.nx u0.k, .slice u0.b u0.v.ny u0.l]] w fun e w' => e = .returned (.bool true) ∧ Ext w w' := by
  obtain ⟨a, b, k, l, c⟩ := u0
  obtain ⟨hx, hy, ix, iy, lx, ly⟩ := hu0
  dsimp only at hx hy ix iy lx ly ⊢
  cases hl : lg c
  · by_cases hc : Pl.chk c = 0
    · have sm := (Pl.good_of c hc).same
      rw [← sm] at hy ⊢
      exact walk_ok a b k l c  w hl hc hx hy lx
    · exact walk_bad a b k l c  w hl hc hx hy lx ly
  · exact walk_big a b k l c  w hl

theorem own : ownKnob Try.prog.godebug = none := by kernel_rfl
theorem laidOut : laidOutB Try.prog = true := by kernel_rfl

/-- The row's step: the walk's end is what the row asks. -/
theorem lifted (os : Os) (started : os.Started) (H : Type) (enc : TypeId × Value → H) :
    ReturnsInHanded {} Try.checked os 3 .any (Rows.curveChecksSpec.pre6 enc Try.prog Try.f3 Rows.curveChecksRow.domain false) (Rows.curveChecksSpec.post enc Try.prog Try.f3 false true false false) := by
  refine returnsInHanded_of_change (C := Try.checked) own started (by kernel_rfl) Try.func3
    (ChangeSpec.witness6 (enc := enc) (C := Try.checked) false ⟨#[], #[.agg #[.slice none 0 0, .slice none 0 0]], []⟩ 8 (by kernel_rfl) (by kernel_rfl) (by kernel_rfl) (by kernel_rfl)) ?_
  intro W base args ds gs before hval0 hW hcnd _
  have hval : ∀ (j : Nat) t v, Try.f3.params[j]? = some t → args[j]? = some v → Value.okWide Try.prog W .any base t v := hval0
  have hW' := hW
  obtain ⟨p, q, hA0, hV, rfl, hfz, hnd⟩ := hW
  have hA : DataW.TrodAll enc Try.prog W 0 (fun _ => true) true Try.f3.params.toList args.toList ds p := hA0
  rw [Try.params3] at hA hval
  obtain ⟨v0, vs0, d0, ds0, p0, q0, hargs, rfl, rfl, h0, r0⟩ := trodAll_cons hA
  obtain ⟨rfl, rfl, rfl⟩ := trodAll_nil r0
  obtain rfl : args = #[v0] := by cases args; simp_all
  obtain ⟨rfl, rfl⟩ := trodVars_none hV
  have lt0 : ∀ x ∈ p0, x.block < W.heap.size := by obtain ⟨m, hm⟩ := h0; exact DataW.trod_lt m _ _ _ hm
  obtain ⟨u0, rfl, hu0⟩ := open_crv (hval 0 24 v0 rfl rfl) h0
  clear hA0 hval0
  refine (walk u0 W hu0).mono fun e W' ⟨he, bel0⟩ => ?_
  subst he
  have bel : Below W.heap.size W W' := bel0
  exact ⟨_, rfl, _, _, _, [], _, [], hW', trodAll_mk1 (shut_bool Try.underlying4 _), (trodAll_cons_mk (Below.trod laidOut (by kernel_rfl) (of_decide_eq_true (by kernel_rfl)) h0 bel lt0) trodAll_mk0), rfl, bel.frame _, fun h => by cases h⟩

theorem over : Rows.curveChecksRow.holds Try.pinned (OpenSpec.ofChange Rows.curveChecksSpec) :=
  OpenClaim.holds_of_wide 3 Try.f3 rfl rfl rfl rfl rfl rfl rfl ⟨rfl, rfl, rfl, rfl, rfl⟩ rfl rfl rfl rfl rfl (by kernel_rfl) Try.func3 (by kernel_rfl)
    (of_decide_eq_true (by kernel_rfl)) (by unfold Func.isWrapper; first | (rw [if_pos (by decide +kernel)]; kernel_rfl) | (rw [if_neg (by decide +kernel)]; exact ⟨rfl, rfl⟩))
    (fun os started H enc _ => lifted os started H enc)

/-- The statement. -/
theorem proved : Rows.CurveChecksSaid := over
#print axioms proved
end Go.Proofs.Ytbeolonbboibfaa.curveChecks
