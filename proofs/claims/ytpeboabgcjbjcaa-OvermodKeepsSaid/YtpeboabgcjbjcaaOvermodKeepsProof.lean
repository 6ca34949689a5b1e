/- OvermodKeeps: what is inside is not changed by Hexagon, what is within the radius by neither; a second time nothing changes.
   Conditions: none: every input. -/
import Derived.Test.YtpeboabgcjbjcaaAwakeOver
namespace Go.Proofs.Ytpeboabgcjbjcaa.overmodKeeps
open Go.ChangeShapes Go.WideShapes Go.ChangeAt Go.RowKit
set_option linter.unusedVariables false

set_option maxRecDepth 100000 in
set_option maxHeartbeats 1000000 in
theorem walk (a0 : Int) (b0 : I64 a0) (a1 : Int) (b1 : I64 a1) (a2 : Int) (b2 : I64 a2) (w : World) :
    Calls Try.prog 5 #[.int .i64 a0, .int .i64 a1, .int .i64 a2] w fun e w' => e = .returned (.bool true) ∧ Ext w w' := by
  clear b0 b1 b2
  obtain ⟨x, hx⟩ : ∃ x, x = clip a0 (-1048576) (1048576) := ⟨_, rfl⟩
  have ⟨x1, x2⟩ := clip_bd a0 (-1048576) (1048576) (by omega)
  rw [← hx] at x1 x2
  have Hx := Lib.hid hx
  clear hx
  obtain ⟨y, hy⟩ : ∃ y, y = clip a1 (-1048576) (1048576) := ⟨_, rfl⟩
  have ⟨y1, y2⟩ := clip_bd a1 (-1048576) (1048576) (by omega)
  rw [← hy] at y1 y2
  have Hy := Lib.hid hy
  clear hy
  obtain ⟨l, hl⟩ : ∃ l, l = clip a2 (16) (1048576) := ⟨_, rfl⟩
  have ⟨l1, l2⟩ := clip_bd a2 (16) (1048576) (by omega)
  rw [← hl] at l1 l2
  have Hl := Lib.hid hl
  clear hl
  have ok : OverOK x y l := ⟨⟨l1, l2⟩, ⟨x1, x2⟩, ⟨y1, y2⟩⟩
  obtain ⟨u, v, cu, hc, c1⟩ := circle_any x y l ok
  obtain ⟨p, q, ch, hh, c2⟩ := hexagon_any x y l ok
  obtain ⟨cb1, cb2, c3, c4, c5, c6⟩ := hc
  obtain ⟨hb1, hb2, h3, h4, h5, h6⟩ := hh
  have ⟨u1, u2⟩ := cb1.volt ok.2.1
  have ⟨v1, v2⟩ := cb2.volt ok.2.2
  have ⟨p1, p2⟩ := hb1.volt ok.2.1
  have ⟨q1, q2⟩ := hb2.volt ok.2.2
  have C1 := Lib.hid c1
  have C2 := Lib.hid c2
  clear c1 c2
  have rb := Pl.rad_bd l l1 l2
  obtain ⟨rb1, rb2, _, _⟩ := rb
  have hcs : cu = false → ch = false := by
    intro h
    have s := Pl.circle_in x y l l1 l2 (c6 h).1
    cases ch
    · rfl
    · have := (h5 rfl).1; omega
  have ok1 : OverOK u v l := ⟨⟨l1, l2⟩, ⟨u1, u2⟩, ⟨v1, v2⟩⟩
  have ok2 : OverOK p q l := ⟨⟨l1, l2⟩, ⟨p1, p2⟩, ⟨q1, q2⟩⟩
  have C3 := Lib.hid (fun w => circle_in u v l w ok1 c3)
  have C4 := Lib.hid (fun w => hexagon_in p q l w ok2 h3)
  obtain ⟨n, hn⟩ : ∃ n, n = Pl.sp x y := ⟨_, rfl⟩
  rw [← hn] at h5 h6
  have HN := Lib.hid hn
  obtain ⟨r, hr⟩ : ∃ r, r = Pl.rad l := ⟨_, rfl⟩
  rw [← hr] at rb1 rb2 c3 c5 c6
  have HR := Lib.hid hr
  have ⟨sx1, sx2⟩ := in30_sq (volt_in30 ok.2.1)
  have ⟨sy1, sy2⟩ := in30_sq (volt_in30 ok.2.2)
  have ⟨sr1, sr2⟩ := in30_sq (x := r) ⟨by omega, by omega⟩
  have HM : Hid (MinOK l) := Lib.hid ok.1
  have Vx := Lib.hid (volt_in30 ok.2.1)
  have Vy := Lib.hid (volt_in30 ok.2.2)
  have h5' : ch = true → l < n := fun h => (h5 h).1
  clear hn hr cb1 cb2 c3 c4 hb1 hb2 h3 h4 h5 ok ok1 ok2
  cases cu
  · obtain ⟨c6, e1, e2⟩ := c6 rfl
    obtain rfl := e1.symm
    obtain rfl := e2.symm
    obtain rfl := hcs rfl
    obtain ⟨h6, e3, e4⟩ := h6 rfl
    obtain rfl := e3.symm
    obtain rfl := e4.symm
    clear c5 h5' hcs
    go_enter Try.func5, Try.ntmps5
    go_wp2_with fail
    refine (awake22 _).mono ?_
    rintro e wa ⟨rfl, hxwa⟩
    go_wp2_with fail
    refine (fit22 a0 a1 a2 _).mono ?_
    rw [← Hx.out, ← Hy.out, ← Hl.out]
    rintro e wf ⟨rfl, hxwf⟩
    go_wp2_with fail
    refine (radius_ok l _ HM.out).mono ?_
    rw [← HR.out]
    rintro e wr ⟨rfl, hxwr⟩
    go_wp2_with fail
    refine (C1.out _).mono ?_
    rintro e w1 ⟨rfl, hxw1⟩
    go_wp2_with fail
    refine (C2.out _).mono ?_
    rintro e w2 ⟨rfl, hxw2⟩
    go_wp2_with fail
    refine (span19_ok x y _ Vx.out Vy.out).mono ?_
    rw [← HN.out]
    rintro e wn ⟨rfl, hxwn⟩
    go_wp2_with fail
    refine (C3.out _).mono ?_
    rintro e w3 ⟨rfl, hxw3⟩
    go_wp2_with fail
    refine (C4.out _).mono ?_
    rintro e w4 ⟨rfl, hxw4⟩
    go_wp2_with fail
    go_ret
    exact ⟨(by first | rfl | exact ret_true (by simp <;> omega)), (by repeat (first | with_reducible exact Ext.refl _ | with_reducible assumption | (with_reducible refine Ext.drew ?_) | (with_reducible refine Ext.drewN ?_ _) | (with_reducible refine Ext.alloc ?_ _) | (with_reducible refine Ext.setCell ?_ ?_ _) | (with_reducible refine Ext.trans ?_ (by with_reducible assumption)) | omega | (focus (simp <;> omega))))⟩
  · have c5 := c5 rfl
    clear c6 hcs
    cases ch
    · obtain ⟨h6, e3, e4⟩ := h6 rfl
      obtain rfl := e3.symm
      obtain rfl := e4.symm
      clear h5'
      go_enter Try.func5, Try.ntmps5
      go_wp2_with fail
      refine (awake22 _).mono ?_
      rintro e wa ⟨rfl, hxwa⟩
      go_wp2_with fail
      refine (fit22 a0 a1 a2 _).mono ?_
      rw [← Hx.out, ← Hy.out, ← Hl.out]
      rintro e wf ⟨rfl, hxwf⟩
      go_wp2_with fail
      refine (radius_ok l _ HM.out).mono ?_
      rw [← HR.out]
      rintro e wr ⟨rfl, hxwr⟩
      go_wp2_with fail
      refine (C1.out _).mono ?_
      rintro e w1 ⟨rfl, hxw1⟩
      go_wp2_with fail
      refine (C2.out _).mono ?_
      rintro e w2 ⟨rfl, hxw2⟩
      go_wp2_with fail
      refine (span19_ok x y _ Vx.out Vy.out).mono ?_
      rw [← HN.out]
      rintro e wn ⟨rfl, hxwn⟩
      go_wp2_with fail
      refine (C3.out _).mono ?_
      rintro e w3 ⟨rfl, hxw3⟩
      go_wp2_with fail
      refine (C4.out _).mono ?_
      rintro e w4 ⟨rfl, hxw4⟩
      go_wp2_with fail
      go_ret
      exact ⟨(by first | rfl | exact ret_true (by simp <;> omega)), (by repeat (first | with_reducible exact Ext.refl _ | with_reducible assumption | (with_reducible refine Ext.drew ?_) | (with_reducible refine Ext.drewN ?_ _) | (with_reducible refine Ext.alloc ?_ _) | (with_reducible refine Ext.setCell ?_ ?_ _) | (with_reducible refine Ext.trans ?_ (by with_reducible assumption)) | omega | (focus (simp <;> omega))))⟩
    · have h5' := h5' rfl
      clear h6
      go_enter Try.func5, Try.ntmps5
      go_wp2_with fail
      refine (awake22 _).mono ?_
      rintro e wa ⟨rfl, hxwa⟩
      go_wp2_with fail
      refine (fit22 a0 a1 a2 _).mono ?_
      rw [← Hx.out, ← Hy.out, ← Hl.out]
      rintro e wf ⟨rfl, hxwf⟩
      go_wp2_with fail
      refine (radius_ok l _ HM.out).mono ?_
      rw [← HR.out]
      rintro e wr ⟨rfl, hxwr⟩
      go_wp2_with fail
      refine (C1.out _).mono ?_
      rintro e w1 ⟨rfl, hxw1⟩
      go_wp2_with fail
      refine (C2.out _).mono ?_
      rintro e w2 ⟨rfl, hxw2⟩
      go_wp2_with fail
      refine (span19_ok x y _ Vx.out Vy.out).mono ?_
      rw [← HN.out]
      rintro e wn ⟨rfl, hxwn⟩
      go_wp2_with fail
      refine (C3.out _).mono ?_
      rintro e w3 ⟨rfl, hxw3⟩
      go_wp2_with fail
      refine (C4.out _).mono ?_
      rintro e w4 ⟨rfl, hxw4⟩
      go_wp2_with fail
      go_ret
      exact ⟨(by first | rfl | exact ret_true (by simp <;> omega)), (by repeat (first | with_reducible exact Ext.refl _ | with_reducible assumption | (with_reducible refine Ext.drew ?_) | (with_reducible refine Ext.drewN ?_ _) | (with_reducible refine Ext.alloc ?_ _) | (with_reducible refine Ext.setCell ?_ ?_ _) | (with_reducible refine Ext.trans ?_ (by with_reducible assumption)) | omega | (focus (simp <;> omega))))⟩

theorem own : ownKnob Try.prog.godebug = none := by kernel_rfl
theorem laidOut : laidOutB Try.prog = true := by kernel_rfl

/-- The row's step: the walk's end is what the row asks. -/
theorem lifted (os : Os) (started : os.Started) (H : Type) (enc : TypeId × Value → H) :
    ReturnsInHanded {} Try.checked os 5 .any (Rows.overmodKeepsSpec.pre6 enc Try.prog Try.f5 Rows.overmodKeepsRow.domain false) (Rows.overmodKeepsSpec.post enc Try.prog Try.f5 false true false false) := by
  refine returnsInHanded_of_change (C := Try.checked) own started (by kernel_rfl) Try.func5
    (ChangeSpec.witness6 (enc := enc) (C := Try.checked) false ⟨#[], #[.int .i64 0, .int .i64 0, .int .i64 0], []⟩ 8 (by kernel_rfl) (by kernel_rfl) (by kernel_rfl) (by kernel_rfl)) ?_
  intro W base args ds gs before hval0 hW hcnd _
  have hval : ∀ (j : Nat) t v, Try.f5.params[j]? = some t → args[j]? = some v → Value.okWide Try.prog W .any base t v := hval0
  have hW' := hW
  obtain ⟨p, q, hA0, hV, rfl, hfz, hnd⟩ := hW
  have hA : DataW.TrodAll enc Try.prog W 0 (fun _ => true) true Try.f5.params.toList args.toList ds p := hA0
  rw [Try.params5] at hA hval
  obtain ⟨v0, vs0, d0, ds0, p0, q0, hargs, rfl, rfl, h0, r0⟩ := trodAll_cons hA
  obtain ⟨v1, vs1, d1, ds1, p1, q1, rfl, rfl, rfl, h1, r1⟩ := trodAll_cons r0
  obtain ⟨v2, vs2, d2, ds2, p2, q2, rfl, rfl, rfl, h2, r2⟩ := trodAll_cons r1
  obtain ⟨rfl, rfl, rfl⟩ := trodAll_nil r2
  obtain rfl : args = #[v0, v1, v2] := by cases args; simp_all
  obtain ⟨rfl, rfl⟩ := trodVars_none hV
  have lt0 : ∀ x ∈ p0, x.block < W.heap.size := by obtain ⟨m, hm⟩ := h0; exact DataW.trod_lt m _ _ _ hm
  obtain ⟨a0, rfl, b0⟩ := open_i64 Try.underlying3 (hval 0 3 v0 rfl rfl)
  have lt1 : ∀ x ∈ p1, x.block < W.heap.size := by obtain ⟨m, hm⟩ := h1; exact DataW.trod_lt m _ _ _ hm
  obtain ⟨a1, rfl, b1⟩ := open_i64 Try.underlying3 (hval 1 3 v1 rfl rfl)
  have lt2 : ∀ x ∈ p2, x.block < W.heap.size := by obtain ⟨m, hm⟩ := h2; exact DataW.trod_lt m _ _ _ hm
  obtain ⟨a2, rfl, b2⟩ := open_i64 Try.underlying3 (hval 2 3 v2 rfl rfl)
  clear hA0 hval0
  refine (walk a0 b0 a1 b1 a2 b2 W).mono fun e W' ⟨he, bel0⟩ => ?_
  subst he
  have bel : Below W.heap.size W W' := bel0
  exact ⟨_, rfl, _, _, _, [], _, [], hW', trodAll_mk1 (shut_bool Try.underlying4 _), (trodAll_cons_mk (Below.trod laidOut (by kernel_rfl) (of_decide_eq_true (by kernel_rfl)) h0 bel lt0) (trodAll_cons_mk (Below.trod laidOut (by kernel_rfl) (of_decide_eq_true (by kernel_rfl)) h1 bel lt1) (trodAll_cons_mk (Below.trod laidOut (by kernel_rfl) (of_decide_eq_true (by kernel_rfl)) h2 bel lt2) trodAll_mk0))), rfl, bel.frame _, fun h => by cases h⟩

theorem over : Rows.overmodKeepsRow.holds Try.pinned (OpenSpec.ofChange Rows.overmodKeepsSpec) :=
  OpenClaim.holds_of_wide 5 Try.f5 rfl rfl rfl rfl rfl rfl rfl ⟨rfl, rfl, rfl, rfl, rfl⟩ rfl rfl rfl rfl rfl (by kernel_rfl) Try.func5 (by kernel_rfl)
    (of_decide_eq_true (by kernel_rfl)) (by unfold Func.isWrapper; first | (rw [if_pos (by decide +kernel)]; kernel_rfl) | (rw [if_neg (by decide +kernel)]; exact ⟨rfl, rfl⟩))
    (fun os started H enc _ => lifted os started H enc)

/-- The statement. -/
theorem proved : Rows.OvermodKeepsSaid := over
#print axioms proved
end Go.Proofs.Ytpeboabgcjbjcaa.overmodKeeps
