/- RootTriangle: the length of a sum is at most that of the two vectors together.
   Conditions: none: every input. -/
import Derived.Test.YtelmeebpnbhoiaaAwakeRoot
import Derived.Deep.RegionWith
namespace Go.Proofs.Ytelmeebpnbhoiaa.rootTriangle
open Go.ChangeShapes Go.WideShapes Go.ChangeAt Go.RowKit
set_option linter.unusedVariables false

/-- Two arrays of two integers that lie just ahead of the call. -/
def Pair2 (w : World) (n m : Nat) (u0 u1 v0 v1 : Value) : Prop :=
  w.cell? ⟨n, 0, none⟩ = some u0 ∧ w.cell? ⟨n, 1, none⟩ = some u1 ∧ w.cell? ⟨m, 0, none⟩ = some v0 ∧ w.cell? ⟨m, 1, none⟩ = some v1 ∧
  (∀ o, w.frozen? ⟨n, o, none⟩ = false) ∧ (∀ o, w.frozen? ⟨m, o, none⟩ = false) ∧ n < m ∧ m < w.heap.size
/-- Behind a round of the loop that clips both arrays. -/
def Rel (w : World) (a0 a1 b0 b1 x y p q : Int) (i : Value) (wr : World) : Prop :=
  ((i = .int .i64 0 ∧ Pair2 wr w.heap.size (w.heap.size + 1) (.int .i64 a0) (.int .i64 a1) (.int .i64 b0) (.int .i64 b1)) ∨
   (i = .int .i64 1 ∧ Pair2 wr w.heap.size (w.heap.size + 1) (.int .i64 x) (.int .i64 a1) (.int .i64 p) (.int .i64 b1)) ∨
   (i = .int .i64 2 ∧ Pair2 wr w.heap.size (w.heap.size + 1) (.int .i64 x) (.int .i64 y) (.int .i64 p) (.int .i64 q))) ∧ Ext w wr
theorem Pair2.ext {W w1 : World} {n m : Nat} {u0 u1 v0 v1 : Value} (h : Pair2 W n m u0 u1 v0 v1) (hx : Ext W w1) : Pair2 w1 n m u0 u1 v0 v1 := by
  obtain ⟨h0, h1, h2, h3, h4, h5, h6, h7⟩ := h
  exact ⟨(hx.cell (by omega)).trans h0, (hx.cell (by omega)).trans h1, (hx.cell h7).trans h2, (hx.cell h7).trans h3, fun o => (hx.frozen (by omega)).trans (h4 o), fun o => (hx.frozen h7).trans (h5 o), h6, Nat.lt_of_lt_of_le h7 hx.size⟩
theorem cell_far {W : World} {n m o o' : Nat} (v : Value) (h : n ≠ m) : (W.setCell ⟨n, o, none⟩ v).cell? ⟨m, o', none⟩ = W.cell? ⟨m, o', none⟩ := by
  rw [World.cell?_setCell_other]
  intro e; injection e with e1; exact h e1
theorem Pair2.put0 {W : World} {n m : Nat} {u0 u1 v0 v1 : Value} (h : Pair2 W n m u0 u1 v0 v1) (x p : Value) : Pair2 ((W.setCell ⟨n, 0, none⟩ x).setCell ⟨m, 0, none⟩ p).drew n m x u1 p v1 := by
  obtain ⟨h0, h1, h2, h3, h4, h5, h6, h7⟩ := h
  have a0 : (W.setCell ⟨n, 0, none⟩ x).cell? ⟨n, 0, none⟩ = some x := setCell_cell_same h0
  have a1 : (W.setCell ⟨n, 0, none⟩ x).cell? ⟨n, 1, none⟩ = some u1 := setCell_cell_off x (by decide) h1
  have b0 : (W.setCell ⟨n, 0, none⟩ x).cell? ⟨m, 0, none⟩ = some v0 := (cell_far x (by omega)).trans h2
  have b1 : (W.setCell ⟨n, 0, none⟩ x).cell? ⟨m, 1, none⟩ = some v1 := (cell_far x (by omega)).trans h3
  exact ⟨(cell_far p (by omega)).trans a0, (cell_far p (by omega)).trans a1, setCell_cell_same b0, setCell_cell_off p (by decide) b1,
    fun o => (World.frozen?_setCell _ _ _ _).trans ((World.frozen?_setCell _ _ _ _).trans (h4 o)), fun o => (World.frozen?_setCell _ _ _ _).trans ((World.frozen?_setCell _ _ _ _).trans (h5 o)), h6,
    by show m < ((W.setCell _ _).setCell _ _).heap.size; rw [setCell_size, setCell_size]; exact h7⟩
theorem Pair2.put1 {W : World} {n m : Nat} {u0 u1 v0 v1 : Value} (h : Pair2 W n m u0 u1 v0 v1) (x p : Value) : Pair2 ((W.setCell ⟨n, 1, none⟩ x).setCell ⟨m, 1, none⟩ p).drew n m u0 x v0 p := by
  obtain ⟨h0, h1, h2, h3, h4, h5, h6, h7⟩ := h
  have a0 : (W.setCell ⟨n, 1, none⟩ x).cell? ⟨n, 1, none⟩ = some x := setCell_cell_same h1
  have a1 : (W.setCell ⟨n, 1, none⟩ x).cell? ⟨n, 0, none⟩ = some u0 := setCell_cell_off x (by decide) h0
  have b0 : (W.setCell ⟨n, 1, none⟩ x).cell? ⟨m, 0, none⟩ = some v0 := (cell_far x (by omega)).trans h2
  have b1 : (W.setCell ⟨n, 1, none⟩ x).cell? ⟨m, 1, none⟩ = some v1 := (cell_far x (by omega)).trans h3
  exact ⟨(cell_far p (by omega)).trans a1, (cell_far p (by omega)).trans a0, setCell_cell_off p (by decide) b0, setCell_cell_same b1,
    fun o => (World.frozen?_setCell _ _ _ _).trans ((World.frozen?_setCell _ _ _ _).trans (h4 o)), fun o => (World.frozen?_setCell _ _ _ _).trans ((World.frozen?_setCell _ _ _ _).trans (h5 o)), h6,
    by show m < ((W.setCell _ _).setCell _ _).heap.size; rw [setCell_size, setCell_size]; exact h7⟩
theorem Pair2.new (W : World) (u0 u1 v0 v1 : Value) (t t' : TypeId) : Pair2 ((W.alloc (.cells #[u0, u1] t)).alloc (.cells #[v0, v1] t')) W.heap.size (W.heap.size + 1) u0 u1 v0 v1 :=
  ⟨by simp [go_sem], by simp [go_sem], by simp [go_sem], by simp [go_sem], fun o => by simp [go_sem], fun o => by simp [go_sem], by omega, by simp⟩
set_option maxRecDepth 100000 in
set_option maxHeartbeats 1000000 in
theorem walk (a0x a0y : Int) (ba0x : I64 a0x) (ba0y : I64 a0y) (a1x a1y : Int) (ba1x : I64 a1x) (ba1y : I64 a1y) (w : World) :
    Calls Try.prog 10 #[.agg #[.int .i64 a0x, .int .i64 a0y], .agg #[.int .i64 a1x, .int .i64 a1y]] w fun e w' => e = .returned (.bool true) ∧ Ext w w' := by
  clear ba0x ba0y ba1x ba1y
  obtain ⟨x, hx⟩ : ∃ x, x = clip a0x (-268435456) (268435456) := ⟨_, rfl⟩
  have ⟨x1, x2⟩ := clip_bd a0x (-268435456) (268435456) (by omega)
  rw [← hx] at x1 x2
  have Hx := Lib.hid hx
  clear hx
  obtain ⟨y, hy⟩ : ∃ y, y = clip a0y (-268435456) (268435456) := ⟨_, rfl⟩
  have ⟨y1, y2⟩ := clip_bd a0y (-268435456) (268435456) (by omega)
  rw [← hy] at y1 y2
  have Hy := Lib.hid hy
  clear hy
  obtain ⟨p, hp⟩ : ∃ p, p = clip a1x (-268435456) (268435456) := ⟨_, rfl⟩
  have ⟨p1, p2⟩ := clip_bd a1x (-268435456) (268435456) (by omega)
  rw [← hp] at p1 p2
  have Hp := Lib.hid hp
  clear hp
  obtain ⟨q, hq⟩ : ∃ q, q = clip a1y (-268435456) (268435456) := ⟨_, rfl⟩
  have ⟨q1, q2⟩ := clip_bd a1y (-268435456) (268435456) (by omega)
  rw [← hq] at q1 q2
  have Hq := Lib.hid hq
  clear hq
  go_enter Try.func10, Try.ntmps10
  go_wp2_with fail
  refine (awake08 _).mono ?_
  rintro e wa ⟨rfl, hxa⟩
  have A0 := (Pair2.new w (.int .i64 a0x) (.int .i64 a0y) (.int .i64 a1x) (.int .i64 a1y) 45 45).ext hxa
  have ⟨c0, c1, c2, c3, hf, hg, hn, hm⟩ := A0
  go_wp2_with fail
  go_loopw [14] (fun i wr => Rel w a0x a0y a1x a1y x y p q i wr) (fun i _ => 2 - (intOf i).toNat)
  case atStart => exact ⟨.inl ⟨rfl, A0⟩, (by repeat (first | exact Ext.refl _ | with_reducible assumption | (refine Ext.drew ?_) | (refine Ext.drewN ?_ _) | (refine Ext.alloc ?_ _) | (refine Ext.setCell ?_ (by simp <;> omega) _) | (refine Ext.trans ?_ (by with_reducible assumption))))⟩
  case round =>
    clear A0 c0 c1 c2 c3 hf hg hn hm
    obtain ⟨hrel, hxr⟩ := hrel
    rcases hrel with ⟨rfl, A⟩ | ⟨rfl, A⟩ | ⟨rfl, A⟩
    · have ⟨c0, c1, c2, c3, hf, hg, hn, hm⟩ := A
      go_wp2_with fail
      go_region_with (first | (go_at_call 23; (with_reducible refine (clip_any a0x (-268435456) 268435456 _).mono ?_); rw [← Hx.out]; rintro e w' ⟨rfl, rfl⟩) | (go_at_call 23; (with_reducible refine (clip_any a1x (-268435456) 268435456 _).mono ?_); rw [← Hp.out]; rintro e w' ⟨rfl, rfl⟩))
      all_goals
        go_wp2_with fail
        go_roundw
        case rel => exact ⟨.inr (.inl ⟨rfl, A.put0 _ _⟩), (by repeat (first | exact Ext.refl _ | with_reducible assumption | (refine Ext.drew ?_) | (refine Ext.drewN ?_ _) | (refine Ext.alloc ?_ _) | (refine Ext.setCell ?_ (by simp <;> omega) _) | (refine Ext.trans ?_ (by with_reducible assumption))))⟩
        case measure => simp [intOf]
    · have ⟨c0, c1, c2, c3, hf, hg, hn, hm⟩ := A
      go_wp2_with fail
      go_region_with (first | (go_at_call 23; (with_reducible refine (clip_any a0y (-268435456) 268435456 _).mono ?_); rw [← Hy.out]; rintro e w' ⟨rfl, rfl⟩) | (go_at_call 23; (with_reducible refine (clip_any a1y (-268435456) 268435456 _).mono ?_); rw [← Hq.out]; rintro e w' ⟨rfl, rfl⟩))
      all_goals
        go_wp2_with fail
        go_roundw
        case rel => exact ⟨.inr (.inr ⟨rfl, A.put1 _ _⟩), (by repeat (first | exact Ext.refl _ | with_reducible assumption | (refine Ext.drew ?_) | (refine Ext.drewN ?_ _) | (refine Ext.alloc ?_ _) | (refine Ext.setCell ?_ (by simp <;> omega) _) | (refine Ext.trans ?_ (by with_reducible assumption))))⟩
        case measure => simp [intOf]
    · have ⟨c0, c1, c2, c3, hf, hg, hn, hm⟩ := A
      have ix : In30 x := ⟨by omega, by omega⟩
      have iy : In30 y := ⟨by omega, by omega⟩
      have ip : In30 p := ⟨by omega, by omega⟩
      have iq : In30 q := ⟨by omega, by omega⟩
      have jx : In30 (x + p) := ⟨by omega, by omega⟩
      have jy : In30 (y + q) := ⟨by omega, by omega⟩
      have tr := Pl.triangle x y p q
      obtain ⟨A1, hA1⟩ : ∃ A1, A1 = Pl.upq (x * x + y * y) := ⟨_, rfl⟩
      obtain ⟨B1, hB1⟩ : ∃ B1, B1 = Pl.upq (p * p + q * q) := ⟨_, rfl⟩
      obtain ⟨C1, hC1⟩ : ∃ C1, C1 = Pl.isq ((x + p) * (x + p) + (y + q) * (y + q)) := ⟨_, rfl⟩
      have v1 : 0 ≤ A1 ∧ A1 ≤ 1518500250 := by
        rw [hA1]; have := in30_sq ix; have := in30_sq iy
        exact ⟨Pl.upq_nonneg _, Pl.upq_le_of (by omega) (by omega)⟩
      have v2 : 0 ≤ B1 ∧ B1 ≤ 1518500250 := by
        rw [hB1]; have := in30_sq ip; have := in30_sq iq
        exact ⟨Pl.upq_nonneg _, Pl.upq_le_of (by omega) (by omega)⟩
      obtain ⟨u1, u2⟩ := v1
      obtain ⟨u3, u4⟩ := v2
      rw [← hA1, ← hB1, ← hC1] at tr
      have HA := Lib.hid hA1
      have HB := Lib.hid hB1
      have HC := Lib.hid hC1
      clear hA1 hB1 hC1
      go_wp2_with fail
      refine (above_ok x y _ ix iy).mono ?_
      rw [← HA.out]
      rintro e wb ⟨rfl, hxb⟩
      have A := A.ext hxb
      have ⟨c0, c1, c2, c3, hf, hg, hn, hm⟩ := A
      go_wp2_with fail
      refine (above_ok p q _ ip iq).mono ?_
      rw [← HB.out]
      rintro e wc ⟨rfl, hxc⟩
      have A := A.ext hxc
      have ⟨c0, c1, c2, c3, hf, hg, hn, hm⟩ := A
      go_wp2_with fail
      refine (length_ok (x + p) (y + q) _ jx jy).mono ?_
      rw [← HC.out]
      rintro e wd ⟨rfl, hxd⟩
      go_wp2_with fail
      go_ret
      exact ⟨(by first | rfl | exact ret_true (by simp <;> omega)), (by repeat (first | exact Ext.refl _ | with_reducible assumption | (refine Ext.drew ?_) | (refine Ext.drewN ?_ _) | (refine Ext.alloc ?_ _) | (refine Ext.setCell ?_ (by simp <;> omega) _) | (refine Ext.trans ?_ (by with_reducible assumption))))⟩

theorem own : ownKnob Try.prog.godebug = none := by kernel_rfl
theorem laidOut : laidOutB Try.prog = true := by kernel_rfl

/-- The row's step: the walk's end is what the row asks. -/
theorem lifted (os : Os) (started : os.Started) (H : Type) (enc : TypeId × Value → H) :
    ReturnsInHanded {} Try.checked os 10 .any (Rows.rootTriangleSpec.pre6 enc Try.prog Try.f10 Rows.rootTriangleRow.domain false) (Rows.rootTriangleSpec.post enc Try.prog Try.f10 false true false false) := by
  refine returnsInHanded_of_change (C := Try.checked) own started (by kernel_rfl) Try.func10
    (ChangeSpec.witness6 (enc := enc) (C := Try.checked) false ⟨#[], #[.agg #[.int .i64 0, .int .i64 0], .agg #[.int .i64 0, .int .i64 0]], []⟩ 8 (by kernel_rfl) (by kernel_rfl) (by kernel_rfl) (by kernel_rfl)) ?_
  intro W base args ds gs before hval0 hW hcnd _
  have hval : ∀ (j : Nat) t v, Try.f10.params[j]? = some t → args[j]? = some v → Value.okWide Try.prog W .any base t v := hval0
  have hW' := hW
  obtain ⟨p, q, hA0, hV, rfl, hfz, hnd⟩ := hW
  have hA : DataW.TrodAll enc Try.prog W 0 (fun _ => true) true Try.f10.params.toList args.toList ds p := hA0
  rw [Try.params10] at hA hval
  obtain ⟨v0, vs0, d0, ds0, p0, q0, hargs, rfl, rfl, h0, r0⟩ := trodAll_cons hA
  obtain ⟨v1, vs1, d1, ds1, p1, q1, rfl, rfl, rfl, h1, r1⟩ := trodAll_cons r0
  obtain ⟨rfl, rfl, rfl⟩ := trodAll_nil r1
  obtain rfl : args = #[v0, v1] := by cases args; simp_all
  obtain ⟨rfl, rfl⟩ := trodVars_none hV
  have lt0 : ∀ x ∈ p0, x.block < W.heap.size := by obtain ⟨m, hm⟩ := h0; exact DataW.trod_lt m _ _ _ hm
  obtain ⟨a0x, a0y, rfl, ba0x, ba0y⟩ := open_arr2 (u := 3) Try.underlying45 (by kernel_rfl) (by kernel_rfl) (by kernel_rfl) (hval 0 45 v0 rfl rfl)
  have lt1 : ∀ x ∈ p1, x.block < W.heap.size := by obtain ⟨m, hm⟩ := h1; exact DataW.trod_lt m _ _ _ hm
  obtain ⟨a1x, a1y, rfl, ba1x, ba1y⟩ := open_arr2 (u := 3) Try.underlying45 (by kernel_rfl) (by kernel_rfl) (by kernel_rfl) (hval 1 45 v1 rfl rfl)
  clear hA0 hval0
  refine (walk a0x a0y ba0x ba0y a1x a1y ba1x ba1y W).mono fun e W' ⟨he, bel0⟩ => ?_
  subst he
  have bel : Below W.heap.size W W' := bel0
  exact ⟨_, rfl, _, _, _, [], _, [], hW', trodAll_mk1 (shut_bool Try.underlying4 _), (trodAll_cons_mk (Below.trod laidOut (by kernel_rfl) (of_decide_eq_true (by kernel_rfl)) h0 bel lt0) (trodAll_cons_mk (Below.trod laidOut (by kernel_rfl) (of_decide_eq_true (by kernel_rfl)) h1 bel lt1) trodAll_mk0)), rfl, bel.frame _, fun h => by cases h⟩

theorem over : Rows.rootTriangleRow.holds Try.pinned (OpenSpec.ofChange Rows.rootTriangleSpec) :=
  OpenClaim.holds_of_wide 10 Try.f10 rfl rfl rfl rfl rfl rfl rfl ⟨rfl, rfl, rfl, rfl, rfl⟩ rfl rfl rfl rfl rfl (by kernel_rfl) Try.func10 (by kernel_rfl)
    (of_decide_eq_true (by kernel_rfl)) (by unfold Func.isWrapper; first | (rw [if_pos (by decide +kernel)]; kernel_rfl) | (rw [if_neg (by decide +kernel)]; exact ⟨rfl, rfl⟩))
    (fun os started H enc _ => lifted os started H enc)

/-- The statement. -/
theorem proved : Rows.RootTriangleSaid := over
#print axioms proved
end Go.Proofs.Ytelmeebpnbhoiaa.rootTriangle
