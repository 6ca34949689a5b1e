/- OvermodFirst: what Axis returns is within the length, d does not depend on q, nothing is made greater, and what fits is not changed.
   Conditions: none: every input. -/
import Derived.Test.YtpeboabgcjbjcaaAwakeOver
import Derived.Deep.RegionWith
namespace Go.Proofs.Ytpeboabgcjbjcaa.overmodFirst
open Go.ChangeShapes Go.WideShapes Go.ChangeAt Go.RowKit
set_option linter.unusedVariables false

/-- Two arrays of two integers that lie just ahead of the call. -/
def Pair2 (w : World) (n m : Nat) (u0 u1 v0 v1 : Value) : Prop :=
  w.cell? ⟨n, 0, none⟩ = some u0 ∧ w.cell? ⟨n, 1, none⟩ = some u1 ∧ w.cell? ⟨m, 0, none⟩ = some v0 ∧ w.cell? ⟨m, 1, none⟩ = some v1 ∧
  (∀ o, w.frozen? ⟨n, o, none⟩ = false) ∧ (∀ o, w.frozen? ⟨m, o, none⟩ = false) ∧ n < m ∧ m < w.heap.size
/-- Behind a round of the loop that clips both arrays. -/
def Rel (w : World) (a0 a1 b0 b1 x y p q : Int) (i : Value) (wr : World) : Prop :=
  ((i = .int .i64 0 ∧ Pair2 wr w.heap.size (w.heap.size + 1) (.int .i64 a0) (.int .i64 a1) (.int .i64 b0) (.int .i64 b1)) ∨
   (i = .int .i64 1 ∧ Pair2 wr w.heap.size (w.heap.size + 1) (.int .i64 x) (.int .i64 a1) (.int .i64 p) (.int .i64 b1)) ∨
   (i = .int .i64 2 ∧ Pair2 wr w.heap.size (w.heap.size + 1) (.int .i64 x) (.int .i64 y) (.int .i64 p) (.int .i64 q))) ∧ Ext w wr
theorem Pair2.ext {W w1 : World} {n m : Nat} {u0 u1 v0 v1 : Value} (h : Pair2 W n m u0 u1 v0 v1) (hx : Ext W w1) : Pair2 w1 n m u0 u1 v0 v1 := by
  obtain ⟨h0, h1, h2, h3, h4, h5, h6, h7⟩ := h
  exact ⟨(hx.cell (by omega)).trans h0, (hx.cell (by omega)).trans h1, (hx.cell h7).trans h2, (hx.cell h7).trans h3, fun o => (hx.frozen (by omega)).trans (h4 o), fun o => (hx.frozen h7).trans (h5 o), h6, Nat.lt_of_lt_of_le h7 hx.size⟩
theorem cell_far {W : World} {n m o o' : Nat} (v : Value) (h : n ≠ m) : (W.setCell ⟨n, o, none⟩ v).cell? ⟨m, o', none⟩ = W.cell? ⟨m, o', none⟩ := by
  rw [World.cell?_setCell_other]
  intro e; injection e with e1; exact h e1
theorem Pair2.put0 {W : World} {n m : Nat} {u0 u1 v0 v1 : Value} (h : Pair2 W n m u0 u1 v0 v1) (x p : Value) : Pair2 ((W.setCell ⟨n, 0, none⟩ x).setCell ⟨m, 0, none⟩ p).drew n m x u1 p v1 := by
  obtain ⟨h0, h1, h2, h3, h4, h5, h6, h7⟩ := h
  have a0 : (W.setCell ⟨n, 0, none⟩ x).cell? ⟨n, 0, none⟩ = some x := setCell_cell_same h0
  have a1 : (W.setCell ⟨n, 0, none⟩ x).cell? ⟨n, 1, none⟩ = some u1 := setCell_cell_off x (by decide) h1
  have b0 : (W.setCell ⟨n, 0, none⟩ x).cell? ⟨m, 0, none⟩ = some v0 := (cell_far x (by omega)).trans h2
  have b1 : (W.setCell ⟨n, 0, none⟩ x).cell? ⟨m, 1, none⟩ = some v1 := (cell_far x (by omega)).trans h3
  exact ⟨(cell_far p (by omega)).trans a0, (cell_far p (by omega)).trans a1, setCell_cell_same b0, setCell_cell_off p (by decide) b1,
    fun o => (World.frozen?_setCell _ _ _ _).trans ((World.frozen?_setCell _ _ _ _).trans (h4 o)), fun o => (World.frozen?_setCell _ _ _ _).trans ((World.frozen?_setCell _ _ _ _).trans (h5 o)), h6,
    by show m < ((W.setCell _ _).setCell _ _).heap.size; rw [setCell_size, setCell_size]; exact h7⟩
theorem Pair2.put1 {W : World} {n m : Nat} {u0 u1 v0 v1 : Value} (h : Pair2 W n m u0 u1 v0 v1) (x p : Value) : Pair2 ((W.setCell ⟨n, 1, none⟩ x).setCell ⟨m, 1, none⟩ p).drew n m u0 x v0 p := by
  obtain ⟨h0, h1, h2, h3, h4, h5, h6, h7⟩ := h
  have a0 : (W.setCell ⟨n, 1, none⟩ x).cell? ⟨n, 1, none⟩ = some x := setCell_cell_same h1
  have a1 : (W.setCell ⟨n, 1, none⟩ x).cell? ⟨n, 0, none⟩ = some u0 := setCell_cell_off x (by decide) h0
  have b0 : (W.setCell ⟨n, 1, none⟩ x).cell? ⟨m, 0, none⟩ = some v0 := (cell_far x (by omega)).trans h2
  have b1 : (W.setCell ⟨n, 1, none⟩ x).cell? ⟨m, 1, none⟩ = some v1 := (cell_far x (by omega)).trans h3
  exact ⟨(cell_far p (by omega)).trans a1, (cell_far p (by omega)).trans a0, setCell_cell_off p (by decide) b0, setCell_cell_same b1,
    fun o => (World.frozen?_setCell _ _ _ _).trans ((World.frozen?_setCell _ _ _ _).trans (h4 o)), fun o => (World.frozen?_setCell _ _ _ _).trans ((World.frozen?_setCell _ _ _ _).trans (h5 o)), h6,
    by show m < ((W.setCell _ _).setCell _ _).heap.size; rw [setCell_size, setCell_size]; exact h7⟩
theorem Pair2.new (W : World) (u0 u1 v0 v1 : Value) (t t' : TypeId) : Pair2 ((W.alloc (.cells #[u0, u1] t)).alloc (.cells #[v0, v1] t')) W.heap.size (W.heap.size + 1) u0 u1 v0 v1 :=
  ⟨by simp [go_sem], by simp [go_sem], by simp [go_sem], by simp [go_sem], fun o => by simp [go_sem], fun o => by simp [go_sem], by omega, by simp⟩

/-- A number moved into -m to m lies between 0 and itself, and is itself exactly if it fits. -/
theorem cl_betw (n m : Int) (h : 0 ≤ m) : Betw (cl n m) n := by unfold Betw cl; omega
theorem cl_eq (n m : Int) (h : 0 ≤ m) : cl n m = n ↔ (-m ≤ n ∧ n ≤ m) := by unfold cl; omega
/-- What Axis leaves is what was asked for exactly if it fits. -/
theorem ax_fits (d q m : Int) (h : AxOK d q m) : (cl d m = d ∧ axq d q m = q) ↔ (max d (-d) ≤ m ∧ d * d + q * q ≤ m * m) := by
  have hm := h.2.2.1
  have r := ax_rest h
  have rb := Pl.rest_bd m (cl d m) r.2.2.1 r.2.2.2.2 r.2.2.2.1
  unfold axq rst
  rw [cl_eq d m hm, cl_eq q _ rb.2.1]
  constructor
  · rintro ⟨a, b⟩
    have e := (cl_eq d m hm).2 a
    rw [e] at rb b
    have := Pl.sq_le q _ b.1 b.2
    exact ⟨by omega, by omega⟩
  · rintro ⟨a, b⟩
    have a' : -m ≤ d ∧ d ≤ m := by omega
    have e := (cl_eq d m hm).2 a'
    rw [e] at rb ⊢
    refine ⟨a', ?_⟩
    have r0 := rb.2.1
    have k : ∀ z : Int, z * z = q * q → z ≤ Pl.isq (m * m - d * d) := by
      intro z hz
      have := Pl.lt_of_sq (a := z) (b := Pl.isq (m * m - d * d) + 1) (by omega) (by omega)
      omega
    have k1 := k q rfl
    have k2 := k (-q) (Pl.neg_sq q)
    omega
/-- What Axis leaves is within the length. -/
theorem ax_in (d q m : Int) (h : AxOK d q m) : cl d m * cl d m + axq d q m * axq d q m ≤ m * m ∧ -m ≤ axq d q m ∧ axq d q m ≤ m ∧ Betw (axq d q m) q := by
  have r := ax_rest h
  have rb := Pl.rest_bd m (cl d m) r.2.2.1 r.2.2.2.2 r.2.2.2.1
  have c := cl_bd q (rst m (cl d m)) rb.2.1
  have s := Pl.sq_le (axq d q m) (rst m (cl d m)) c.1 c.2
  have e : rst m (cl d m) = Pl.isq (m * m - cl d m * cl d m) := rfl
  rw [← e] at rb
  exact ⟨by omega, by unfold axq; omega, by unfold axq; omega, cl_betw _ _ rb.2.1⟩

set_option maxRecDepth 100000 in
set_option maxHeartbeats 6000000 in
theorem walk (a0x a0y : Int) (ba0x : I64 a0x) (ba0y : I64 a0y) (a1x a1y : Int) (ba1x : I64 a1x) (ba1y : I64 a1y) (a2 : Int) (b2 : I64 a2) (w : World) :
    Calls Try.prog 10 #[.agg #[.int .i64 a0x, .int .i64 a0y], .agg #[.int .i64 a1x, .int .i64 a1y], .int .i64 a2] w fun e w' => e = .returned (.bool true) ∧ Ext w w' := by
  clear ba0x ba0y ba1x ba1y b2
  obtain ⟨m, hm⟩ : ∃ m, m = clip a2 (0) (1073741824) := ⟨_, rfl⟩
  have ⟨m1, m2⟩ := clip_bd a2 (0) (1073741824) (by omega)
  rw [← hm] at m1 m2
  have Hm := Lib.hid hm
  clear hm
  obtain ⟨x, hx⟩ : ∃ x, x = clip a0x (-1073741824) (1073741824) := ⟨_, rfl⟩
  have ⟨x1, x2⟩ := clip_bd a0x (-1073741824) (1073741824) (by omega)
  rw [← hx] at x1 x2
  have Hx := Lib.hid hx
  clear hx
  obtain ⟨y, hy⟩ : ∃ y, y = clip a0y (-1073741824) (1073741824) := ⟨_, rfl⟩
  have ⟨y1, y2⟩ := clip_bd a0y (-1073741824) (1073741824) (by omega)
  rw [← hy] at y1 y2
  have Hy := Lib.hid hy
  clear hy
  obtain ⟨p, hp⟩ : ∃ p, p = clip a1x (-1073741824) (1073741824) := ⟨_, rfl⟩
  have ⟨p1, p2⟩ := clip_bd a1x (-1073741824) (1073741824) (by omega)
  rw [← hp] at p1 p2
  have Hp := Lib.hid hp
  clear hp
  obtain ⟨q, hq⟩ : ∃ q, q = clip a1y (-1073741824) (1073741824) := ⟨_, rfl⟩
  have ⟨q1, q2⟩ := clip_bd a1y (-1073741824) (1073741824) (by omega)
  rw [← hq] at q1 q2
  have Hq := Lib.hid hq
  clear hq
  go_enter Try.func10, Try.ntmps10
  go_wp2_with fail
  refine (awake22 _).mono ?_
  rintro e wa ⟨rfl, hxwa⟩
  go_wp2_with fail
  refine (clip_any a2 0 1073741824 _).mono ?_
  rw [← Hm.out]
  rintro e wm ⟨rfl, rfl⟩
  have A0 := (Pair2.new w (.int .i64 a0x) (.int .i64 a0y) (.int .i64 a1x) (.int .i64 a1y) 33 33).ext hxwa
  have ⟨c0, c1, c2, c3, hf, hg, hn, hm⟩ := A0
  go_wp2_with fail
  go_loopw [21] (fun i wr => Rel w a0x a0y a1x a1y x y p q i wr) (fun i _ => 2 - (intOf i).toNat)
  case atStart => exact ⟨.inl ⟨rfl, A0⟩, (by repeat (first | with_reducible exact Ext.refl _ | with_reducible assumption | (with_reducible refine Ext.drew ?_) | (with_reducible refine Ext.drewN ?_ _) | (with_reducible refine Ext.alloc ?_ _) | (with_reducible refine Ext.setCell ?_ ?_ _) | (with_reducible refine Ext.trans ?_ (by with_reducible assumption)) | omega | (focus (simp <;> omega))))⟩
  case round =>
    clear A0 c0 c1 c2 c3 hf hg hn hm
    obtain ⟨hrel, hxr⟩ := hrel
    rcases hrel with ⟨rfl, A⟩ | ⟨rfl, A⟩ | ⟨rfl, A⟩
    · have ⟨c0, c1, c2, c3, hf, hg, hn, hm⟩ := A
      go_wp2_with fail
      go_region_with (first | (go_at_call 27; (with_reducible refine (clip_any a0x (-1073741824) 1073741824 _).mono ?_); rw [← Hx.out]; rintro e w' ⟨rfl, rfl⟩) | (go_at_call 27; (with_reducible refine (clip_any a1x (-1073741824) 1073741824 _).mono ?_); rw [← Hp.out]; rintro e w' ⟨rfl, rfl⟩))
      all_goals
        go_wp2_with fail
        go_roundw
        case rel => exact ⟨.inr (.inl ⟨rfl, A.put0 _ _⟩), (by repeat (first | with_reducible exact Ext.refl _ | with_reducible assumption | (with_reducible refine Ext.drew ?_) | (with_reducible refine Ext.drewN ?_ _) | (with_reducible refine Ext.alloc ?_ _) | (with_reducible refine Ext.setCell ?_ ?_ _) | (with_reducible refine Ext.trans ?_ (by with_reducible assumption)) | omega | (focus (simp <;> omega))))⟩
        case measure => simp [intOf]
    · have ⟨c0, c1, c2, c3, hf, hg, hn, hm⟩ := A
      go_wp2_with fail
      go_region_with (first | (go_at_call 27; (with_reducible refine (clip_any a0y (-1073741824) 1073741824 _).mono ?_); rw [← Hy.out]; rintro e w' ⟨rfl, rfl⟩) | (go_at_call 27; (with_reducible refine (clip_any a1y (-1073741824) 1073741824 _).mono ?_); rw [← Hq.out]; rintro e w' ⟨rfl, rfl⟩))
      all_goals
        go_wp2_with fail
        go_roundw
        case rel => exact ⟨.inr (.inr ⟨rfl, A.put1 _ _⟩), (by repeat (first | with_reducible exact Ext.refl _ | with_reducible assumption | (with_reducible refine Ext.drew ?_) | (with_reducible refine Ext.drewN ?_ _) | (with_reducible refine Ext.alloc ?_ _) | (with_reducible refine Ext.setCell ?_ ?_ _) | (with_reducible refine Ext.trans ?_ (by with_reducible assumption)) | omega | (focus (simp <;> omega))))⟩
        case measure => simp [intOf]
    · skip
      have ok1 : AxOK x p m := ⟨⟨x1, x2⟩, ⟨p1, p2⟩, m1, m2⟩
      have ok2 : AxOK x q m := ⟨⟨x1, x2⟩, ⟨q1, q2⟩, m1, m2⟩
      have ft := ax_fits x p m ok1
      have ⟨i1, i2, i3, i4⟩ := ax_in x p m ok1
      have i5 := cl_betw x m m1
      have ⟨i6, i7⟩ := cl_bd x m m1
      obtain ⟨b, hb⟩ : ∃ b, b = (cl x m != x || axq x p m != p) := ⟨_, rfl⟩
      obtain ⟨b', hb'⟩ : ∃ b, b = (cl x m != x || axq x q m != q) := ⟨_, rfl⟩
      obtain ⟨u, hu⟩ : ∃ u, u = cl x m := ⟨_, rfl⟩
      obtain ⟨v, hv⟩ : ∃ v, v = axq x p m := ⟨_, rfl⟩
      obtain ⟨v', hv'⟩ : ∃ v, v = axq x q m := ⟨_, rfl⟩
      have hb2 : b = (u != x || v != p) := by rw [hu, hv]; exact hb
      rw [← hu] at ft i1 i5 i6 i7
      rw [← hv] at ft i1 i2 i3 i4
      have k1 := i5.abs
      have k2 := i4.abs
      have k3 := i5.sign
      have k4 := i4.sign
      have iu : In30 u := ⟨by omega, by omega⟩
      have iv : In30 v := ⟨by omega, by omega⟩
      have ⟨k5, k6⟩ := mul_bd iu ok1.1
      have ⟨k7, k8⟩ := mul_bd iv ok1.2.1
      have ⟨s1, s2⟩ := in30_sq iu
      have ⟨s3, s4⟩ := in30_sq iv
      have ⟨s5, s6⟩ := in30_sq ok1.1
      have ⟨s7, s8⟩ := in30_sq ok1.2.1
      have ⟨s9, s10⟩ := in30_sq (x := m) ⟨by omega, by omega⟩
      have k9 : max u (-u) ≤ m := by omega
      have k10 : max v (-v) ≤ m := by omega
      have C1 := fun w => axis_ok x p m w ok1
      have C2 := fun w => axis_ok x q m w ok2
      rw [← hb, ← hu, ← hv] at C1
      rw [← hb', ← hu, ← hv'] at C2
      have D1 := Lib.hid C1
      have D2 := Lib.hid C2
      clear C1 C2 hb hb' hu hv hv' ok1 ok2 i2 i3 i4 i5 i6 i7 iu iv
      by_cases hf : u = x ∧ v = p
      · obtain ⟨f1, f2⟩ := ft.1 hf
        have f3 : b = false := by rw [hb2, hf.1, hf.2]; simp
        obtain ⟨rfl, rfl⟩ := hf
        subst f3
        clear hb2 ft
        have ⟨c0, c1, c2, c3, hf, hg, hn, hm⟩ := A
        go_wp2_with fail
        refine (D1.out _).mono ?_
        rintro e wb ⟨rfl, hxb⟩
        have A := A.ext hxb
        have ⟨c0, c1, c2, c3, hf, hg, hn, hm⟩ := A
        go_wp2_with fail
        refine (D2.out _).mono ?_
        rintro e wc ⟨rfl, hxc⟩
        have A := A.ext hxc
        have ⟨c0, c1, c2, c3, hf, hg, hn, hm⟩ := A
        go_wp2_with fail
        go_ret
        exact ⟨(by first | rfl | exact ret_true (by simp <;> omega)), (by repeat (first | with_reducible exact Ext.refl _ | with_reducible assumption | (with_reducible refine Ext.drew ?_) | (with_reducible refine Ext.drewN ?_ _) | (with_reducible refine Ext.alloc ?_ _) | (with_reducible refine Ext.setCell ?_ ?_ _) | (with_reducible refine Ext.trans ?_ (by with_reducible assumption)) | omega | (focus (simp <;> omega))))⟩
      · have f3 : b = true := by
          rw [hb2]
          by_cases e1 : u = x
          · have e2 : ¬ v = p := fun e2 => hf ⟨e1, e2⟩
            simp [e2]
          · simp [e1]
        subst f3
        have nf : ¬ (max x (-x) ≤ m ∧ x * x + p * p ≤ m * m) := fun q => hf (ft.2 q)
        clear hb2 ft hf
        rcases Int.lt_or_le m (max x (-x)) with g | g
        · clear nf
          have g' : decide (max x (-x) ≤ m) = false := decide_eq_false (by omega)
          have ⟨c0, c1, c2, c3, hf, hg, hn, hm⟩ := A
          go_wp2_with fail
          refine (D1.out _).mono ?_
          rintro e wb ⟨rfl, hxb⟩
          have A := A.ext hxb
          have ⟨c0, c1, c2, c3, hf, hg, hn, hm⟩ := A
          go_wp2_with fail
          refine (D2.out _).mono ?_
          rintro e wc ⟨rfl, hxc⟩
          have A := A.ext hxc
          have ⟨c0, c1, c2, c3, hf, hg, hn, hm⟩ := A
          go_wp2_with fail
          go_ret
          exact ⟨(by first | rfl | exact ret_true (by simp <;> omega)), (by repeat (first | with_reducible exact Ext.refl _ | with_reducible assumption | (with_reducible refine Ext.drew ?_) | (with_reducible refine Ext.drewN ?_ _) | (with_reducible refine Ext.alloc ?_ _) | (with_reducible refine Ext.setCell ?_ ?_ _) | (with_reducible refine Ext.trans ?_ (by with_reducible assumption)) | omega | (focus (simp <;> omega))))⟩
        · have g2 : m * m < x * x + p * p := by omega
          have g3 : decide (x * x + p * p ≤ m * m) = false := decide_eq_false (by omega)
          clear nf
          have ⟨c0, c1, c2, c3, hf, hg, hn, hm⟩ := A
          go_wp2_with fail
          refine (D1.out _).mono ?_
          rintro e wb ⟨rfl, hxb⟩
          have A := A.ext hxb
          have ⟨c0, c1, c2, c3, hf, hg, hn, hm⟩ := A
          go_wp2_with fail
          refine (D2.out _).mono ?_
          rintro e wc ⟨rfl, hxc⟩
          have A := A.ext hxc
          have ⟨c0, c1, c2, c3, hf, hg, hn, hm⟩ := A
          go_wp2_with fail
          go_ret
          exact ⟨(by first | rfl | exact ret_true (by simp <;> omega)), (by repeat (first | with_reducible exact Ext.refl _ | with_reducible assumption | (with_reducible refine Ext.drew ?_) | (with_reducible refine Ext.drewN ?_ _) | (with_reducible refine Ext.alloc ?_ _) | (with_reducible refine Ext.setCell ?_ ?_ _) | (with_reducible refine Ext.trans ?_ (by with_reducible assumption)) | omega | (focus (simp <;> omega))))⟩

theorem own : ownKnob Try.prog.godebug = none := by kernel_rfl
theorem laidOut : laidOutB Try.prog = true := by kernel_rfl

/-- The row's step: the walk's end is what the row asks. -/
theorem lifted (os : Os) (started : os.Started) (H : Type) (enc : TypeId × Value → H) :
    ReturnsInHanded {} Try.checked os 10 .any (Rows.overmodFirstSpec.pre6 enc Try.prog Try.f10 Rows.overmodFirstRow.domain false) (Rows.overmodFirstSpec.post enc Try.prog Try.f10 false true false false) := by
  refine returnsInHanded_of_change (C := Try.checked) own started (by kernel_rfl) Try.func10
    (ChangeSpec.witness6 (enc := enc) (C := Try.checked) false ⟨#[], #[.agg #[.int .i64 0, .int .i64 0], .agg #[.int .i64 0, .int .i64 0], .int .i64 0], []⟩ 8 (by kernel_rfl) (by kernel_rfl) (by kernel_rfl) (by kernel_rfl)) ?_
  intro W base args ds gs before hval0 hW hcnd _
  have hval : ∀ (j : Nat) t v, Try.f10.params[j]? = some t → args[j]? = some v → Value.okWide Try.prog W .any base t v := hval0
  have hW' := hW
  obtain ⟨p, q, hA0, hV, rfl, hfz, hnd⟩ := hW
  have hA : DataW.TrodAll enc Try.prog W 0 (fun _ => true) true Try.f10.params.toList args.toList ds p := hA0
  rw [Try.params10] at hA hval
  obtain ⟨v0, vs0, d0, ds0, p0, q0, hargs, rfl, rfl, h0, r0⟩ := trodAll_cons hA
  obtain ⟨v1, vs1, d1, ds1, p1, q1, rfl, rfl, rfl, h1, r1⟩ := trodAll_cons r0
  obtain ⟨v2, vs2, d2, ds2, p2, q2, rfl, rfl, rfl, h2, r2⟩ := trodAll_cons r1
  obtain ⟨rfl, rfl, rfl⟩ := trodAll_nil r2
  obtain rfl : args = #[v0, v1, v2] := by cases args; simp_all
  obtain ⟨rfl, rfl⟩ := trodVars_none hV
  have lt0 : ∀ x ∈ p0, x.block < W.heap.size := by obtain ⟨m, hm⟩ := h0; exact DataW.trod_lt m _ _ _ hm
  obtain ⟨a0x, a0y, rfl, ba0x, ba0y⟩ := open_arr2 (u := 3) Try.underlying33 (by kernel_rfl) (by kernel_rfl) (by kernel_rfl) (hval 0 33 v0 rfl rfl)
  have lt1 : ∀ x ∈ p1, x.block < W.heap.size := by obtain ⟨m, hm⟩ := h1; exact DataW.trod_lt m _ _ _ hm
  obtain ⟨a1x, a1y, rfl, ba1x, ba1y⟩ := open_arr2 (u := 3) Try.underlying33 (by kernel_rfl) (by kernel_rfl) (by kernel_rfl) (hval 1 33 v1 rfl rfl)
  have lt2 : ∀ x ∈ p2, x.block < W.heap.size := by obtain ⟨m, hm⟩ := h2; exact DataW.trod_lt m _ _ _ hm
  obtain ⟨a2, rfl, b2⟩ := open_i64 Try.underlying3 (hval 2 3 v2 rfl rfl)
  clear hA0 hval0
  refine (walk a0x a0y ba0x ba0y a1x a1y ba1x ba1y a2 b2 W).mono fun e W' ⟨he, bel0⟩ => ?_
  subst he
  have bel : Below W.heap.size W W' := bel0
  exact ⟨_, rfl, _, _, _, [], _, [], hW', trodAll_mk1 (shut_bool Try.underlying4 _), (trodAll_cons_mk (Below.trod laidOut (by kernel_rfl) (of_decide_eq_true (by kernel_rfl)) h0 bel lt0) (trodAll_cons_mk (Below.trod laidOut (by kernel_rfl) (of_decide_eq_true (by kernel_rfl)) h1 bel lt1) (trodAll_cons_mk (Below.trod laidOut (by kernel_rfl) (of_decide_eq_true (by kernel_rfl)) h2 bel lt2) trodAll_mk0))), rfl, bel.frame _, fun h => by cases h⟩

theorem over : Rows.overmodFirstRow.holds Try.pinned (OpenSpec.ofChange Rows.overmodFirstSpec) :=
  OpenClaim.holds_of_wide 10 Try.f10 rfl rfl rfl rfl rfl rfl rfl ⟨rfl, rfl, rfl, rfl, rfl⟩ rfl rfl rfl rfl rfl (by kernel_rfl) Try.func10 (by kernel_rfl)
    (of_decide_eq_true (by kernel_rfl)) (by unfold Func.isWrapper; first | (rw [if_pos (by decide +kernel)]; kernel_rfl) | (rw [if_neg (by decide +kernel)]; exact ⟨rfl, rfl⟩))
    (fun os started H enc _ => lifted os started H enc)

/-- The statement. -/
theorem proved : Rows.OvermodFirstSaid := over
#print axioms proved
end Go.Proofs.Ytpeboabgcjbjcaa.overmodFirst
