/- TorquePlain: with no reduction and no assistance the torque of the currents is the torque that was asked for, up to the rounding.
   Conditions: none: every input. -/
import Derived.Test.YtphfgljfjfpomaaAwakeTorque
import Derived.Test.YtphfgljfjfpomaaTorqueOpen
import Derived.Deep.RegionHeld3
import Derived.Deep.DeepCutAuto
namespace Go.Proofs.Ytphfgljfjfpomaa.torquePlain
open Go.ChangeShapes Go.WideShapes Go.ChangeAt Go.RowKit
set_option linter.unusedVariables false

theorem cell_al {W : World} {a : Addr} {u : Value} (o : Obj) (h : W.cell? a = some u) : (W.alloc o).cell? a = some u := by
  rw [World.cell?_alloc_some _ _ _ (by rw [h]; rfl)]; exact h
theorem cell_st {W : World} {n m o o' : Nat} {u v : Value} (hne : n ≠ m) (h : W.cell? ⟨m, o', none⟩ = some u) : (W.setCell ⟨n, o, none⟩ v).cell? ⟨m, o', none⟩ = some u := by
  rw [World.cell?_setCell_far _ _ _ _ hne]; exact h
def pex (t : Tc) (g1 g2 g3 g4 g5 g6 g7 g8 : Nat) : Tc := ⟨t.most, t.per, t.mx, ⟨some ⟨g1, 0, none⟩, some ⟨g2, 0, none⟩, 2, 2, fcv 0⟩, ⟨some ⟨g3, 0, none⟩, some ⟨g4, 0, none⟩, 2, 2, fcv 0⟩, ⟨some ⟨g5, 0, none⟩, some ⟨g6, 0, none⟩, 2, 2, fcv 0⟩, ⟨some ⟨g7, 0, none⟩, some ⟨g8, 0, none⟩, 2, 2, fcv 0⟩⟩
theorem pex_ok (t : Tc) (ok : TOk t) (g1 g2 g3 g4 g5 g6 g7 g8 : Nat) : TOk (pex t g1 g2 g3 g4 g5 g6 g7 g8) := ⟨ok.rg, fcv_0, fcv_0, fcv_0, fcv_0⟩
theorem pex_refs (t : Tc) (ok : TOk t) (g1 g2 g3 g4 g5 g6 g7 g8 : Nat) (tq sp tp lk : Int) (h1 : -t.most ≤ tq) (h2 : tq ≤ t.most) (h3 : (tq * 1024).tdiv t.per ≤ t.mx) (h4 : -t.mx ≤ (tq * 1024).tdiv t.per) :
    rfd (pex t g1 g2 g3 g4 g5 g6 g7 g8) tq sp tp lk = 0 ∧ rfq (pex t g1 g2 g3 g4 g5 g6 g7 g8) tq sp tp lk = (tq * 1024).tdiv t.per := by
  have a0 := fcv_at fcv_0
  have ⟨⟨mo0, mo1⟩, ⟨pe0, pe1⟩, ⟨mx0, mx1⟩⟩ := ok.rg
  have l : lim (pex t g1 g2 g3 g4 g5 g6 g7 g8) sp tp = t.most := by
    show max 0 (t.most - max 0 (max (Pl.atv (fcv 0) (tn sp)) (Pl.atv (fcv 0) tp))) = t.most
    rw [a0, a0]; omega
  have x : txx (pex t g1 g2 g3 g4 g5 g6 g7 g8) tq t.most = (tq * 1024).tdiv t.per := by
    show clip ((clip tq (-t.most) t.most * 1024).tdiv t.per) (-t.mx) t.mx = _
    have e : clip tq (-t.most) t.most = tq := by unfold clip; omega
    rw [e]; unfold clip; omega
  have d : rfd (pex t g1 g2 g3 g4 g5 g6 g7 g8) tq sp tp lk = 0 := by
    unfold rfd tag
    rw [l, x]
    show clip (-(max 0 (Pl.atv (fcv 0) _) + max 0 (Pl.atv (fcv 0) _))) (-t.mx) 0 = 0
    rw [a0, a0]; unfold clip; omega
  have e9 : (t.mx + 1) * (t.mx + 1) = t.mx * t.mx + 2 * t.mx + 1 := by grind
  have r : rst t.mx 0 = t.mx := (Pl.isq_unique (n := t.mx * t.mx - 0 * 0) (r := t.mx) (by have := Pl.sq_nonneg t.mx; omega) (by omega) (by omega) (by omega)).symm
  refine ⟨d, ?_⟩
  unfold rfq
  rw [d, l, x]
  show clip _ (-(rst t.mx 0)) (rst t.mx 0) = _
  rw [r]; unfold clip; omega
theorem pex_tq (t : Tc) (ok : TOk t) (g1 g2 g3 g4 g5 g6 g7 g8 : Nat) (tq : Int) (h1 : -t.most ≤ tq) (h2 : tq ≤ t.most) (h3 : (tq * 1024).tdiv t.per ≤ t.mx) (h4 : -t.mx ≤ (tq * 1024).tdiv t.per) :
    -16777216 ≤ tqq (pex t g1 g2 g3 g4 g5 g6 g7 g8) ((tq * 1024).tdiv t.per) ∧ tqq (pex t g1 g2 g3 g4 g5 g6 g7 g8) ((tq * 1024).tdiv t.per) ≤ 16777216 ∧
    max (tqq (pex t g1 g2 g3 g4 g5 g6 g7 g8) ((tq * 1024).tdiv t.per) - tq) (-(tqq (pex t g1 g2 g3 g4 g5 g6 g7 g8) ((tq * 1024).tdiv t.per) - tq)) ≤ t.per.tdiv 1024 + 1 := by
  have ⟨⟨mo0, mo1⟩, ⟨pe0, pe1⟩, ⟨mx0, mx1⟩⟩ := ok.rg
  show -16777216 ≤ clip ((clip ((tq * 1024).tdiv t.per) (-1048576) 1048576 * t.per).tdiv 1024) (-16777216) 16777216 ∧ clip ((clip ((tq * 1024).tdiv t.per) (-1048576) 1048576 * t.per).tdiv 1024) (-16777216) 16777216 ≤ 16777216 ∧ max (clip ((clip ((tq * 1024).tdiv t.per) (-1048576) 1048576 * t.per).tdiv 1024) (-16777216) 16777216 - tq) (-(clip ((clip ((tq * 1024).tdiv t.per) (-1048576) 1048576 * t.per).tdiv 1024) (-16777216) 16777216 - tq)) ≤ t.per.tdiv 1024 + 1
  have td := Pl.td (tq * 1024) t.per (by omega)
  generalize (tq * 1024).tdiv t.per = z at *
  have e : clip z (-1048576) 1048576 = z := by unfold clip; omega
  rw [e]
  have e1 : z * t.per = t.per * z := Int.mul_comm _ _
  have t2 := Pl.td (z * t.per) 1024 (by omega)
  have t3 := Pl.td_pos (a := t.per) (d := 1024) (by omega) (by omega)
  rw [e1] at t2 ⊢
  generalize (t.per * z).tdiv 1024 = n at *
  generalize t.per.tdiv 1024 = k at *
  generalize t.per * z = pz at *
  unfold clip
  omega
theorem cu_of {W : World} {g1 g2 : Nat} (A : Blk W g1 [.int .i64 (-1), .int .i64 1]) (B : Blk W g2 [.int .i64 0, .int .i64 0]) : CuAt W ⟨some ⟨g1, 0, none⟩, some ⟨g2, 0, none⟩, 2, 2, fcv 0⟩ :=
  ⟨fun _ => ⟨_, 0, rfl, A.lt, lt2 (A.at 0 _ rfl) (A.at 1 _ rfl)⟩, fun _ => ⟨_, 0, rfl, B.lt, lt2 (B.at 0 _ rfl) (B.at 1 _ rfl)⟩, lt2 (show I64 (-1) from ⟨by decide, by decide⟩) (show I64 1 from ⟨by decide, by decide⟩), lt2 (show I64 0 from ⟨by decide, by decide⟩) (show I64 0 from ⟨by decide, by decide⟩), by show 2 ≤ maxLen; unfold maxLen; omega, by show 2 ≤ maxLen; unfold maxLen; omega⟩
theorem flat_blk (w : World) : Calls Try.prog 13 #[.int .i64 0] w fun e w' => ∃ g1 g2 : Nat, e = .returned (.agg #[.slice (some ⟨g1, 0, none⟩) 2 2, .slice (some ⟨g2, 0, none⟩) 2 2]) ∧ Blk w' g1 [.int .i64 (-1), .int .i64 1] ∧ Blk w' g2 [.int .i64 0, .int .i64 0] ∧ w.heap.size ≤ g1 ∧ w.heap.size ≤ g2 ∧ Ext w w' := by
  go_enter Try.func13, Try.ntmps13
  go_wp2
  go_returns
  have e1 : ∀ o : Obj, (w.alloc o).heap.size = w.heap.size + 1 := fun o => by simp
  have h2 : ∀ (o o1 : Obj) (us : List Value), Blk (((w.alloc o).alloc o1).alloc (.cells ⟨us⟩ 3)) (w.heap.size + 1 + 1) us := fun o o1 us => by
    have hh := Blk.new1 (w.alloc o) o1 us 3
    rw [e1] at hh
    exact hh
  exact ⟨_, _, rfl, (Blk.new1 w _ [.int .i64 (-1), .int .i64 1] 3).alloc _, h2 _ _ [.int .i64 0, .int .i64 0], by omega, by omega, (((Ext.refl w).alloc _).alloc _).alloc _⟩
abbrev st11 (W : World) (n : Nat) (x0 x1 x2 x3 x4 x5 x6 x7 x8 x9 x10 : Value) : World := ((((((((((W.setCell ⟨n, 0, none⟩ x0).setCell ⟨n, 1, none⟩ x1).setCell ⟨n, 2, none⟩ x2).setCell ⟨n, 3, none⟩ x3).setCell ⟨n, 4, none⟩ x4).setCell ⟨n, 5, none⟩ x5).setCell ⟨n, 6, none⟩ x6).setCell ⟨n, 7, none⟩ x7).setCell ⟨n, 8, none⟩ x8).setCell ⟨n, 9, none⟩ x9).setCell ⟨n, 10, none⟩ x10
theorem far11 {W : World} {n m : Nat} {us : List Value} (h : Blk W n us) (hne : m ≠ n) (x0 x1 x2 x3 x4 x5 x6 x7 x8 x9 x10 : Value) : Blk (st11 W m x0 x1 x2 x3 x4 x5 x6 x7 x8 x9 x10) n us := ((((((((((h.far hne x0).far hne x1).far hne x2).far hne x3).far hne x4).far hne x5).far hne x6).far hne x7).far hne x8).far hne x9).far hne x10
theorem set11 {W : World} {n : Nat} {u0 u1 u2 u3 u4 u5 u6 u7 u8 u9 u10 : Value} (h : Blk W n [u0, u1, u2, u3, u4, u5, u6, u7, u8, u9, u10]) (x0 x1 x2 x3 x4 x5 x6 x7 x8 x9 x10 : Value) : Blk (st11 W n x0 x1 x2 x3 x4 x5 x6 x7 x8 x9 x10) n [x0, x1, x2, x3, x4, x5, x6, x7, x8, x9, x10] := ((((((((((h.set 0 x0 (by simp)).set 1 x1 (by simp)).set 2 x2 (by simp)).set 3 x3 (by simp)).set 4 x4 (by simp)).set 5 x5 (by simp)).set 6 x6 (by simp)).set 7 x7 (by simp)).set 8 x8 (by simp)).set 9 x9 (by simp)).set 10 x10 (by simp)
theorem cell_dr {W : World} {a : Addr} {v : Value} (h : W.cell? a = some v) : W.drew.cell? a = some v := h
theorem cst11 {W : World} {n m o : Nat} {v : Value} (hne : m ≠ n) (h : W.cell? ⟨n, o, none⟩ = some v) (x0 x1 x2 x3 x4 x5 x6 x7 x8 x9 x10 : Value) : (st11 W m x0 x1 x2 x3 x4 x5 x6 x7 x8 x9 x10).cell? ⟨n, o, none⟩ = some v := cell_st hne (cell_st hne (cell_st hne (cell_st hne (cell_st hne (cell_st hne (cell_st hne (cell_st hne (cell_st hne (cell_st hne (cell_st hne (h)))))))))))
theorem ext11 {a W : World} {m : Nat} (h : Ext a W) (hm : a.heap.size ≤ m) (x0 x1 x2 x3 x4 x5 x6 x7 x8 x9 x10 : Value) : Ext a (st11 W m x0 x1 x2 x3 x4 x5 x6 x7 x8 x9 x10) := ((((((((((h.setCell (p := ⟨m, 0, none⟩) hm x0).setCell (p := ⟨m, 1, none⟩) hm x1).setCell (p := ⟨m, 2, none⟩) hm x2).setCell (p := ⟨m, 3, none⟩) hm x3).setCell (p := ⟨m, 4, none⟩) hm x4).setCell (p := ⟨m, 5, none⟩) hm x5).setCell (p := ⟨m, 6, none⟩) hm x6).setCell (p := ⟨m, 7, none⟩) hm x7).setCell (p := ⟨m, 8, none⟩) hm x8).setCell (p := ⟨m, 9, none⟩) hm x9).setCell (p := ⟨m, 10, none⟩) hm x10
set_option maxRecDepth 100000 in
set_option maxHeartbeats 16000000 in
theorem walk_bad (t : Tc) (tq : Int) (b4 : I64 tq) (w : World) (hk : tck t ≠ 0) (hw : TcAt w t) :
    Calls Try.prog 4 #[.agg #[.int .i64 t.most, .int .i64 t.per, .int .i64 t.mx, .slice t.c0.a t.c0.v.nx t.c0.k, .slice t.c0.b t.c0.v.ny t.c0.l, .slice t.c1.a t.c1.v.nx t.c1.k, .slice t.c1.b t.c1.v.ny t.c1.l, .slice t.c2.a t.c2.v.nx t.c2.k, .slice t.c2.b t.c2.v.ny t.c2.l, .slice t.c3.a t.c3.v.nx t.c3.k, .slice t.c3.b t.c3.v.ny t.c3.l], .int .i64 tq] w fun e w' => e = .returned (.bool true) ∧ Ext w w' := by
  obtain ⟨r, hr⟩ : ∃ r, r = tck t := ⟨_, rfl⟩
  have nz : (r != 0) = true := by rw [hr]; simpa using hk
  have RR := Lib.hid hr
  have HW := Lib.hid hw
  clear hk hw hr
  have E0 : Ext w (w.alloc (.cells #[.int .i64 t.most, .int .i64 t.per, .int .i64 t.mx, .slice t.c0.a t.c0.v.nx t.c0.k, .slice t.c0.b t.c0.v.ny t.c0.l, .slice t.c1.a t.c1.v.nx t.c1.k, .slice t.c1.b t.c1.v.ny t.c1.l, .slice t.c2.a t.c2.v.nx t.c2.k, .slice t.c2.b t.c2.v.ny t.c2.l, .slice t.c3.a t.c3.v.nx t.c3.k, .slice t.c3.b t.c3.v.ny t.c3.l] 26)) := (Ext.refl w).alloc _
  have T0 : Blk (w.alloc (.cells #[.int .i64 t.most, .int .i64 t.per, .int .i64 t.mx, .slice t.c0.a t.c0.v.nx t.c0.k, .slice t.c0.b t.c0.v.ny t.c0.l, .slice t.c1.a t.c1.v.nx t.c1.k, .slice t.c1.b t.c1.v.ny t.c1.l, .slice t.c2.a t.c2.v.nx t.c2.k, .slice t.c2.b t.c2.v.ny t.c2.l, .slice t.c3.a t.c3.v.nx t.c3.k, .slice t.c3.b t.c3.v.ny t.c3.l] 26)) (w.heap.size) [.int .i64 t.most, .int .i64 t.per, .int .i64 t.mx, .slice t.c0.a t.c0.v.nx t.c0.k, .slice t.c0.b t.c0.v.ny t.c0.l, .slice t.c1.a t.c1.v.nx t.c1.k, .slice t.c1.b t.c1.v.ny t.c1.l, .slice t.c2.a t.c2.v.nx t.c2.k, .slice t.c2.b t.c2.v.ny t.c2.l, .slice t.c3.a t.c3.v.nx t.c3.k, .slice t.c3.b t.c3.v.ny t.c3.l] := by
    have hh := Blk.new w [.int .i64 t.most, .int .i64 t.per, .int .i64 t.mx, .slice t.c0.a t.c0.v.nx t.c0.k, .slice t.c0.b t.c0.v.ny t.c0.l, .slice t.c1.a t.c1.v.nx t.c1.k, .slice t.c1.b t.c1.v.ny t.c1.l, .slice t.c2.a t.c2.v.nx t.c2.k, .slice t.c2.b t.c2.v.ny t.c2.l, .slice t.c3.a t.c3.v.nx t.c3.k, .slice t.c3.b t.c3.v.ny t.c3.l] 26
    have e : (w).heap.size = w.heap.size := by simp
    rw [e] at hh
    exact hh
  have HT := Lib.hid T0
  have HE := Lib.hid E0
  clear E0 T0
  go_enter Try.func4, Try.ntmps4
  go_wp2_with fail
  refine (check36 t _ (HW.out.ext HE.out)).mono ?_
  rw [← RR.out]
  rintro e w1 ⟨rfl, hx1⟩
  have E1 := HE.out.trans hx1
  have T1 := HT.out.ext hx1
  have Tc0_1 := T1.at 0 _ rfl
  have Tc1_1 := T1.at 1 _ rfl
  have Tc2_1 := T1.at 2 _ rfl
  have Tc3_1 := T1.at 3 _ rfl
  have Tc4_1 := T1.at 4 _ rfl
  have Tc5_1 := T1.at 5 _ rfl
  have Tc6_1 := T1.at 6 _ rfl
  have Tc7_1 := T1.at 7 _ rfl
  have Tc8_1 := T1.at 8 _ rfl
  have Tc9_1 := T1.at 9 _ rfl
  have Tc10_1 := T1.at 10 _ rfl
  have Tn_1 := T1.lt
  go_wp2_with fail
  refine (awake36 _).mono ?_
  rintro e wz ⟨rfl, hxz⟩
  go_wp2_with fail
  go_ret
  exact ⟨(by first | rfl | exact ret_true (by simp <;> omega)), (by repeat (first | with_reducible exact Ext.refl _ | with_reducible assumption | (with_reducible refine Ext.drew ?_) | (with_reducible refine Ext.drewN ?_ _) | (with_reducible refine Ext.alloc ?_ _) | (with_reducible refine Ext.setCell ?_ ?_ _) | (with_reducible refine Ext.trans ?_ (by with_reducible assumption)) | omega | (focus (simp <;> omega))))⟩

set_option maxRecDepth 100000 in
set_option maxHeartbeats 16000000 in
theorem walk_ok (t : Tc) (tq : Int) (b4 : I64 tq) (w : World) (hk : tck t = 0) (hw : TcAt w t) :
    Calls Try.prog 4 #[.agg #[.int .i64 t.most, .int .i64 t.per, .int .i64 t.mx, .slice t.c0.a t.c0.v.nx t.c0.k, .slice t.c0.b t.c0.v.ny t.c0.l, .slice t.c1.a t.c1.v.nx t.c1.k, .slice t.c1.b t.c1.v.ny t.c1.l, .slice t.c2.a t.c2.v.nx t.c2.k, .slice t.c2.b t.c2.v.ny t.c2.l, .slice t.c3.a t.c3.v.nx t.c3.k, .slice t.c3.b t.c3.v.ny t.c3.l], .int .i64 tq] w fun e w' => e = .returned (.bool true) ∧ Ext w w' := by
  have ok := tok_of hk
  have OK := Lib.hid ok
  have TK := Lib.hid hk
  have HW := Lib.hid hw
  have ⟨⟨mo0, mo1⟩, ⟨pe0, pe1⟩, ⟨mx0, mx1⟩⟩ := ok.rg
  clear hk hw ok
  have E0 : Ext w (w.alloc (.cells #[.int .i64 t.most, .int .i64 t.per, .int .i64 t.mx, .slice t.c0.a t.c0.v.nx t.c0.k, .slice t.c0.b t.c0.v.ny t.c0.l, .slice t.c1.a t.c1.v.nx t.c1.k, .slice t.c1.b t.c1.v.ny t.c1.l, .slice t.c2.a t.c2.v.nx t.c2.k, .slice t.c2.b t.c2.v.ny t.c2.l, .slice t.c3.a t.c3.v.nx t.c3.k, .slice t.c3.b t.c3.v.ny t.c3.l] 26)) := (Ext.refl w).alloc _
  have T0 : Blk (w.alloc (.cells #[.int .i64 t.most, .int .i64 t.per, .int .i64 t.mx, .slice t.c0.a t.c0.v.nx t.c0.k, .slice t.c0.b t.c0.v.ny t.c0.l, .slice t.c1.a t.c1.v.nx t.c1.k, .slice t.c1.b t.c1.v.ny t.c1.l, .slice t.c2.a t.c2.v.nx t.c2.k, .slice t.c2.b t.c2.v.ny t.c2.l, .slice t.c3.a t.c3.v.nx t.c3.k, .slice t.c3.b t.c3.v.ny t.c3.l] 26)) (w.heap.size) [.int .i64 t.most, .int .i64 t.per, .int .i64 t.mx, .slice t.c0.a t.c0.v.nx t.c0.k, .slice t.c0.b t.c0.v.ny t.c0.l, .slice t.c1.a t.c1.v.nx t.c1.k, .slice t.c1.b t.c1.v.ny t.c1.l, .slice t.c2.a t.c2.v.nx t.c2.k, .slice t.c2.b t.c2.v.ny t.c2.l, .slice t.c3.a t.c3.v.nx t.c3.k, .slice t.c3.b t.c3.v.ny t.c3.l] := by
    have hh := Blk.new w [.int .i64 t.most, .int .i64 t.per, .int .i64 t.mx, .slice t.c0.a t.c0.v.nx t.c0.k, .slice t.c0.b t.c0.v.ny t.c0.l, .slice t.c1.a t.c1.v.nx t.c1.k, .slice t.c1.b t.c1.v.ny t.c1.l, .slice t.c2.a t.c2.v.nx t.c2.k, .slice t.c2.b t.c2.v.ny t.c2.l, .slice t.c3.a t.c3.v.nx t.c3.k, .slice t.c3.b t.c3.v.ny t.c3.l] 26
    have e : (w).heap.size = w.heap.size := by simp
    rw [e] at hh
    exact hh
  have HT := Lib.hid T0
  have HE := Lib.hid E0
  clear E0 T0
  go_enter Try.func4, Try.ntmps4
  go_wp2_with fail
  refine (check36 t _ (HW.out.ext HE.out)).mono ?_
  rw [TK.out]
  rintro e w1 ⟨rfl, hx1⟩
  have E1 := HE.out.trans hx1
  have T1 := HT.out.ext hx1
  have Tc0_1 := T1.at 0 _ rfl
  have Tc1_1 := T1.at 1 _ rfl
  have Tc2_1 := T1.at 2 _ rfl
  have Tc3_1 := T1.at 3 _ rfl
  have Tc4_1 := T1.at 4 _ rfl
  have Tc5_1 := T1.at 5 _ rfl
  have Tc6_1 := T1.at 6 _ rfl
  have Tc7_1 := T1.at 7 _ rfl
  have Tc8_1 := T1.at 8 _ rfl
  have Tc9_1 := T1.at 9 _ rfl
  have Tc10_1 := T1.at 10 _ rfl
  have Tn_1 := T1.lt
  go_wp2_with fail
  refine (few_any t _).mono ?_
  rintro e w2 ⟨bb, rfl, hx2⟩
  have F2 : Ext w1 w2 := (by repeat (first | with_reducible exact Ext.refl _ | with_reducible assumption | (with_reducible refine Ext.drew ?_) | (with_reducible refine Ext.drewN ?_ _) | (with_reducible refine Ext.alloc ?_ _) | (with_reducible refine Ext.setCell ?_ ?_ _) | (with_reducible refine Ext.trans ?_ (by with_reducible assumption)) | omega | (focus (simp <;> omega))))
  have E2 := E1.trans F2
  have T2 := T1.ext F2
  clear Tc0_1 Tc1_1 Tc2_1 Tc3_1 Tc4_1 Tc5_1 Tc6_1 Tc7_1 Tc8_1 Tc9_1 Tc10_1
  have Tc0_2 := T2.at 0 _ rfl
  have Tc1_2 := T2.at 1 _ rfl
  have Tc2_2 := T2.at 2 _ rfl
  have Tc3_2 := T2.at 3 _ rfl
  have Tc4_2 := T2.at 4 _ rfl
  have Tc5_2 := T2.at 5 _ rfl
  have Tc6_2 := T2.at 6 _ rfl
  have Tc7_2 := T2.at 7 _ rfl
  have Tc8_2 := T2.at 8 _ rfl
  have Tc9_2 := T2.at 9 _ rfl
  have Tc10_2 := T2.at 10 _ rfl
  have Tn_2 := T2.lt
  cases bb
  · skip
    go_wp2_with fail
    refine (awake36 _).mono ?_
    rintro e wz ⟨rfl, hxz⟩
    go_wp2_with fail
    go_ret
    exact ⟨(by first | rfl | exact ret_true (by simp <;> omega)), (by repeat (first | with_reducible exact Ext.refl _ | with_reducible assumption | (with_reducible refine Ext.drew ?_) | (with_reducible refine Ext.drewN ?_ _) | (with_reducible refine Ext.alloc ?_ _) | (with_reducible refine Ext.setCell ?_ ?_ _) | (with_reducible refine Ext.trans ?_ (by with_reducible assumption)) | omega | (focus (simp <;> omega))))⟩
  · skip
    go_wp2_with fail
    refine (awake36 _).mono ?_
    rintro e w3 ⟨rfl, hx3⟩
    have F3 : Ext w2 w3 := (by repeat (first | with_reducible exact Ext.refl _ | with_reducible assumption | (with_reducible refine Ext.drew ?_) | (with_reducible refine Ext.drewN ?_ _) | (with_reducible refine Ext.alloc ?_ _) | (with_reducible refine Ext.setCell ?_ ?_ _) | (with_reducible refine Ext.trans ?_ (by with_reducible assumption)) | omega | (focus (simp <;> omega))))
    have E3 := E2.trans F3
    have T3 := T2.ext F3
    clear Tc0_2 Tc1_2 Tc2_2 Tc3_2 Tc4_2 Tc5_2 Tc6_2 Tc7_2 Tc8_2 Tc9_2 Tc10_2
    have Tc0_3 := T3.at 0 _ rfl
    have Tc1_3 := T3.at 1 _ rfl
    have Tc2_3 := T3.at 2 _ rfl
    have Tc3_3 := T3.at 3 _ rfl
    have Tc4_3 := T3.at 4 _ rfl
    have Tc5_3 := T3.at 5 _ rfl
    have Tc6_3 := T3.at 6 _ rfl
    have Tc7_3 := T3.at 7 _ rfl
    have Tc8_3 := T3.at 8 _ rfl
    have Tc9_3 := T3.at 9 _ rfl
    have Tc10_3 := T3.at 10 _ rfl
    have Tn_3 := T3.lt
    clear Tc0_3 Tc1_3 Tc2_3 Tc3_3 Tc4_3 Tc5_3 Tc6_3 Tc7_3 Tc8_3 Tc9_3 Tc10_3
    have k0 := T3.at 0 _ rfl
    have k1 := T3.at 1 _ rfl
    have k2 := T3.at 2 _ rfl
    have tl := T3.lt
    have zw := E3.size
    go_upto_region 3 with fail
    go_cut [5] (fun s5 wx => ∃ g g1 g2 g3 g4 g5 g6 g7 g8 : Nat, s5 = .pointer (some ⟨g, 0, none⟩) ∧ Ext w wx ∧ Blk wx w.heap.size [.int .i64 t.most, .int .i64 t.per, .int .i64 t.mx, .slice t.c0.a t.c0.v.nx t.c0.k, .slice t.c0.b t.c0.v.ny t.c0.l, .slice t.c1.a t.c1.v.nx t.c1.k, .slice t.c1.b t.c1.v.ny t.c1.l, .slice t.c2.a t.c2.v.nx t.c2.k, .slice t.c2.b t.c2.v.ny t.c2.l, .slice t.c3.a t.c3.v.nx t.c3.k, .slice t.c3.b t.c3.v.ny t.c3.l] ∧ Blk wx g [.int .i64 t.most, .int .i64 t.per, .int .i64 t.mx, .slice (some ⟨g1, 0, none⟩) 2 2, .slice (some ⟨g2, 0, none⟩) 2 2, .slice (some ⟨g3, 0, none⟩) 2 2, .slice (some ⟨g4, 0, none⟩) 2 2, .slice (some ⟨g5, 0, none⟩) 2 2, .slice (some ⟨g6, 0, none⟩) 2 2, .slice (some ⟨g7, 0, none⟩) 2 2, .slice (some ⟨g8, 0, none⟩) 2 2] ∧ Blk wx g1 [.int .i64 (-1), .int .i64 1] ∧ Blk wx g2 [.int .i64 0, .int .i64 0] ∧ Blk wx g3 [.int .i64 (-1), .int .i64 1] ∧ Blk wx g4 [.int .i64 0, .int .i64 0] ∧ Blk wx g5 [.int .i64 (-1), .int .i64 1] ∧ Blk wx g6 [.int .i64 0, .int .i64 0] ∧ Blk wx g7 [.int .i64 (-1), .int .i64 1] ∧ Blk wx g8 [.int .i64 0, .int .i64 0])
    case first =>
      go_region_held3 (fun w' => w'.cell? ⟨w.heap.size, 0, none⟩ = some (.int .i64 t.most) ∧ w'.cell? ⟨w.heap.size, 1, none⟩ = some (.int .i64 t.per) ∧ w'.cell? ⟨w.heap.size, 2, none⟩ = some (.int .i64 t.mx)) ((refine ⟨?_, ?_, ?_⟩ <;> repeat (first | with_reducible assumption | (with_reducible refine cell_dr ?_) | (with_reducible refine cell_al _ ?_) | (with_reducible refine cst11 (by omega) ?_ _ _ _ _ _ _ _ _ _ _ _))))
        (first | (have q := A3; clear q; go_at_call 13; refine (flat_blk _).mono ?_; (try clear k0 k1 k2); (try clear nf n0 n1 n2 n3 n4 n5 n6 n7 n8 n9 n10); rintro e v4 ⟨g7, g8, rfl, A4, B4, lo4, hi4, hx4⟩; (try simp at lo4 hi4); (first | (have Y4 : Ext v3 v4 := by with_reducible assumption) | (have hz : Ext (v3.alloc (.cells #[.int .i64 0, .int .i64 0, .int .i64 0, .slice none 0 0, .slice none 0 0, .slice none 0 0, .slice none 0 0, .slice none 0 0, .slice none 0 0, .slice none 0 0, .slice none 0 0] 26)) v4 := (by with_reducible assumption); have Y4 := ((Ext.refl v3).alloc _).trans hz; have M4 := (Blk.new v3 [.int .i64 0, .int .i64 0, .int .i64 0, .slice none 0 0, .slice none 0 0, .slice none 0 0, .slice none 0 0, .slice none 0 0, .slice none 0 0, .slice none 0 0, .slice none 0 0] 26).ext hz) | (have hz : Ext v3.drew v4 := (by with_reducible assumption); have Y4 := (Ext.refl v3).drew.trans hz) | (have hz : Ext (v3.alloc (.cells #[.int .i64 0, .int .i64 0, .int .i64 0, .slice none 0 0, .slice none 0 0, .slice none 0 0, .slice none 0 0, .slice none 0 0, .slice none 0 0, .slice none 0 0, .slice none 0 0] 26)).drew v4 := (by with_reducible assumption); have Y4 := ((Ext.refl v3).alloc _).drew.trans hz; have M4 := (Blk.new v3 [.int .i64 0, .int .i64 0, .int .i64 0, .slice none 0 0, .slice none 0 0, .slice none 0 0, .slice none 0 0, .slice none 0 0, .slice none 0 0, .slice none 0 0, .slice none 0 0] 26).drew.ext hz)); have F4 := F3.trans Y4; have A1 := A1.ext Y4; have B1 := B1.ext Y4; have A2 := A2.ext Y4; have B2 := B2.ext Y4; have A3 := A3.ext Y4; have B3 := B3.ext Y4; (first | (have N := M4; have nl := N.lt; have nf := N.fr; have n0 := N.at 0 _ rfl; have n1 := N.at 1 _ rfl; have n2 := N.at 2 _ rfl; have n3 := N.at 3 _ rfl; have n4 := N.at 4 _ rfl; have n5 := N.at 5 _ rfl; have n6 := N.at 6 _ rfl; have n7 := N.at 7 _ rfl; have n8 := N.at 8 _ rfl; have n9 := N.at 9 _ rfl; have n10 := N.at 10 _ rfl) | (have N := N.ext Y4; have nl := N.lt; have nf := N.fr; have n0 := N.at 0 _ rfl; have n1 := N.at 1 _ rfl; have n2 := N.at 2 _ rfl; have n3 := N.at 3 _ rfl; have n4 := N.at 4 _ rfl; have n5 := N.at 5 _ rfl; have n6 := N.at 6 _ rfl; have n7 := N.at 7 _ rfl; have n8 := N.at 8 _ rfl; have n9 := N.at 9 _ rfl; have n10 := N.at 10 _ rfl) | skip); have sz4 := Y4.size; have al4 := A4.lt; have bl4 := B4.lt; have k0 := (T3.ext F4).at 0 _ rfl; have k1 := (T3.ext F4).at 1 _ rfl; have k2 := (T3.ext F4).at 2 _ rfl) | (have q := A2; clear q; go_at_call 13; refine (flat_blk _).mono ?_; (try clear k0 k1 k2); (try clear nf n0 n1 n2 n3 n4 n5 n6 n7 n8 n9 n10); rintro e v3 ⟨g5, g6, rfl, A3, B3, lo3, hi3, hx3⟩; (try simp at lo3 hi3); (first | (have Y3 : Ext v2 v3 := by with_reducible assumption) | (have hz : Ext (v2.alloc (.cells #[.int .i64 0, .int .i64 0, .int .i64 0, .slice none 0 0, .slice none 0 0, .slice none 0 0, .slice none 0 0, .slice none 0 0, .slice none 0 0, .slice none 0 0, .slice none 0 0] 26)) v3 := (by with_reducible assumption); have Y3 := ((Ext.refl v2).alloc _).trans hz; have M3 := (Blk.new v2 [.int .i64 0, .int .i64 0, .int .i64 0, .slice none 0 0, .slice none 0 0, .slice none 0 0, .slice none 0 0, .slice none 0 0, .slice none 0 0, .slice none 0 0, .slice none 0 0] 26).ext hz) | (have hz : Ext v2.drew v3 := (by with_reducible assumption); have Y3 := (Ext.refl v2).drew.trans hz) | (have hz : Ext (v2.alloc (.cells #[.int .i64 0, .int .i64 0, .int .i64 0, .slice none 0 0, .slice none 0 0, .slice none 0 0, .slice none 0 0, .slice none 0 0, .slice none 0 0, .slice none 0 0, .slice none 0 0] 26)).drew v3 := (by with_reducible assumption); have Y3 := ((Ext.refl v2).alloc _).drew.trans hz; have M3 := (Blk.new v2 [.int .i64 0, .int .i64 0, .int .i64 0, .slice none 0 0, .slice none 0 0, .slice none 0 0, .slice none 0 0, .slice none 0 0, .slice none 0 0, .slice none 0 0, .slice none 0 0] 26).drew.ext hz)); have F3 := F2.trans Y3; have A1 := A1.ext Y3; have B1 := B1.ext Y3; have A2 := A2.ext Y3; have B2 := B2.ext Y3; (first | (have N := M3; have nl := N.lt; have nf := N.fr; have n0 := N.at 0 _ rfl; have n1 := N.at 1 _ rfl; have n2 := N.at 2 _ rfl; have n3 := N.at 3 _ rfl; have n4 := N.at 4 _ rfl; have n5 := N.at 5 _ rfl; have n6 := N.at 6 _ rfl; have n7 := N.at 7 _ rfl; have n8 := N.at 8 _ rfl; have n9 := N.at 9 _ rfl; have n10 := N.at 10 _ rfl) | (have N := N.ext Y3; have nl := N.lt; have nf := N.fr; have n0 := N.at 0 _ rfl; have n1 := N.at 1 _ rfl; have n2 := N.at 2 _ rfl; have n3 := N.at 3 _ rfl; have n4 := N.at 4 _ rfl; have n5 := N.at 5 _ rfl; have n6 := N.at 6 _ rfl; have n7 := N.at 7 _ rfl; have n8 := N.at 8 _ rfl; have n9 := N.at 9 _ rfl; have n10 := N.at 10 _ rfl) | skip); have sz3 := Y3.size; have al3 := A3.lt; have bl3 := B3.lt; have k0 := (T3.ext F3).at 0 _ rfl; have k1 := (T3.ext F3).at 1 _ rfl; have k2 := (T3.ext F3).at 2 _ rfl) | (have q := A1; clear q; go_at_call 13; refine (flat_blk _).mono ?_; (try clear k0 k1 k2); (try clear nf n0 n1 n2 n3 n4 n5 n6 n7 n8 n9 n10); rintro e v2 ⟨g3, g4, rfl, A2, B2, lo2, hi2, hx2⟩; (try simp at lo2 hi2); (first | (have Y2 : Ext v1 v2 := by with_reducible assumption) | (have hz : Ext (v1.alloc (.cells #[.int .i64 0, .int .i64 0, .int .i64 0, .slice none 0 0, .slice none 0 0, .slice none 0 0, .slice none 0 0, .slice none 0 0, .slice none 0 0, .slice none 0 0, .slice none 0 0] 26)) v2 := (by with_reducible assumption); have Y2 := ((Ext.refl v1).alloc _).trans hz; have M2 := (Blk.new v1 [.int .i64 0, .int .i64 0, .int .i64 0, .slice none 0 0, .slice none 0 0, .slice none 0 0, .slice none 0 0, .slice none 0 0, .slice none 0 0, .slice none 0 0, .slice none 0 0] 26).ext hz) | (have hz : Ext v1.drew v2 := (by with_reducible assumption); have Y2 := (Ext.refl v1).drew.trans hz) | (have hz : Ext (v1.alloc (.cells #[.int .i64 0, .int .i64 0, .int .i64 0, .slice none 0 0, .slice none 0 0, .slice none 0 0, .slice none 0 0, .slice none 0 0, .slice none 0 0, .slice none 0 0, .slice none 0 0] 26)).drew v2 := (by with_reducible assumption); have Y2 := ((Ext.refl v1).alloc _).drew.trans hz; have M2 := (Blk.new v1 [.int .i64 0, .int .i64 0, .int .i64 0, .slice none 0 0, .slice none 0 0, .slice none 0 0, .slice none 0 0, .slice none 0 0, .slice none 0 0, .slice none 0 0, .slice none 0 0] 26).drew.ext hz)); have F2 := F1.trans Y2; have A1 := A1.ext Y2; have B1 := B1.ext Y2; (first | (have N := M2; have nl := N.lt; have nf := N.fr; have n0 := N.at 0 _ rfl; have n1 := N.at 1 _ rfl; have n2 := N.at 2 _ rfl; have n3 := N.at 3 _ rfl; have n4 := N.at 4 _ rfl; have n5 := N.at 5 _ rfl; have n6 := N.at 6 _ rfl; have n7 := N.at 7 _ rfl; have n8 := N.at 8 _ rfl; have n9 := N.at 9 _ rfl; have n10 := N.at 10 _ rfl) | (have N := N.ext Y2; have nl := N.lt; have nf := N.fr; have n0 := N.at 0 _ rfl; have n1 := N.at 1 _ rfl; have n2 := N.at 2 _ rfl; have n3 := N.at 3 _ rfl; have n4 := N.at 4 _ rfl; have n5 := N.at 5 _ rfl; have n6 := N.at 6 _ rfl; have n7 := N.at 7 _ rfl; have n8 := N.at 8 _ rfl; have n9 := N.at 9 _ rfl; have n10 := N.at 10 _ rfl) | skip); have sz2 := Y2.size; have al2 := A2.lt; have bl2 := B2.lt; have k0 := (T3.ext F2).at 0 _ rfl; have k1 := (T3.ext F2).at 1 _ rfl; have k2 := (T3.ext F2).at 2 _ rfl) | (go_at_call 13; refine (flat_blk _).mono ?_; (try clear k0 k1 k2); (try clear nf n0 n1 n2 n3 n4 n5 n6 n7 n8 n9 n10); rintro e v1 ⟨g1, g2, rfl, A1, B1, lo1, hi1, hx1⟩; (try simp at lo1 hi1); (first | (have Y1 : Ext w3 v1 := by with_reducible assumption) | (have hz : Ext (w3.alloc (.cells #[.int .i64 0, .int .i64 0, .int .i64 0, .slice none 0 0, .slice none 0 0, .slice none 0 0, .slice none 0 0, .slice none 0 0, .slice none 0 0, .slice none 0 0, .slice none 0 0] 26)) v1 := (by with_reducible assumption); have Y1 := ((Ext.refl w3).alloc _).trans hz; have M1 := (Blk.new w3 [.int .i64 0, .int .i64 0, .int .i64 0, .slice none 0 0, .slice none 0 0, .slice none 0 0, .slice none 0 0, .slice none 0 0, .slice none 0 0, .slice none 0 0, .slice none 0 0] 26).ext hz) | (have hz : Ext w3.drew v1 := (by with_reducible assumption); have Y1 := (Ext.refl w3).drew.trans hz) | (have hz : Ext (w3.alloc (.cells #[.int .i64 0, .int .i64 0, .int .i64 0, .slice none 0 0, .slice none 0 0, .slice none 0 0, .slice none 0 0, .slice none 0 0, .slice none 0 0, .slice none 0 0, .slice none 0 0] 26)).drew v1 := (by with_reducible assumption); have Y1 := ((Ext.refl w3).alloc _).drew.trans hz; have M1 := (Blk.new w3 [.int .i64 0, .int .i64 0, .int .i64 0, .slice none 0 0, .slice none 0 0, .slice none 0 0, .slice none 0 0, .slice none 0 0, .slice none 0 0, .slice none 0 0, .slice none 0 0] 26).drew.ext hz)); have F1 := Y1; (first | (have N := M1; have nl := N.lt; have nf := N.fr; have n0 := N.at 0 _ rfl; have n1 := N.at 1 _ rfl; have n2 := N.at 2 _ rfl; have n3 := N.at 3 _ rfl; have n4 := N.at 4 _ rfl; have n5 := N.at 5 _ rfl; have n6 := N.at 6 _ rfl; have n7 := N.at 7 _ rfl; have n8 := N.at 8 _ rfl; have n9 := N.at 9 _ rfl; have n10 := N.at 10 _ rfl) | (have N := N.ext Y1; have nl := N.lt; have nf := N.fr; have n0 := N.at 0 _ rfl; have n1 := N.at 1 _ rfl; have n2 := N.at 2 _ rfl; have n3 := N.at 3 _ rfl; have n4 := N.at 4 _ rfl; have n5 := N.at 5 _ rfl; have n6 := N.at 6 _ rfl; have n7 := N.at 7 _ rfl; have n8 := N.at 8 _ rfl; have n9 := N.at 9 _ rfl; have n10 := N.at 10 _ rfl) | skip); have sz1 := Y1.size; have al1 := A1.lt; have bl1 := B1.lt; have k0 := (T3.ext F1).at 0 _ rfl; have k1 := (T3.ext F1).at 1 _ rfl; have k2 := (T3.ext F1).at 2 _ rfl))
      all_goals
        have EE := E3.trans F4
        have TT9 := T3.ext F4
        have tl9 := TT9.lt
        go_wp2_with fail
        go_meet
        first
        | with_reducible exact ⟨_, g1, g2, g3, g4, g5, g6, g7, g8, rfl, ext11 EE (by omega) _ _ _ _ _ _ _ _ _ _ _ , far11 TT9 (by omega) _ _ _ _ _ _ _ _ _ _ _ , set11 N _ _ _ _ _ _ _ _ _ _ _ , far11 A1 (by omega) _ _ _ _ _ _ _ _ _ _ _ , far11 B1 (by omega) _ _ _ _ _ _ _ _ _ _ _ , far11 A2 (by omega) _ _ _ _ _ _ _ _ _ _ _ , far11 B2 (by omega) _ _ _ _ _ _ _ _ _ _ _ , far11 A3 (by omega) _ _ _ _ _ _ _ _ _ _ _ , far11 B3 (by omega) _ _ _ _ _ _ _ _ _ _ _ , far11 A4 (by omega) _ _ _ _ _ _ _ _ _ _ _ , far11 B4 (by omega) _ _ _ _ _ _ _ _ _ _ _ ⟩
        | with_reducible exact ⟨_, g1, g2, g3, g4, g5, g6, g7, g8, rfl, EE.alloc _, TT9.alloc _, Blk.new v4 [.int .i64 t.most, .int .i64 t.per, .int .i64 t.mx, .slice (some ⟨g1, 0, none⟩) 2 2, .slice (some ⟨g2, 0, none⟩) 2 2, .slice (some ⟨g3, 0, none⟩) 2 2, .slice (some ⟨g4, 0, none⟩) 2 2, .slice (some ⟨g5, 0, none⟩) 2 2, .slice (some ⟨g6, 0, none⟩) 2 2, .slice (some ⟨g7, 0, none⟩) 2 2, .slice (some ⟨g8, 0, none⟩) 2 2] 26, A1.alloc _, B1.alloc _, A2.alloc _, B2.alloc _, A3.alloc _, B3.alloc _, A4.alloc _, B4.alloc _⟩
    case rest =>
      obtain ⟨g, g1, g2, g3, g4, g5, g6, g7, g8, rfl, E5, T5, G5, A1, B1, A2, B2, A3, B3, A4, B4⟩ := hcut
      have PA : TcAt wc (pex t g1 g2 g3 g4 g5 g6 g7 g8) := ⟨cu_of A1 B1, cu_of A2 B2, cu_of A3 B3, cu_of A4 B4⟩
      have PK := pex_ok t OK.out g1 g2 g3 g4 g5 g6 g7 g8
      clear k0 k1 k2 A1 B1 A2 B2 A3 B3 A4 B4
      have k0 := T5.at 0 _ rfl
      have k1 := T5.at 1 _ rfl
      have k2 := T5.at 2 _ rfl
      have pn : (t.per == 0) = false := by simp; omega
      have nm : IntKind.i64.wrap (-t.most) = -t.most := IntWalk.i64_in _ (by omega)
      have nx : IntKind.i64.wrap (-t.mx) = -t.mx := IntWalk.i64_in _ (by omega)
      rcases Int.lt_or_le tq (-t.most) with c1 | c1
      · have d1 : decide (tq < -t.most) = true := decide_eq_true c1
        go_wp2_with fail
        go_quiet (fail)
        go_wp2_with fail
        go_ret
        exact ⟨(by first | rfl | exact ret_true (by simp <;> omega)), (by repeat (first | with_reducible exact Ext.refl _ | with_reducible assumption | (with_reducible refine Ext.drew ?_) | (with_reducible refine Ext.drewN ?_ _) | (with_reducible refine Ext.alloc ?_ _) | (with_reducible refine Ext.setCell ?_ ?_ _) | (with_reducible refine Ext.trans ?_ (by with_reducible assumption)) | omega | (focus (simp <;> omega))))⟩
      have d1 : decide (tq < -t.most) = false := decide_eq_false (by omega)
      rcases Int.lt_or_le t.most tq with c2 | c2
      · have d2 : decide (t.most < tq) = true := decide_eq_true c2
        go_wp2_with fail
        go_quiet (fail)
        go_wp2_with fail
        go_ret
        exact ⟨(by first | rfl | exact ret_true (by simp <;> omega)), (by repeat (first | with_reducible exact Ext.refl _ | with_reducible assumption | (with_reducible refine Ext.drew ?_) | (with_reducible refine Ext.drewN ?_ _) | (with_reducible refine Ext.alloc ?_ _) | (with_reducible refine Ext.setCell ?_ ?_ _) | (with_reducible refine Ext.trans ?_ (by with_reducible assumption)) | omega | (focus (simp <;> omega))))⟩
      have d2 : decide (t.most < tq) = false := decide_eq_false (by omega)
      have td := Pl.td (tq * 1024) t.per (by omega)
      have pr := pex_refs t OK.out g1 g2 g3 g4 g5 g6 g7 g8 tq 0 0 0 c1 c2
      have pt := pex_tq t OK.out g1 g2 g3 g4 g5 g6 g7 g8 tq c1 c2
      have zb := tq_bd tq t.per (by omega) (by omega)
      obtain ⟨z, hz⟩ : ∃ z, z = (tq * 1024).tdiv t.per := ⟨_, rfl⟩
      rw [← hz] at pr pt zb td
      have ww : IntKind.i64.wrap (tq * 1024) = tq * 1024 := IntWalk.i64_in _ (by omega)
      have wz : IntKind.i64.wrap ((tq * 1024).tdiv t.per) = z := by rw [← hz]; exact IntWalk.i64_in _ (by omega)
      rcases Int.lt_or_le t.mx z with c3 | c3
      · have d3 : decide (t.mx < z) = true := decide_eq_true c3
        clear hz
        go_wp2_with fail
        go_quiet (fail)
        go_wp2_with fail
        go_ret
        exact ⟨(by first | rfl | exact ret_true (by simp <;> omega)), (by repeat (first | with_reducible exact Ext.refl _ | with_reducible assumption | (with_reducible refine Ext.drew ?_) | (with_reducible refine Ext.drewN ?_ _) | (with_reducible refine Ext.alloc ?_ _) | (with_reducible refine Ext.setCell ?_ ?_ _) | (with_reducible refine Ext.trans ?_ (by with_reducible assumption)) | omega | (focus (simp <;> omega))))⟩
      have d3 : decide (t.mx < z) = false := decide_eq_false (by omega)
      rcases Int.lt_or_le z (-t.mx) with c4 | c4
      · have d4 : decide (z < -t.mx) = true := decide_eq_true c4
        clear hz
        go_wp2_with fail
        go_quiet (fail)
        go_wp2_with fail
        go_ret
        exact ⟨(by first | rfl | exact ret_true (by simp <;> omega)), (by repeat (first | with_reducible exact Ext.refl _ | with_reducible assumption | (with_reducible refine Ext.drew ?_) | (with_reducible refine Ext.drewN ?_ _) | (with_reducible refine Ext.alloc ?_ _) | (with_reducible refine Ext.setCell ?_ ?_ _) | (with_reducible refine Ext.trans ?_ (by with_reducible assumption)) | omega | (focus (simp <;> omega))))⟩
      have d4 : decide (z < -t.mx) = false := decide_eq_false (by omega)
      have pr := pr c3 c4
      have pt := pt c3 c4
      obtain ⟨n, hn⟩ : ∃ n, n = tqq (pex t g1 g2 g3 g4 g5 g6 g7 g8) z := ⟨_, rfl⟩
      rw [← hn] at pt
      have ⟨n1, n2, n3⟩ := pt
      have R1 : Hid (∀ V, Ext wc V → Calls Try.prog 12 #[.agg #[.int .i64 t.most, .int .i64 t.per, .int .i64 t.mx, .slice (some ⟨g1, 0, none⟩) 2 2, .slice (some ⟨g2, 0, none⟩) 2 2, .slice (some ⟨g3, 0, none⟩) 2 2, .slice (some ⟨g4, 0, none⟩) 2 2, .slice (some ⟨g5, 0, none⟩) 2 2, .slice (some ⟨g6, 0, none⟩) 2 2, .slice (some ⟨g7, 0, none⟩) 2 2, .slice (some ⟨g8, 0, none⟩) 2 2], .int .i64 tq, .agg #[.int .i64 0, .int .i64 0, .int .i64 0]] V fun e w' => e = .returned (.tuple #[.agg #[.int .i64 0, .int .i64 z], .nilIface]) ∧ Ext V w') :=
        Lib.hid (fun V hV => by
          have h := tRefs_ok (pex t g1 g2 g3 g4 g5 g6 g7 g8) tq 0 0 0 V PK (tck_ok PK) (PA.ext hV)
          rw [pr.1, pr.2] at h
          exact h)
      have R2 : Hid (∀ V, Ext wc V → Calls Try.prog 14 #[.agg #[.int .i64 t.most, .int .i64 t.per, .int .i64 t.mx, .slice (some ⟨g1, 0, none⟩) 2 2, .slice (some ⟨g2, 0, none⟩) 2 2, .slice (some ⟨g3, 0, none⟩) 2 2, .slice (some ⟨g4, 0, none⟩) 2 2, .slice (some ⟨g5, 0, none⟩) 2 2, .slice (some ⟨g6, 0, none⟩) 2 2, .slice (some ⟨g7, 0, none⟩) 2 2, .slice (some ⟨g8, 0, none⟩) 2 2], .int .i64 z] V fun e w' => e = .returned (.tuple #[.int .i64 n, .nilIface]) ∧ Ext V w') :=
        Lib.hid (fun V hV => by
          have h := tTorque_ok (pex t g1 g2 g3 g4 g5 g6 g7 g8) z V PK (tck_ok PK) (PA.ext hV)
          rw [← hn] at h
          exact h)
      have HB := Lib.hid (fun V => abs_any (n - tq) V ⟨by omega, by omega⟩)
      have t3 := Pl.td_pos (a := t.per) (d := 1024) (by omega) (by omega)
      have wn : IntKind.i64.wrap (n - tq) = n - tq := IntWalk.i64_in _ (by omega)
      have wq : IntKind.i64.wrap (t.per.tdiv 1024) = t.per.tdiv 1024 := IntWalk.i64_in _ (by omega)
      have wr : IntKind.i64.wrap (t.per.tdiv 1024 + 1) = t.per.tdiv 1024 + 1 := IntWalk.i64_in _ (by omega)
      have d5 : decide (max (n - tq) (-(n - tq)) ≤ t.per.tdiv 1024 + 1) = true := decide_eq_true n3
      clear hz hn pr pt PA PK td
      go_wp2_with fail
      go_quiet (fail)
      have kg0 := G5.at 0 _ rfl
      have kg1 := G5.at 1 _ rfl
      have kg2 := G5.at 2 _ rfl
      have kg3 := G5.at 3 _ rfl
      have kg4 := G5.at 4 _ rfl
      have kg5 := G5.at 5 _ rfl
      have kg6 := G5.at 6 _ rfl
      have kg7 := G5.at 7 _ rfl
      have kg8 := G5.at 8 _ rfl
      have kg9 := G5.at 9 _ rfl
      have kg10 := G5.at 10 _ rfl
      go_wp2_with fail
      refine (R1.out _ ((Ext.refl _).drewN _)).mono ?_
      rintro e w6 ⟨rfl, hx6⟩
      have Y6 : Ext wc w6 := ((Ext.refl _).drewN _).trans hx6
      have T6 := T5.ext Y6
      have G6 := G5.ext Y6
      clear k0 k1 k2 kg0 kg1 kg2 kg3 kg4 kg5 kg6 kg7 kg8 kg9 kg10
      have kg0 := G6.at 0 _ rfl
      have kg1 := G6.at 1 _ rfl
      have kg2 := G6.at 2 _ rfl
      have kg3 := G6.at 3 _ rfl
      have kg4 := G6.at 4 _ rfl
      have kg5 := G6.at 5 _ rfl
      have kg6 := G6.at 6 _ rfl
      have kg7 := G6.at 7 _ rfl
      have kg8 := G6.at 8 _ rfl
      have kg9 := G6.at 9 _ rfl
      have kg10 := G6.at 10 _ rfl
      have gl := G6.lt
      go_wp2_with fail
      have D6 := Blk.new w6 [.int .i64 0, .int .i64 z] 33
      refine (R2.out _ (Y6.alloc _)).mono ?_
      rintro e w7 ⟨rfl, hx7⟩
      have Y7 : Ext wc w7 := (Y6.alloc _).trans hx7
      have D7 := D6.ext hx7
      have T7 := T5.ext Y7
      clear kg0 kg1 kg2 kg3 kg4 kg5 kg6 kg7 kg8 kg9 kg10
      have k1 := T7.at 1 _ rfl
      have e0 := D7.at 0 _ rfl
      have e1 := D7.at 1 _ rfl
      go_wp2_with fail
      go_quiet ((go_at_call 15; exact quiet_left (HB.out _)))
      go_wp2_with fail
      go_ret
      exact ⟨(by first | rfl | exact ret_true (by simp <;> omega)), (by repeat (first | with_reducible exact Ext.refl _ | with_reducible assumption | (with_reducible refine Ext.drew ?_) | (with_reducible refine Ext.drewN ?_ _) | (with_reducible refine Ext.alloc ?_ _) | (with_reducible refine Ext.setCell ?_ ?_ _) | (with_reducible refine Ext.trans ?_ (by with_reducible assumption)) | omega | (focus (simp <;> omega))))⟩

theorem walk (t : Tc) (tq : Int) (b4 : I64 tq) (w : World) (hw : TcAt w t) :
    Calls Try.prog 4 #[.agg #[.int .i64 t.most, .int .i64 t.per, .int .i64 t.mx, .slice t.c0.a t.c0.v.nx t.c0.k, .slice t.c0.b t.c0.v.ny t.c0.l, .slice t.c1.a t.c1.v.nx t.c1.k, .slice t.c1.b t.c1.v.ny t.c1.l, .slice t.c2.a t.c2.v.nx t.c2.k, .slice t.c2.b t.c2.v.ny t.c2.l, .slice t.c3.a t.c3.v.nx t.c3.k, .slice t.c3.b t.c3.v.ny t.c3.l], .int .i64 tq] w fun e w' => e = .returned (.bool true) ∧ Ext w w' := by
  by_cases hk : tck t = 0
  · exact walk_ok t tq b4 w hk hw
  · exact walk_bad t tq b4 w hk hw

theorem own : ownKnob Try.prog.godebug = none := by kernel_rfl
theorem laidOut : laidOutB Try.prog = true := by kernel_rfl

/-- The row's step: the walk's end is what the row asks. -/
theorem lifted (os : Os) (started : os.Started) (H : Type) (enc : TypeId × Value → H) :
    ReturnsInHanded {} Try.checked os 4 .any (Rows.torquePlainSpec.pre6 enc Try.prog Try.f4 Rows.torquePlainRow.domain false) (Rows.torquePlainSpec.post enc Try.prog Try.f4 false true false false) := by
  refine returnsInHanded_of_change (C := Try.checked) own started (by kernel_rfl) Try.func4
    (ChangeSpec.witness6 (enc := enc) (C := Try.checked) false ⟨#[], #[.agg #[.int .i64 0, .int .i64 0, .int .i64 0, .slice none 0 0, .slice none 0 0, .slice none 0 0, .slice none 0 0, .slice none 0 0, .slice none 0 0, .slice none 0 0, .slice none 0 0], .int .i64 0], []⟩ 8 (by kernel_rfl) (by kernel_rfl) (by kernel_rfl) (by kernel_rfl)) ?_
  intro W base args ds gs before hval0 hW hcnd _
  have hval : ∀ (j : Nat) t v, Try.f4.params[j]? = some t → args[j]? = some v → Value.okWide Try.prog W .any base t v := hval0
  have hW' := hW
  obtain ⟨p, q, hA0, hV, rfl, hfz, hnd⟩ := hW
  have hA : DataW.TrodAll enc Try.prog W 0 (fun _ => true) true Try.f4.params.toList args.toList ds p := hA0
  rw [Try.params4] at hA hval
  obtain ⟨v0, vs0, d0, ds0, p0, q0, hargs, rfl, rfl, h0, r0⟩ := trodAll_cons hA
  obtain ⟨v1, vs1, d1, ds1, p1, q1, rfl, rfl, rfl, h1, r1⟩ := trodAll_cons r0
  obtain ⟨rfl, rfl, rfl⟩ := trodAll_nil r1
  obtain rfl : args = #[v0, v1] := by cases args; simp_all
  obtain ⟨rfl, rfl⟩ := trodVars_none hV
  have lt0 : ∀ x ∈ p0, x.block < W.heap.size := by obtain ⟨m, hm⟩ := h0; exact DataW.trod_lt m _ _ _ hm
  obtain ⟨u0, rfl, hu0⟩ := open_tc (hval 0 26 v0 rfl rfl) h0
  have lt1 : ∀ x ∈ p1, x.block < W.heap.size := by obtain ⟨m, hm⟩ := h1; exact DataW.trod_lt m _ _ _ hm
  obtain ⟨a1, rfl, b1⟩ := open_i64 Try.underlying3 (hval 1 3 v1 rfl rfl)
  clear hA0 hval0
  refine (walk u0 a1 b1 W hu0).mono fun e W' ⟨he, bel0⟩ => ?_
  subst he
  have bel : Below W.heap.size W W' := bel0
  exact ⟨_, rfl, _, _, _, [], _, [], hW', trodAll_mk1 (shut_bool Try.underlying4 _), (trodAll_cons_mk (Below.trod laidOut (by kernel_rfl) (of_decide_eq_true (by kernel_rfl)) h0 bel lt0) (trodAll_cons_mk (Below.trod laidOut (by kernel_rfl) (of_decide_eq_true (by kernel_rfl)) h1 bel lt1) trodAll_mk0)), rfl, bel.frame _, fun h => by cases h⟩

theorem over : Rows.torquePlainRow.holds Try.pinned (OpenSpec.ofChange Rows.torquePlainSpec) :=
  OpenClaim.holds_of_wide 4 Try.f4 rfl rfl rfl rfl rfl rfl rfl ⟨rfl, rfl, rfl, rfl, rfl⟩ rfl rfl rfl rfl rfl (by kernel_rfl) Try.func4 (by kernel_rfl)
    (of_decide_eq_true (by kernel_rfl)) (by unfold Func.isWrapper; first | (rw [if_pos (by decide +kernel)]; kernel_rfl) | (rw [if_neg (by decide +kernel)]; exact ⟨rfl, rfl⟩))
    (fun os started H enc _ => lifted os started H enc)

/-- The statement. -/
theorem proved : Rows.TorquePlainSaid := over
#print axioms proved
end Go.Proofs.Ytphfgljfjfpomaa.torquePlain
