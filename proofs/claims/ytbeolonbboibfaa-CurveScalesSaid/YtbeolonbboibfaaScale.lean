/- The contracts of curve.Scale, each way walked once.
   Conditions: the bounds that each names. -/
import Derived.Test.YtbeolonbboibfaaInts
import Derived.Test.YtbeolonbboibfaaCurveCheck
namespace Go.Proofs.Ytbeolonbboibfaa
open Go.ChangeShapes Go.WideShapes Go.ChangeAt Go.RowKit

/-- A scaled value. -/
def zsc (c : Pl.Cv) (m : Int) (j : Nat) : Int := (c.y j * m).tdiv 65536
def ZIn (z : Int) : Prop := -1073741824 ≤ z ∧ z ≤ 1073741824
theorem zsc_bd {c : Pl.Cv} (g : Pl.Good c) {m : Int} (m0 : 0 ≤ m) (m1 : m ≤ 131072) {j : Nat} (hj : j < c.nx) : (-140737488355328 ≤ c.y j * m ∧ c.y j * m ≤ 140737488355328) ∧ (-2147483648 ≤ zsc c m j ∧ zsc c m j ≤ 2147483648) := by
  have ⟨y0, y1⟩ := g.iny j hj
  have a := Int.mul_le_mul_of_nonneg_right y0 m0
  have b := Int.mul_le_mul_of_nonneg_right y1 m0
  have t := Pl.td (c.y j * m) 65536 (by omega)
  unfold zsc
  omega
theorem OwnI.ne {w : World} {B n k m : Nat} {a : Option Addr} {f : Nat → Int} (h : OwnI w B a n k f) (hm : m < B) : some m ≠ ab a := fun e => by have := (h.lo m e.symm).1; omega
theorem scale_ret {W : World} {n : Nat} {u0 u1 e : Value} {tmps : Array Value} (Z : Blk W n [u0, u1]) (h : tmps[4]? = some (.pointer (some ⟨n, 0, none⟩))) (h9 : tmps[5]? = some e) :
    (results Try.f30 tmps).run Try.prog W = .ok (.tuple #[.agg #[u0, u1], e]) W := by
  have z0 := Z.at 0 _ rfl
  have z1 := Z.at 1 _ rfl
  simp [results, Try.results30, go_sem, z0, z1, h, h9]
theorem cat_one {n : Nat} {f : Nat → Int} (j : Nat) (hj : j < n + 1) : cat n f (fun _ => f n) j = f j := by
  unfold cat
  by_cases h : j < n
  · rw [if_pos h]
  · rw [if_neg h]
    have e : j = n := by omega
    rw [e]

set_option maxRecDepth 100000 in
set_option maxHeartbeats 1000000 in
theorem scale_rng (a b : Option Addr) (k l : Nat) (c : Pl.Cv) (m : Int) (w : World) (h : Pl.chk c = 0) (hm : m < 0 ∨ 131072 < m) (hx : Row w a c.nx c.x) (hy : Row w b c.nx c.y) :
    Calls Try.prog 30 #[.agg #[.slice a c.nx k, .slice b c.nx l], .int .i64 m] w fun e w' => e = .returned (.tuple #[.agg #[.slice none 0 0, .slice none 0 0], .iface 51 (.int .i64 3)]) ∧ Ext w w' := by
  have g := Pl.good_of c h
  have E0 : Ext w ((w.alloc (.cells #[.slice a c.nx k, .slice b c.nx l] 24)).alloc (.cells #[.slice none 0 0, .slice none 0 0] 24)) := ((Ext.refl w).alloc _).alloc _
  have hc := ccheck_eq a b k l c _ g.same (hx.ext E0) (hy.ext E0) (by have := g.few; unfold maxLen; omega)
  rw [h, errv_0] at hc
  have HC := Lib.hid hc
  clear hc
  have g2 := g.two
  have g3 := g.few
  have A0 := (Blk.new w [.slice a c.nx k, .slice b c.nx l] 24).alloc (.cells #[.slice none 0 0, .slice none 0 0] 24)
  have Z0 := Blk.new1 w (.cells #[.slice a c.nx k, .slice b c.nx l] 24) [.slice none 0 0, .slice none 0 0] 24
  have HA := Lib.hid A0
  have HZ0 := Lib.hid Z0
  have HE := Lib.hid E0
  clear A0 Z0 E0 hx hy g h
  go_enter Try.func30, Try.ntmps30
  go_wp2_with fail
  refine HC.out.mono ?_
  rintro e w1 ⟨rfl, hx1⟩
  have Z1 := HZ0.out.ext hx1
  have z0 := Z1.at 0 _ rfl
  have z1 := Z1.at 1 _ rfl
  have zl := Z1.lt
  have zf := Z1.fr
  have E1 := HE.out.trans hx1
  rcases hm with hm | hm
  · go_wp2_with fail
    refine bodyPost_ret (scale_ret (n := w.heap.size + 1) ((Z1.set 0 (.slice none 0 0) (by simp)).set 1 (.slice none 0 0) (by simp)) rfl rfl) rfl ⟨rfl, ?_⟩
    exact (by repeat (first | with_reducible exact Ext.refl _ | with_reducible assumption | (with_reducible refine Ext.drew ?_) | (with_reducible refine Ext.drewN ?_ _) | (with_reducible refine Ext.alloc ?_ _) | (with_reducible refine Ext.setCell ?_ ?_ _) | (with_reducible refine Ext.trans ?_ (by with_reducible assumption)) | omega | (focus (simp <;> omega))))
  · have hm2 : 0 ≤ m := by omega
    go_wp2_with fail
    refine bodyPost_ret (scale_ret (n := w.heap.size + 1) ((Z1.set 0 (.slice none 0 0) (by simp)).set 1 (.slice none 0 0) (by simp)) rfl rfl) rfl ⟨rfl, ?_⟩
    exact (by repeat (first | with_reducible exact Ext.refl _ | with_reducible assumption | (with_reducible refine Ext.drew ?_) | (with_reducible refine Ext.drewN ?_ _) | (with_reducible refine Ext.alloc ?_ _) | (with_reducible refine Ext.setCell ?_ ?_ _) | (with_reducible refine Ext.trans ?_ (by with_reducible assumption)) | omega | (focus (simp <;> omega))))

set_option maxRecDepth 100000 in
set_option maxHeartbeats 1000000 in
theorem scale_bad (a b : Option Addr) (k l : Nat) (c : Pl.Cv) (m : Int) (w : World) (h : Pl.chk c ≠ 0) (hx : Row w a c.nx c.x) (hy : Row w b c.ny c.y) (lx : c.nx ≤ maxLen) (ly : c.ny ≤ maxLen) :
    Calls Try.prog 30 #[.agg #[.slice a c.nx k, .slice b c.ny l], .int .i64 m] w fun e w' => e = .returned (.tuple #[.agg #[.slice none 0 0, .slice none 0 0], errv (Pl.chk c)]) ∧ Ext w w' := by
  have E0 : Ext w ((w.alloc (.cells #[.slice a c.nx k, .slice b c.ny l] 24)).alloc (.cells #[.slice none 0 0, .slice none 0 0] 24)) := ((Ext.refl w).alloc _).alloc _
  have hc := ccheck a b k l c _ (hx.ext E0) (hy.ext E0) lx ly
  have he : errv (Pl.chk c) = .iface 51 (.int .i64 (Pl.chk c)) := by unfold errv; rw [if_neg h]
  rw [he] at hc ⊢
  have HC := Lib.hid hc
  have Z0 := Blk.new1 w (.cells #[.slice a c.nx k, .slice b c.ny l] 24) [.slice none 0 0, .slice none 0 0] 24
  have HZ0 := Lib.hid Z0
  have HE := Lib.hid E0
  clear Z0 E0 hx hy hc h he lx ly
  generalize Pl.chk c = r at *
  go_enter Try.func30, Try.ntmps30
  go_wp2_with fail
  refine HC.out.mono ?_
  rintro e w1 ⟨rfl, hx1⟩
  have Z1 := HZ0.out.ext hx1
  have z0 := Z1.at 0 _ rfl
  have z1 := Z1.at 1 _ rfl
  have zl := Z1.lt
  have zf := Z1.fr
  have E1 := HE.out.trans hx1
  go_wp2_with fail
  refine bodyPost_ret (scale_ret (n := w.heap.size + 1) ((Z1.set 0 (.slice none 0 0) (by simp)).set 1 (.slice none 0 0) (by simp)) rfl rfl) rfl ⟨rfl, ?_⟩
  exact (by repeat (first | with_reducible exact Ext.refl _ | with_reducible assumption | (with_reducible refine Ext.drew ?_) | (with_reducible refine Ext.drewN ?_ _) | (with_reducible refine Ext.alloc ?_ _) | (with_reducible refine Ext.setCell ?_ ?_ _) | (with_reducible refine Ext.trans ?_ (by with_reducible assumption)) | omega | (focus (simp <;> omega))))

set_option maxRecDepth 100000 in
set_option maxHeartbeats 1000000 in
theorem scale_ok (a b : Option Addr) (k l : Nat) (c : Pl.Cv) (m : Int) (w : World) (h : Pl.chk c = 0) (m0 : 0 ≤ m) (m1 : m ≤ 131072) (hz : ∀ j, j < c.nx → ZIn (zsc c m j)) (hx : Row w a c.nx c.x) (hy : Row w b c.nx c.y) :
    Calls Try.prog 30 #[.agg #[.slice a c.nx k, .slice b c.nx l], .int .i64 m] w fun e w' => ∃ a1 k1 a2 k2, e = .returned (.tuple #[.agg #[.slice a1 c.nx k1, .slice a2 c.nx k2], .nilIface]) ∧ Row w' a1 c.nx c.x ∧ Row w' a2 c.nx (zsc c m) ∧ Ext w w' := by
  have g := Pl.good_of c h
  have E0 : Ext w ((w.alloc (.cells #[.slice a c.nx k, .slice b c.nx l] 24)).alloc (.cells #[.slice none 0 0, .slice none 0 0] 24)) := ((Ext.refl w).alloc _).alloc _
  have hc := ccheck_eq a b k l c _ g.same (hx.ext E0) (hy.ext E0) (by have := g.few; unfold maxLen; omega)
  rw [h, errv_0] at hc
  have HC := Lib.hid hc
  clear hc
  have g2 := g.two
  have g3 := g.few
  have A0 := (Blk.new w [.slice a c.nx k, .slice b c.nx l] 24).alloc (.cells #[.slice none 0 0, .slice none 0 0] 24)
  have Z0 := Blk.new1 w (.cells #[.slice a c.nx k, .slice b c.nx l] 24) [.slice none 0 0, .slice none 0 0] 24
  have HA := Lib.hid A0
  have HZ0 := Lib.hid Z0
  have HE := Lib.hid E0
  have HZ : Hid (∀ j, j < c.nx → _) := Lib.hid (fun j hj => zsc_bd g m0 m1 (j := j) hj)
  have HI := Lib.hid hz
  clear A0 Z0 E0
  obtain ⟨bY, oY, rfl, hby, hcy⟩ := hy (by omega)
  have HX := Lib.hid hx
  have HY := Lib.hid hcy
  have n2 : (2 : Int) ≤ (c.nx : Int) := by omega
  have n3 : (c.nx : Int) ≤ 32 := by omega
  clear hx hy hcy g h hz
  go_enter Try.func30, Try.ntmps30
  go_wp2_with fail
  refine HC.out.mono ?_
  rintro e w1 ⟨rfl, hx1⟩
  have A1 := HA.out.ext hx1
  have Z1 := HZ0.out.ext hx1
  have E1 := HE.out.trans hx1
  have a0 := A1.at 0 _ rfl
  have a1 := A1.at 1 _ rfl
  have al := A1.lt
  have zl := Z1.lt
  go_wp2_with fail
  refine (clone_any a c.nx k c.x w1 (HX.out.ext E1) (by omega) (by omega)).mono ?_
  rintro e w2 ⟨g1, k1, rfl, O1, hx2⟩
  have A2 := A1.ext hx2
  have Z2 := Z1.ext hx2
  have E2 := E1.trans hx2
  have s2 := hx2.size
  clear a0 a1
  have a0 := A2.at 0 _ rfl
  have a1 := A2.at 1 _ rfl
  have al := A2.lt
  have B2 := Blk.new w2 [.slice (some ⟨g1, 0, none⟩) c.nx k1, .slice none 0 0] 24
  have HB2 := Lib.hid B2
  clear B2
  go_wp2_with fail
  go_loopw [32] (fun i wr => ∃ (j : Nat) (a2 : Option Addr) (k2 : Nat), j ≤ c.nx ∧ i = .int .i64 j ∧ Blk wr w2.heap.size [.slice (some ⟨g1, 0, none⟩) c.nx k1, .slice a2 j k2] ∧ OwnI wr (w2.heap.size + 1) a2 j k2 (zsc c m) ∧ Ext w2 wr) (fun i _ => c.nx - (intOf i).toNat)
  case atStart => exact ⟨0, none, 0, by omega, rfl, HB2.out, OwnI.nil _ _ _, (Ext.refl w2).alloc _⟩
  case round =>
    obtain ⟨j, a2, k2, hj', rfl, B, O, hx⟩ := hrel
    have b0 := B.at 0 _ rfl
    have b1 := B.at 1 _ rfl
    have bl := B.lt
    have bf := B.fr
    by_cases hj : j < c.nx
    · have ⟨⟨p0, p1⟩, z0, z1⟩ := HZ.out j (by omega)
      have ⟨i0, i1⟩ := HI.out j hj
      have cy := ((E2.trans hx).cell hby).trans (HY.out j (by omega))
      have ej : (j : Int) < (c.nx : Int) := by omega
      have eb : w2.heap.size + 1 ≤ (wr.alloc (.cells #[.int .i64 (zsc c m j)] 3)).heap.size := by simp; omega
      obtain ⟨z, hz⟩ : ∃ z, z = zsc c m j := ⟨_, rfl⟩
      rw [← hz] at z0 z1 i0 i1 eb
      have wm : IntKind.i64.wrap (c.y j * m) = c.y j * m := IntWalk.i64_in _ (by omega)
      have wq : IntKind.i64.wrap ((c.y j * m).tdiv 65536) = z := by rw [hz]; exact IntWalk.i64_in _ (by have := HZ.out j (by omega); unfold zsc at this; omega)
      have dq : (c.y j * m).tdiv 65536 = z := hz.symm
      have HQ := Lib.hid hz
      clear hz
      generalize c.y j = y at *
      go_wp2_with (at_builtin; refine wpList_app (wr.alloc (.cells #[.int .i64 z] 3)) rfl _ _ rfl rfl (O.alloc _) eb ⟨wr.heap.size, 0, none⟩ 1 1 (fun _ => z) rfl (one_news (Blk.new wr [.int .i64 z] 3)) (by omega) (by omega) _ rfl ?_; intro g k' w' hown hgrow hat hlt; have B9 := (B.alloc _).grown hgrow (O.ne (by omega)); have b19 := B9.at 1 _ rfl; have bf9 := B9.fr; have bl9 := B9.lt)
      go_roundw
      case rel =>
        refine ⟨j + 1, some ⟨g, 0, none⟩, k', by omega, by go_num, B9.set 1 _ (by simp), ?_, ((hx.alloc _).grown hgrow (fun k e => by have := (O.lo k e).1; omega)).setCell (by simp) _⟩
        refine (hown.far (fun b hb => by have := (hown.lo b hb).1; omega)).congr ?_
        rw [HQ.out]
        exact cat_one
      case measure => simp [intOf]; omega
    · obtain rfl : j = c.nx := by omega
      have hge : (c.nx : Int) ≤ (c.nx : Int) := Int.le_refl _
      have Z3 := Z2.ext hx
      have z0 := Z3.at 0 _ rfl
      have z1 := Z3.at 1 _ rfl
      have zl3 := Z3.lt
      have zf := Z3.fr
      have O1' := O1.ext hx
      go_wp2_with fail
      refine bodyPost_ret (scale_ret (n := w.heap.size + 1) ((Z3.set 0 (.slice (some ⟨g1, 0, none⟩) c.nx k1) (by simp)).set 1 (.slice a2 c.nx k2) (by simp)) rfl rfl) rfl ⟨some ⟨g1, 0, none⟩, k1, a2, k2, rfl, ?_, ?_, ?_⟩
      · exact ((O1'.far (fun b hb => by have := (O1'.lo b hb).1; omega)).far (fun b hb => by have := (O1'.lo b hb).1; omega)).row
      · exact ((O.far (fun b hb => by have := (O.lo b hb).1; omega)).far (fun b hb => by have := (O.lo b hb).1; omega)).row
      · exact ((E2.trans hx).setCell (by simp) _).setCell (by simp) _

set_option maxRecDepth 100000 in
set_option maxHeartbeats 1000000 in
theorem scale_over (a b : Option Addr) (k l : Nat) (c : Pl.Cv) (m : Int) (w : World) (h : Pl.chk c = 0) (m0 : 0 ≤ m) (m1 : m ≤ 131072) (J : Nat) (hJ : J < c.nx) (hz : ∀ j, j < J → ZIn (zsc c m j)) (hbad : zsc c m J < -1073741824 ∨ 1073741824 < zsc c m J) (hx : Row w a c.nx c.x) (hy : Row w b c.nx c.y) :
    Calls Try.prog 30 #[.agg #[.slice a c.nx k, .slice b c.nx l], .int .i64 m] w fun e w' => e = .returned (.tuple #[.agg #[.slice none 0 0, .slice none 0 0], .iface 51 (.int .i64 3)]) ∧ Ext w w' := by
  have g := Pl.good_of c h
  have E0 : Ext w ((w.alloc (.cells #[.slice a c.nx k, .slice b c.nx l] 24)).alloc (.cells #[.slice none 0 0, .slice none 0 0] 24)) := ((Ext.refl w).alloc _).alloc _
  have hc := ccheck_eq a b k l c _ g.same (hx.ext E0) (hy.ext E0) (by have := g.few; unfold maxLen; omega)
  rw [h, errv_0] at hc
  have HC := Lib.hid hc
  clear hc
  have g2 := g.two
  have g3 := g.few
  have A0 := (Blk.new w [.slice a c.nx k, .slice b c.nx l] 24).alloc (.cells #[.slice none 0 0, .slice none 0 0] 24)
  have Z0 := Blk.new1 w (.cells #[.slice a c.nx k, .slice b c.nx l] 24) [.slice none 0 0, .slice none 0 0] 24
  have HA := Lib.hid A0
  have HZ0 := Lib.hid Z0
  have HE := Lib.hid E0
  have HB := Lib.hid hbad
  clear hbad
  have HZ : Hid (∀ j, j < c.nx → _) := Lib.hid (fun j hj => zsc_bd g m0 m1 (j := j) hj)
  have HI := Lib.hid hz
  clear A0 Z0 E0
  obtain ⟨bY, oY, rfl, hby, hcy⟩ := hy (by omega)
  have HX := Lib.hid hx
  have HY := Lib.hid hcy
  have n2 : (2 : Int) ≤ (c.nx : Int) := by omega
  have n3 : (c.nx : Int) ≤ 32 := by omega
  clear hx hy hcy g h hz
  go_enter Try.func30, Try.ntmps30
  go_wp2_with fail
  refine HC.out.mono ?_
  rintro e w1 ⟨rfl, hx1⟩
  have A1 := HA.out.ext hx1
  have Z1 := HZ0.out.ext hx1
  have E1 := HE.out.trans hx1
  have a0 := A1.at 0 _ rfl
  have a1 := A1.at 1 _ rfl
  have al := A1.lt
  have zl := Z1.lt
  go_wp2_with fail
  refine (clone_any a c.nx k c.x w1 (HX.out.ext E1) (by omega) (by omega)).mono ?_
  rintro e w2 ⟨g1, k1, rfl, O1, hx2⟩
  have A2 := A1.ext hx2
  have Z2 := Z1.ext hx2
  have E2 := E1.trans hx2
  have s2 := hx2.size
  clear a0 a1
  have a0 := A2.at 0 _ rfl
  have a1 := A2.at 1 _ rfl
  have al := A2.lt
  have B2 := Blk.new w2 [.slice (some ⟨g1, 0, none⟩) c.nx k1, .slice none 0 0] 24
  have HB2 := Lib.hid B2
  clear B2
  go_wp2_with fail
  go_loopw [32] (fun i wr => ∃ (j : Nat) (a2 : Option Addr) (k2 : Nat), j ≤ J ∧ i = .int .i64 j ∧ Blk wr w2.heap.size [.slice (some ⟨g1, 0, none⟩) c.nx k1, .slice a2 j k2] ∧ OwnI wr (w2.heap.size + 1) a2 j k2 (zsc c m) ∧ Ext w2 wr) (fun i _ => c.nx - (intOf i).toNat)
  case atStart => exact ⟨0, none, 0, by omega, rfl, HB2.out, OwnI.nil _ _ _, (Ext.refl w2).alloc _⟩
  case round =>
    obtain ⟨j, a2, k2, hj', rfl, B, O, hx⟩ := hrel
    have b0 := B.at 0 _ rfl
    have b1 := B.at 1 _ rfl
    have bl := B.lt
    have bf := B.fr
    by_cases hj : j < J
    · have ⟨⟨p0, p1⟩, z0, z1⟩ := HZ.out j (by omega)
      have ⟨i0, i1⟩ := HI.out j hj
      have cy := ((E2.trans hx).cell hby).trans (HY.out j (by omega))
      have ej : (j : Int) < (c.nx : Int) := by omega
      have eb : w2.heap.size + 1 ≤ (wr.alloc (.cells #[.int .i64 (zsc c m j)] 3)).heap.size := by simp; omega
      obtain ⟨z, hz⟩ : ∃ z, z = zsc c m j := ⟨_, rfl⟩
      rw [← hz] at z0 z1 i0 i1 eb
      have wm : IntKind.i64.wrap (c.y j * m) = c.y j * m := IntWalk.i64_in _ (by omega)
      have wq : IntKind.i64.wrap ((c.y j * m).tdiv 65536) = z := by rw [hz]; exact IntWalk.i64_in _ (by have := HZ.out j (by omega); unfold zsc at this; omega)
      have dq : (c.y j * m).tdiv 65536 = z := hz.symm
      have HQ := Lib.hid hz
      clear hz
      generalize c.y j = y at *
      go_wp2_with (at_builtin; refine wpList_app (wr.alloc (.cells #[.int .i64 z] 3)) rfl _ _ rfl rfl (O.alloc _) eb ⟨wr.heap.size, 0, none⟩ 1 1 (fun _ => z) rfl (one_news (Blk.new wr [.int .i64 z] 3)) (by omega) (by omega) _ rfl ?_; intro g k' w' hown hgrow hat hlt; have B9 := (B.alloc _).grown hgrow (O.ne (by omega)); have b19 := B9.at 1 _ rfl; have bf9 := B9.fr; have bl9 := B9.lt)
      go_roundw
      case rel =>
        refine ⟨j + 1, some ⟨g, 0, none⟩, k', by omega, by go_num, B9.set 1 _ (by simp), ?_, ((hx.alloc _).grown hgrow (fun k e => by have := (O.lo k e).1; omega)).setCell (by simp) _⟩
        refine (hown.far (fun b hb => by have := (hown.lo b hb).1; omega)).congr ?_
        rw [HQ.out]
        exact cat_one
      case measure => simp [intOf]; omega
    · obtain rfl : j = J := by omega
      have ⟨⟨p0, p1⟩, z0, z1⟩ := HZ.out j (by omega)
      have cy := ((E2.trans hx).cell hby).trans (HY.out j (by omega))
      have ej : (j : Int) < (c.nx : Int) := by omega
      have Z3 := Z2.ext hx
      have zz0 := Z3.at 0 _ rfl
      have zz1 := Z3.at 1 _ rfl
      have zl3 := Z3.lt
      have zf := Z3.fr
      obtain ⟨z, hz⟩ : ∃ z, z = zsc c m j := ⟨_, rfl⟩
      have hb' := HB.out
      rw [← hz] at z0 z1 hb'
      have wm : IntKind.i64.wrap (c.y j * m) = c.y j * m := IntWalk.i64_in _ (by omega)
      have wq : IntKind.i64.wrap ((c.y j * m).tdiv 65536) = z := by rw [hz]; exact IntWalk.i64_in _ (by have := HZ.out j (by omega); unfold zsc at this; omega)
      have dq : (c.y j * m).tdiv 65536 = z := hz.symm
      clear hz
      generalize c.y j = y at *
      rcases hb' with hb' | hb'
      · go_wp2_with fail
        refine bodyPost_ret (scale_ret (n := w.heap.size + 1) ((Z3.set 0 (.slice none 0 0) (by simp)).set 1 (.slice none 0 0) (by simp)) rfl rfl) rfl ⟨rfl, ?_⟩
        exact ((E2.trans hx).setCell (by simp) _).setCell (by simp) _
      · have hb2 : -1073741824 ≤ z := by omega
        go_wp2_with fail
        refine bodyPost_ret (scale_ret (n := w.heap.size + 1) ((Z3.set 0 (.slice none 0 0) (by simp)).set 1 (.slice none 0 0) (by simp)) rfl rfl) rfl ⟨rfl, ?_⟩
        exact ((E2.trans hx).setCell (by simp) _).setCell (by simp) _

end Go.Proofs.Ytbeolonbboibfaa
