/- CurveScales: Scale returns the scaled curve, or the errors as specified; a factor of 65536 changes nothing.
   Conditions: none: every input. -/
import Derived.Test.YtbeolonbboibfaaAwakeCurve
import Derived.Test.YtbeolonbboibfaaRefScale
namespace Go.Proofs.Ytbeolonbboibfaa.curveScales
open Go.ChangeShapes Go.WideShapes Go.ChangeAt Go.RowKit
set_option linter.unusedVariables false

theorem zsc_one (c : Pl.Cv) (j : Nat) : zsc c 65536 j = c.y j := by
  unfold zsc
  rw [Int.mul_tdiv_cancel _ (by omega)]
theorem Row.congr {w : World} {a : Option Addr} {n : Nat} {f z : Nat → Int} (h : Row w a n f) (e : ∀ j, j < n → f j = z j) : Row w a n z := fun h0 => by
  obtain ⟨b, o, h1, h2, h3⟩ := h h0
  exact ⟨b, o, h1, h2, fun j hj => by rw [← e j hj]; exact h3 j hj⟩
theorem zin_first {c : Pl.Cv} {m : Int} (h : ¬ ∀ j, j < c.nx → ZIn (zsc c m j)) : ∃ J, J < c.nx ∧ (∀ j, j < J → ZIn (zsc c m j)) ∧ (zsc c m J < -1073741824 ∨ 1073741824 < zsc c m J) := by
  have key : ∀ n, n ≤ c.nx → (∀ j, j < n → ZIn (zsc c m j)) ∨ ∃ J, J < n ∧ (∀ j, j < J → ZIn (zsc c m j)) ∧ ¬ ZIn (zsc c m J) := by
    intro n
    induction n with
    | zero => exact fun _ => .inl (fun j hj => by omega)
    | succ n ih =>
      intro hn
      rcases ih (by omega) with h1 | ⟨J, h1, h2, h3⟩
      · by_cases hz : ZIn (zsc c m n)
        · refine .inl (fun j hj => ?_)
          by_cases e : j = n
          · rw [e]; exact hz
          · exact h1 j (by omega)
        · exact .inr ⟨n, by omega, h1, hz⟩
      · exact .inr ⟨J, by omega, h2, h3⟩
  rcases key c.nx (Nat.le_refl _) with h1 | ⟨J, h1, h2, h3⟩
  · exact absurd h1 h
  · refine ⟨J, h1, h2, ?_⟩
    unfold ZIn at h3
    omega

set_option maxRecDepth 100000 in
set_option maxHeartbeats 1000000 in
theorem walk_big (a b : Option Addr) (k l : Nat) (c : Pl.Cv) (a1 : Int) (b1 : I64 a1) (w : World) (hl : lg c = true) :
    Calls Try.prog 11 #[.agg #[.slice a c.nx k, .slice b c.ny l], .int .i64 a1] w fun e w' => e = .returned (.bool true) ∧ Ext w w' := by
  · have LG := Lib.hid hl
    clear hl
    go_enter Try.func11, Try.ntmps11
    go_wp2_with fail
    refine (awake09 _).mono ?_
    rintro e wa ⟨rfl, hxwa⟩
    have A0 := (Blk.new w [.slice a c.nx k, .slice b c.ny l] 24).ext hxwa
    have E0 : Ext w wa := ((Ext.refl w).alloc _).trans hxwa
    have b00 := A0.at 0 _ rfl
    have b10 := A0.at 1 _ rfl
    have bn0 := A0.lt
    go_wp2_with fail
    refine (large_any a b k l c _).mono ?_
    rw [LG.out]
    rintro e w1 ⟨rfl, hx1⟩
    have A1 := A0.ext hx1
    have E1 := E0.trans hx1
    have b01 := A1.at 0 _ rfl
    have b11 := A1.at 1 _ rfl
    have bn1 := A1.lt
    go_wp2_with fail
    refine (awake09 _).mono ?_
    rintro e w2 ⟨rfl, hx2⟩
    have A2 := A1.ext hx2
    have E2 := E1.trans hx2
    have b02 := A2.at 0 _ rfl
    have b12 := A2.at 1 _ rfl
    have bn2 := A2.lt
    go_wp2_with fail
    go_ret
    exact ⟨(by first | rfl | exact ret_true (by simp <;> omega)), (by repeat (first | with_reducible exact Ext.refl _ | with_reducible assumption | (with_reducible refine Ext.drew ?_) | (with_reducible refine Ext.drewN ?_ _) | (with_reducible refine Ext.alloc ?_ _) | (with_reducible refine Ext.setCell ?_ ?_ _) | (with_reducible refine Ext.trans ?_ (by with_reducible assumption)) | omega | (focus (simp <;> omega))))⟩

set_option maxRecDepth 100000 in
set_option maxHeartbeats 1000000 in
theorem walk_ok (a b : Option Addr) (k l : Nat) (c : Pl.Cv) (a1 : Int) (b1 : I64 a1) (w : World) (hl : lg c = false) (hc : Pl.chk c = 0) (hx : Row w a c.nx c.x) (hy : Row w b c.nx c.y) (lx : c.nx ≤ maxLen) :
    Calls Try.prog 11 #[.agg #[.slice a c.nx k, .slice b c.nx l], .int .i64 a1] w fun e w' => e = .returned (.bool true) ∧ Ext w w' := by
  · have g := Pl.good_of c hc
    have G := Lib.hid g
    have sm := g.same
    have SM := Lib.hid sm
    have HX := Lib.hid hx
    have HY := Lib.hid hy
    have HC := Lib.hid hc
    have LX := Lib.hid lx
    have LG := Lib.hid hl
    have LGN : Hid (lg ⟨c.nx, c.nx, c.x, c.y⟩ = false) := Lib.hid (lg_same sm hl)
    clear b1
    clear hx hy hc hl  sm lx
    have g2 := g.two
    have g3 := g.few
    clear g
    by_cases hm : a1 < 0 ∨ 131072 < a1
    · have HM := Lib.hid hm
      clear hm
      go_enter Try.func11, Try.ntmps11
      go_wp2_with fail
      refine (awake09 _).mono ?_
      rintro e wa ⟨rfl, hxwa⟩
      have A0 := (Blk.new w [.slice a c.nx k, .slice b c.nx l] 24).ext hxwa
      have E0 : Ext w wa := ((Ext.refl w).alloc _).trans hxwa
      have b00 := A0.at 0 _ rfl
      have b10 := A0.at 1 _ rfl
      have bn0 := A0.lt
      go_wp2_with fail
      refine (large_any a b k l ⟨c.nx, c.nx, c.x, c.y⟩ _).mono ?_
      rw [LGN.out]
      rintro e w1 ⟨rfl, hx1⟩
      have A1 := A0.ext hx1
      have E1 := E0.trans hx1
      have b01 := A1.at 0 _ rfl
      have b11 := A1.at 1 _ rfl
      have bn1 := A1.lt
      go_wp2_with fail
      refine (scale_rng a b k l c a1 _ HC.out HM.out (HX.out.ext E1) (HY.out.ext E1)).mono ?_
      rintro e w2 ⟨rfl, hx2⟩
      have A2 := A1.ext hx2
      have E2 := E1.trans hx2
      have b02 := A2.at 0 _ rfl
      have b12 := A2.at 1 _ rfl
      have bn2 := A2.lt
      have S0 := Blk.new w2 [.slice none 0 0, .slice none 0 0] 24
      have F0 := E2.alloc (.cells #[.slice none 0 0, .slice none 0 0] 24)
      have G0 := (Ext.refl w2).alloc (.cells #[.slice none 0 0, .slice none 0 0] 24)
      have AA0 := A2.alloc (.cells #[.slice none 0 0, .slice none 0 0] 24)
      go_wp2_with fail
      refine (check09_eq a b k l c _ SM.out (HX.out.ext F0) (HY.out.ext F0) LX.out).mono ?_
      rw [HC.out]
      rintro e v1 ⟨rfl, gx1⟩
      have S1 := (S0.ext gx1).alloc (.cells #[.slice none 0 0, .slice none 0 0] 24)
      have F1 := (F0.trans gx1).alloc (.cells #[.slice none 0 0, .slice none 0 0] 24)
      have G1 := (G0.trans gx1).alloc (.cells #[.slice none 0 0, .slice none 0 0] 24)
      have AA1 := (AA0.ext gx1).alloc (.cells #[.slice none 0 0, .slice none 0 0] 24)
      have Z1 := Blk.new v1 [.slice none 0 0, .slice none 0 0] 24
      have k0 := (AA0.ext gx1).at 0 _ rfl
      have k1 := (AA0.ext gx1).at 1 _ rfl
      have kl := (AA0.ext gx1).lt
      clear b02 b12 bn2
      clear b00 b10 bn0
      clear b01 b11 bn1
      go_wp2_with fail
      refine (rscale_rng a b k l c a1 _ HM.out).mono ?_
      rintro e v2 ⟨rfl, gx2⟩
      have S2 := S1.ext gx2
      have F2 := F1.trans gx2
      have G2 := G1.trans gx2
      have AA2 := AA1.ext gx2
      have Z2 := Z1.ext gx2
      have ss0 := S2.at 0 _ rfl
      have ss1 := S2.at 1 _ rfl
      have sl := S2.lt
      have z0 := Z2.at 0 _ rfl
      have z1 := Z2.at 1 _ rfl
      have zl := Z2.lt
      have zf := Z2.fr
      have gs1 := gx1.size
      have t58 : w2.heap.size ≠ v1.heap.size := by simp at gs1; omega
      have t85 : v1.heap.size ≠ w2.heap.size := fun e => t58 e.symm
      go_wp2_with fail
      refine (num_err 3 _).mono ?_
      rintro e w9 ⟨rfl, rfl⟩
      go_wp2_with fail
      refine (same_any none none none none 0 0 0 0 0 0 (fun _ => 0) (fun _ => 0) _ (fun h => absurd h (by omega)) (fun h => absurd h (by omega)) (fun h => absurd h (by omega)) (fun h => absurd h (by omega)) (by omega) (by omega)).mono ?_
      rintro e u9 ⟨rfl, gx9⟩
      have H9 : Ext w u9 := ((F2.setCell (show w.heap.size ≤ v1.heap.size by have := E2.size; simp at gs1; omega) _).setCell (show w.heap.size ≤ v1.heap.size by have := E2.size; simp at gs1; omega) _).trans gx9
      go_wp2_with fail
      go_ret
      exact ⟨(by first | rfl | exact ret_true (by simp <;> omega)), by first | exact H9 | exact (by repeat (first | with_reducible exact Ext.refl _ | with_reducible assumption | (with_reducible refine Ext.drew ?_) | (with_reducible refine Ext.drewN ?_ _) | (with_reducible refine Ext.alloc ?_ _) | (with_reducible refine Ext.setCell ?_ ?_ _) | (with_reducible refine Ext.trans ?_ (by with_reducible assumption)) | omega | (focus (simp <;> omega))))⟩
    · have m0 : 0 ≤ a1 := by omega
      have m1 : a1 ≤ 131072 := by omega
      clear hm
      by_cases hz : ∀ j, j < c.nx → ZIn (zsc c a1 j)
      · have HZ := Lib.hid hz
        clear hz
        go_enter Try.func11, Try.ntmps11
        go_wp2_with fail
        refine (awake09 _).mono ?_
        rintro e wa ⟨rfl, hxwa⟩
        have A0 := (Blk.new w [.slice a c.nx k, .slice b c.nx l] 24).ext hxwa
        have E0 : Ext w wa := ((Ext.refl w).alloc _).trans hxwa
        have b00 := A0.at 0 _ rfl
        have b10 := A0.at 1 _ rfl
        have bn0 := A0.lt
        go_wp2_with fail
        refine (large_any a b k l ⟨c.nx, c.nx, c.x, c.y⟩ _).mono ?_
        rw [LGN.out]
        rintro e w1 ⟨rfl, hx1⟩
        have A1 := A0.ext hx1
        have E1 := E0.trans hx1
        have b01 := A1.at 0 _ rfl
        have b11 := A1.at 1 _ rfl
        have bn1 := A1.lt
        go_wp2_with fail
        refine (scale_ok a b k l c a1 _ HC.out m0 m1 HZ.out (HX.out.ext E1) (HY.out.ext E1)).mono ?_
        rintro e w2 ⟨s1, q1, s2, q2, rfl, r1, r2, hx2⟩
        have A2 := A1.ext hx2
        have E2 := E1.trans hx2
        have b02 := A2.at 0 _ rfl
        have b12 := A2.at 1 _ rfl
        have bn2 := A2.lt
        have R1 := Lib.hid r1
        have R2 := Lib.hid r2
        clear r1 r2
        have S0 := Blk.new w2 [.slice s1 c.nx q1, .slice s2 c.nx q2] 24
        have F0 := E2.alloc (.cells #[.slice s1 c.nx q1, .slice s2 c.nx q2] 24)
        have G0 := (Ext.refl w2).alloc (.cells #[.slice s1 c.nx q1, .slice s2 c.nx q2] 24)
        have AA0 := A2.alloc (.cells #[.slice s1 c.nx q1, .slice s2 c.nx q2] 24)
        go_wp2_with fail
        refine (check09_eq a b k l c _ SM.out (HX.out.ext F0) (HY.out.ext F0) LX.out).mono ?_
        rw [HC.out]
        rintro e v1 ⟨rfl, gx1⟩
        have S1 := (S0.ext gx1).alloc (.cells #[.slice none 0 0, .slice none 0 0] 24)
        have F1 := (F0.trans gx1).alloc (.cells #[.slice none 0 0, .slice none 0 0] 24)
        have G1 := (G0.trans gx1).alloc (.cells #[.slice none 0 0, .slice none 0 0] 24)
        have AA1 := (AA0.ext gx1).alloc (.cells #[.slice none 0 0, .slice none 0 0] 24)
        have Z1 := Blk.new v1 [.slice none 0 0, .slice none 0 0] 24
        have k0 := (AA0.ext gx1).at 0 _ rfl
        have k1 := (AA0.ext gx1).at 1 _ rfl
        have kl := (AA0.ext gx1).lt
        clear b02 b12 bn2
        clear b00 b10 bn0
        clear b01 b11 bn1
        go_wp2_with fail
        refine (rscale_ok a b k l c a1 _ HC.out m0 m1 HZ.out (HX.out.ext F1) (HY.out.ext F1)).mono ?_
        rintro e v2 ⟨s3, q3, s4, q4, rfl, r3, r4, gx2⟩
        have S2 := S1.ext gx2
        have F2 := F1.trans gx2
        have G2 := G1.trans gx2
        have AA2 := AA1.ext gx2
        have Z2 := Z1.ext gx2
        have ss0 := S2.at 0 _ rfl
        have ss1 := S2.at 1 _ rfl
        have sl := S2.lt
        have z0 := Z2.at 0 _ rfl
        have z1 := Z2.at 1 _ rfl
        have zl := Z2.lt
        have zf := Z2.fr
        have gs1 := gx1.size
        have t58 : w2.heap.size ≠ v1.heap.size := by simp at gs1; omega
        have t85 : v1.heap.size ≠ w2.heap.size := fun e => t58 e.symm
        have GV := Lib.hid ((G2.setCell (show w2.heap.size ≤ (⟨v1.heap.size, 0, none⟩ : Addr).block by simp at gs1; simp; omega) (.slice s3 c.nx q3)).setCell (show w2.heap.size ≤ (⟨v1.heap.size, 1, none⟩ : Addr).block by simp at gs1; simp; omega) (.slice s4 c.nx q4))
        have FV := Lib.hid ((F2.setCell (show w.heap.size ≤ (⟨v1.heap.size, 0, none⟩ : Addr).block by have := E2.size; simp at gs1; simp; omega) (.slice s3 c.nx q3)).setCell (show w.heap.size ≤ (⟨v1.heap.size, 1, none⟩ : Addr).block by have := E2.size; simp at gs1; simp; omega) (.slice s4 c.nx q4))
        have AV := Lib.hid ((AA2.far (m := v1.heap.size) (o := 0) (by have := E2.size; have := A2.lt; simp at gs1; omega) (.slice s3 c.nx q3)).far (m := v1.heap.size) (o := 1) (by have := E2.size; have := A2.lt; simp at gs1; omega) (.slice s4 c.nx q4))
        have SV := Lib.hid ((S2.far (m := v1.heap.size) (o := 0) t85 (.slice s3 c.nx q3)).far (m := v1.heap.size) (o := 1) t85 (.slice s4 c.nx q4))
        have R3 := Lib.hid ((r3.far (m := v1.heap.size) (o := 0) (v := .slice s3 c.nx q3) (fun b hb => by have := (r3.lo b hb).1; simp at this; omega)).far (m := v1.heap.size) (o := 1) (v := .slice s4 c.nx q4) (fun b hb => by have := (r3.lo b hb).1; simp at this; omega))
        have R4 := Lib.hid ((r4.far (m := v1.heap.size) (o := 0) (v := .slice s3 c.nx q3) (fun b hb => by have := (r4.lo b hb).1; simp at this; omega)).far (m := v1.heap.size) (o := 1) (v := .slice s4 c.nx q4) (fun b hb => by have := (r4.lo b hb).1; simp at this; omega))
        clear r3 r4
        go_wp2_with fail
        refine (num_nil _).mono ?_
        rintro e w9 ⟨rfl, rfl⟩
        go_wp2_with fail
        refine (same_any s1 s2 s3 s4 c.nx c.nx q1 q2 q3 q4 c.x (zsc c a1) ((v2.setCell ⟨v1.heap.size, 0, none⟩ (.slice s3 c.nx q3)).setCell ⟨v1.heap.size, 1, none⟩ (.slice s4 c.nx q4)) (R1.out.ext GV.out) (R2.out.ext GV.out) R3.out.row R4.out.row (by omega) (by omega)).mono ?_
        rintro e u9 ⟨rfl, gx9⟩
        have H9 : Ext w u9 := FV.out.trans gx9
        have J0 := AV.out.ext gx9
        have j0 := J0.at 0 _ rfl
        have j1 := J0.at 1 _ rfl
        have jl := J0.lt
        have SS := SV.out.ext gx9
        have i0 := SS.at 0 _ rfl
        have i1 := SS.at 1 _ rfl
        have il := SS.lt
        by_cases h65 : a1 = 65536
        · have R2' : Row u9 s2 c.nx c.y := ((R2.out.ext GV.out).ext gx9).congr (fun j hj => by rw [h65]; first | exact zsc_one c j | exact (zsc_one c j).symm)
          subst h65
          go_wp2_with fail
          refine (same_any s1 s2 a b c.nx c.nx q1 q2 k l c.x c.y u9 ((R1.out.ext GV.out).ext gx9) R2' (HX.out.ext H9) (HY.out.ext H9) (by omega) (by omega)).mono ?_
          rintro e u8 ⟨rfl, gx8⟩
          go_wp2_with fail
          go_ret
          exact ⟨(by first | rfl | exact ret_true (by simp <;> omega)), H9.trans gx8⟩
        · have hb65 : (a1 != 65536) = true := by simpa using h65
          go_wp2_with fail
          go_ret
          exact ⟨(by first | rfl | exact ret_true (by simp <;> omega)), H9⟩
      · obtain ⟨J, hJ, hz, hbad⟩ := zin_first hz
        have HZ := Lib.hid hz
        have HB := Lib.hid hbad
        clear hz hbad
        go_enter Try.func11, Try.ntmps11
        go_wp2_with fail
        refine (awake09 _).mono ?_
        rintro e wa ⟨rfl, hxwa⟩
        have A0 := (Blk.new w [.slice a c.nx k, .slice b c.nx l] 24).ext hxwa
        have E0 : Ext w wa := ((Ext.refl w).alloc _).trans hxwa
        have b00 := A0.at 0 _ rfl
        have b10 := A0.at 1 _ rfl
        have bn0 := A0.lt
        go_wp2_with fail
        refine (large_any a b k l ⟨c.nx, c.nx, c.x, c.y⟩ _).mono ?_
        rw [LGN.out]
        rintro e w1 ⟨rfl, hx1⟩
        have A1 := A0.ext hx1
        have E1 := E0.trans hx1
        have b01 := A1.at 0 _ rfl
        have b11 := A1.at 1 _ rfl
        have bn1 := A1.lt
        go_wp2_with fail
        refine (scale_over a b k l c a1 _ HC.out m0 m1 J hJ HZ.out HB.out (HX.out.ext E1) (HY.out.ext E1)).mono ?_
        rintro e w2 ⟨rfl, hx2⟩
        have A2 := A1.ext hx2
        have E2 := E1.trans hx2
        have b02 := A2.at 0 _ rfl
        have b12 := A2.at 1 _ rfl
        have bn2 := A2.lt
        have S0 := Blk.new w2 [.slice none 0 0, .slice none 0 0] 24
        have F0 := E2.alloc (.cells #[.slice none 0 0, .slice none 0 0] 24)
        have G0 := (Ext.refl w2).alloc (.cells #[.slice none 0 0, .slice none 0 0] 24)
        have AA0 := A2.alloc (.cells #[.slice none 0 0, .slice none 0 0] 24)
        go_wp2_with fail
        refine (check09_eq a b k l c _ SM.out (HX.out.ext F0) (HY.out.ext F0) LX.out).mono ?_
        rw [HC.out]
        rintro e v1 ⟨rfl, gx1⟩
        have S1 := (S0.ext gx1).alloc (.cells #[.slice none 0 0, .slice none 0 0] 24)
        have F1 := (F0.trans gx1).alloc (.cells #[.slice none 0 0, .slice none 0 0] 24)
        have G1 := (G0.trans gx1).alloc (.cells #[.slice none 0 0, .slice none 0 0] 24)
        have AA1 := (AA0.ext gx1).alloc (.cells #[.slice none 0 0, .slice none 0 0] 24)
        have Z1 := Blk.new v1 [.slice none 0 0, .slice none 0 0] 24
        have k0 := (AA0.ext gx1).at 0 _ rfl
        have k1 := (AA0.ext gx1).at 1 _ rfl
        have kl := (AA0.ext gx1).lt
        clear b02 b12 bn2
        clear b00 b10 bn0
        clear b01 b11 bn1
        go_wp2_with fail
        refine (rscale_over a b k l c a1 _ HC.out m0 m1 J hJ HZ.out HB.out (HX.out.ext F1) (HY.out.ext F1)).mono ?_
        rintro e v2 ⟨rfl, gx2⟩
        have S2 := S1.ext gx2
        have F2 := F1.trans gx2
        have G2 := G1.trans gx2
        have AA2 := AA1.ext gx2
        have Z2 := Z1.ext gx2
        have ss0 := S2.at 0 _ rfl
        have ss1 := S2.at 1 _ rfl
        have sl := S2.lt
        have z0 := Z2.at 0 _ rfl
        have z1 := Z2.at 1 _ rfl
        have zl := Z2.lt
        have zf := Z2.fr
        have gs1 := gx1.size
        have t58 : w2.heap.size ≠ v1.heap.size := by simp at gs1; omega
        have t85 : v1.heap.size ≠ w2.heap.size := fun e => t58 e.symm
        go_wp2_with fail
        refine (num_err 3 _).mono ?_
        rintro e w9 ⟨rfl, rfl⟩
        go_wp2_with fail
        refine (same_any none none none none 0 0 0 0 0 0 (fun _ => 0) (fun _ => 0) _ (fun h => absurd h (by omega)) (fun h => absurd h (by omega)) (fun h => absurd h (by omega)) (fun h => absurd h (by omega)) (by omega) (by omega)).mono ?_
        rintro e u9 ⟨rfl, gx9⟩
        have H9 : Ext w u9 := ((F2.setCell (show w.heap.size ≤ v1.heap.size by have := E2.size; simp at gs1; omega) _).setCell (show w.heap.size ≤ v1.heap.size by have := E2.size; simp at gs1; omega) _).trans gx9
        go_wp2_with fail
        go_ret
        exact ⟨(by first | rfl | exact ret_true (by simp <;> omega)), by first | exact H9 | exact (by repeat (first | with_reducible exact Ext.refl _ | with_reducible assumption | (with_reducible refine Ext.drew ?_) | (with_reducible refine Ext.drewN ?_ _) | (with_reducible refine Ext.alloc ?_ _) | (with_reducible refine Ext.setCell ?_ ?_ _) | (with_reducible refine Ext.trans ?_ (by with_reducible assumption)) | omega | (focus (simp <;> omega))))⟩

set_option maxRecDepth 100000 in
set_option maxHeartbeats 1000000 in
theorem walk_bad (a b : Option Addr) (k l : Nat) (c : Pl.Cv) (a1 : Int) (b1 : I64 a1) (w : World) (hl : lg c = false) (hc : Pl.chk c ≠ 0) (hx : Row w a c.nx c.x) (hy : Row w b c.ny c.y) (lx : c.nx ≤ maxLen) (ly : c.ny ≤ maxLen) :
    Calls Try.prog 11 #[.agg #[.slice a c.nx k, .slice b c.ny l], .int .i64 a1] w fun e w' => e = .returned (.bool true) ∧ Ext w w' := by
  · have he : errv (Pl.chk c) = .iface 51 (.int .i64 (Pl.chk c)) := by unfold errv; rw [if_neg hc]
    have HE := Lib.hid he
    have HX := Lib.hid hx
    have HY := Lib.hid hy
    have HC := Lib.hid hc
    have LX := Lib.hid lx
    have LY := Lib.hid ly
    have LG := Lib.hid hl
    have nz : (Pl.chk c != 0) = true := by simpa using hc
    have nz2 : (Pl.chk c == 0) = false := by simpa using hc
    have hq : ¬ Pl.chk c = 0 := hc
    obtain ⟨r, hr⟩ : ∃ r, r = Pl.chk c := ⟨_, rfl⟩
    have RR := Lib.hid hr
    rw [← hr] at nz nz2 hq
    clear he hx hy hc lx ly hl hr
    clear b1
    go_enter Try.func11, Try.ntmps11
    go_wp2_with fail
    refine (awake09 _).mono ?_
    rintro e wa ⟨rfl, hxwa⟩
    have A0 := (Blk.new w [.slice a c.nx k, .slice b c.ny l] 24).ext hxwa
    have E0 : Ext w wa := ((Ext.refl w).alloc _).trans hxwa
    have b00 := A0.at 0 _ rfl
    have b10 := A0.at 1 _ rfl
    have bn0 := A0.lt
    go_wp2_with fail
    refine (large_any a b k l c _).mono ?_
    rw [LG.out]
    rintro e w1 ⟨rfl, hx1⟩
    have A1 := A0.ext hx1
    have E1 := E0.trans hx1
    have b01 := A1.at 0 _ rfl
    have b11 := A1.at 1 _ rfl
    have bn1 := A1.lt
    go_wp2_with fail
    refine (scale_bad a b k l c a1 _ (by have := RR.out; omega) (HX.out.ext E1) (HY.out.ext E1) LX.out LY.out).mono ?_
    rw [HE.out, ← RR.out]
    rintro e w2 ⟨rfl, hx2⟩
    have A2 := A1.ext hx2
    have E2 := E1.trans hx2
    have b02 := A2.at 0 _ rfl
    have b12 := A2.at 1 _ rfl
    have bn2 := A2.lt
    have S0 := Blk.new w2 [.slice none 0 0, .slice none 0 0] 24
    have F0 := E2.alloc (.cells #[.slice none 0 0, .slice none 0 0] 24)
    have G0 := (Ext.refl w2).alloc (.cells #[.slice none 0 0, .slice none 0 0] 24)
    have AA0 := A2.alloc (.cells #[.slice none 0 0, .slice none 0 0] 24)
    go_wp2_with fail
    refine (check09 a b k l c _ (HX.out.ext F0) (HY.out.ext F0) LX.out LY.out).mono ?_
    rw [← RR.out]
    rintro e v1 ⟨rfl, gx1⟩
    have S1 := (S0.ext gx1).alloc (.cells #[.slice none 0 0, .slice none 0 0] 24)
    have F1 := (F0.trans gx1).alloc (.cells #[.slice none 0 0, .slice none 0 0] 24)
    have G1 := (G0.trans gx1).alloc (.cells #[.slice none 0 0, .slice none 0 0] 24)
    have AA1 := (AA0.ext gx1).alloc (.cells #[.slice none 0 0, .slice none 0 0] 24)
    have Z1 := Blk.new v1 [.slice none 0 0, .slice none 0 0] 24
    have k0 := (AA0.ext gx1).at 0 _ rfl
    have k1 := (AA0.ext gx1).at 1 _ rfl
    have kl := (AA0.ext gx1).lt
    clear b02 b12 bn2
    clear b00 b10 bn0
    clear b01 b11 bn1
    have S2 := S1
    have F2 := F1
    have G2 := G1
    have AA2 := AA1
    have ss0 := (S0.ext gx1).at 0 _ rfl
    have ss1 := (S0.ext gx1).at 1 _ rfl
    have sl := (S0.ext gx1).lt
    go_wp2_with fail
    refine (num_err r _).mono ?_
    rintro e w9 ⟨rfl, rfl⟩
    go_wp2_with fail
    refine (same_any none none none none 0 0 0 0 0 0 (fun _ => 0) (fun _ => 0) _ (fun h => absurd h (by omega)) (fun h => absurd h (by omega)) (fun h => absurd h (by omega)) (fun h => absurd h (by omega)) (by omega) (by omega)).mono ?_
    rintro e u9 ⟨rfl, gx9⟩
    go_wp2_with fail
    go_ret
    exact ⟨(by first | rfl | exact ret_true (by simp <;> omega)), (by repeat (first | with_reducible exact Ext.refl _ | with_reducible assumption | (with_reducible refine Ext.drew ?_) | (with_reducible refine Ext.drewN ?_ _) | (with_reducible refine Ext.alloc ?_ _) | (with_reducible refine Ext.setCell ?_ ?_ _) | (with_reducible refine Ext.trans ?_ (by with_reducible assumption)) | omega | (focus (simp <;> omega))))⟩

theorem walk (u0 : Cu) (a1 : Int) (b1 : I64 a1) (w : World) (hu0 : CuAt w u0) :
    Calls Try.prog 11 #[.agg #[.slice u0.a u0.v.nx u0.k, .slice u0.b u0.v.ny u0.l], .int .i64 a1] w fun e w' => e = .returned (.bool true) ∧ Ext w w' := by
  obtain ⟨a, b, k, l, c⟩ := u0
  obtain ⟨hx, hy, ix, iy, lx, ly⟩ := hu0
  dsimp only at hx hy ix iy lx ly ⊢
  cases hl : lg c
  · by_cases hc : Pl.chk c = 0
    · have sm := (Pl.good_of c hc).same
      rw [← sm] at hy ⊢
      exact walk_ok a b k l c a1 b1 w hl hc hx hy lx
    · exact walk_bad a b k l c a1 b1 w hl hc hx hy lx ly
  · exact walk_big a b k l c a1 b1 w hl

theorem own : ownKnob Try.prog.godebug = none := by kernel_rfl
theorem laidOut : laidOutB Try.prog = true := by kernel_rfl

/-- The row's step: the walk's end is what the row asks. -/
theorem lifted (os : Os) (started : os.Started) (H : Type) (enc : TypeId × Value → H) :
    ReturnsInHanded {} Try.checked os 11 .any (Rows.curveScalesSpec.pre6 enc Try.prog Try.f11 Rows.curveScalesRow.domain false) (Rows.curveScalesSpec.post enc Try.prog Try.f11 false true false false) := by
  refine returnsInHanded_of_change (C := Try.checked) own started (by kernel_rfl) Try.func11
    (ChangeSpec.witness6 (enc := enc) (C := Try.checked) false ⟨#[], #[.agg #[.slice none 0 0, .slice none 0 0], .int .i64 0], []⟩ 8 (by kernel_rfl) (by kernel_rfl) (by kernel_rfl) (by kernel_rfl)) ?_
  intro W base args ds gs before hval0 hW hcnd _
  have hval : ∀ (j : Nat) t v, Try.f11.params[j]? = some t → args[j]? = some v → Value.okWide Try.prog W .any base t v := hval0
  have hW' := hW
  obtain ⟨p, q, hA0, hV, rfl, hfz, hnd⟩ := hW
  have hA : DataW.TrodAll enc Try.prog W 0 (fun _ => true) true Try.f11.params.toList args.toList ds p := hA0
  rw [Try.params11] at hA hval
  obtain ⟨v0, vs0, d0, ds0, p0, q0, hargs, rfl, rfl, h0, r0⟩ := trodAll_cons hA
  obtain ⟨v1, vs1, d1, ds1, p1, q1, rfl, rfl, rfl, h1, r1⟩ := trodAll_cons r0
  obtain ⟨rfl, rfl, rfl⟩ := trodAll_nil r1
  obtain rfl : args = #[v0, v1] := by cases args; simp_all
  obtain ⟨rfl, rfl⟩ := trodVars_none hV
  have lt0 : ∀ x ∈ p0, x.block < W.heap.size := by obtain ⟨m, hm⟩ := h0; exact DataW.trod_lt m _ _ _ hm
  obtain ⟨u0, rfl, hu0⟩ := open_crv (hval 0 24 v0 rfl rfl) h0
  have lt1 : ∀ x ∈ p1, x.block < W.heap.size := by obtain ⟨m, hm⟩ := h1; exact DataW.trod_lt m _ _ _ hm
  obtain ⟨a1, rfl, b1⟩ := open_i64 Try.underlying3 (hval 1 3 v1 rfl rfl)
  clear hA0 hval0
  refine (walk u0 a1 b1 W hu0).mono fun e W' ⟨he, bel0⟩ => ?_
  subst he
  have bel : Below W.heap.size W W' := bel0
  exact ⟨_, rfl, _, _, _, [], _, [], hW', trodAll_mk1 (shut_bool Try.underlying4 _), (trodAll_cons_mk (Below.trod laidOut (by kernel_rfl) (of_decide_eq_true (by kernel_rfl)) h0 bel lt0) (trodAll_cons_mk (Below.trod laidOut (by kernel_rfl) (of_decide_eq_true (by kernel_rfl)) h1 bel lt1) trodAll_mk0)), rfl, bel.frame _, fun h => by cases h⟩

theorem over : Rows.curveScalesRow.holds Try.pinned (OpenSpec.ofChange Rows.curveScalesSpec) :=
  OpenClaim.holds_of_wide 11 Try.f11 rfl rfl rfl rfl rfl rfl rfl ⟨rfl, rfl, rfl, rfl, rfl⟩ rfl rfl rfl rfl rfl (by kernel_rfl) Try.func11 (by kernel_rfl)
    (of_decide_eq_true (by kernel_rfl)) (by unfold Func.isWrapper; first | (rw [if_pos (by decide +kernel)]; kernel_rfl) | (rw [if_neg (by decide +kernel)]; exact ⟨rfl, rfl⟩))
    (fun os started H enc _ => lifted os started H enc)

/-- The statement. -/
theorem proved : Rows.CurveScalesSaid := over
#print axioms proved
end Go.Proofs.Ytbeolonbboibfaa.curveScales
