/- CurveOdd: Odd returns the curve through the points and their mirror images, whose values are odd, or the errors as specified.
   Conditions: none: every input. -/
import Derived.Test.YtbeolonbboibfaaAwakeCurve
import Derived.Test.YtbeolonbboibfaaRefOdd
namespace Go.Proofs.Ytbeolonbboibfaa.curveOdd
open Go.ChangeShapes Go.WideShapes Go.ChangeAt Go.RowKit
set_option linter.unusedVariables false

/-- Why Odd refuses. -/
def OErr (n m : Nat) (z1 z2 : Nat → Int) (r : Int) : Prop :=
  (r = 11 ∧ (n ≠ m ∨ n = 0)) ∨ (r = 4 ∧ n = m ∧ 15 < n) ∨ (r = 2 ∧ n = m ∧ 0 < n ∧ n ≤ 15 ∧ ¬ ∀ j, j < n → PtIn (z1 j) (z2 j)) ∨
  (r = Pl.chk (odc n z1 z2) ∧ r ≠ 0 ∧ n = m ∧ 0 < n ∧ n ≤ 15 ∧ ∀ j, j < n → PtIn (z1 j) (z2 j))
theorem OErr.ne {n m : Nat} {z1 z2 : Nat → Int} {r : Int} (h : OErr n m z1 z2 r) : r ≠ 0 := by
  rcases h with h | h | h | h
  · omega
  · omega
  · omega
  · exact h.2.1
theorem oerr_or (n m : Nat) (z1 z2 : Nat → Int) : (∃ r, OErr n m z1 z2 r) ∨ (n = m ∧ 0 < n ∧ n ≤ 15 ∧ (∀ j, j < n → PtIn (z1 j) (z2 j)) ∧ Pl.chk (odc n z1 z2) = 0) := by
  by_cases h1 : n ≠ m ∨ n = 0
  · exact .inl ⟨11, .inl ⟨rfl, h1⟩⟩
  · by_cases h2 : 15 < n
    · exact .inl ⟨4, .inr (.inl ⟨rfl, by omega, h2⟩)⟩
    · by_cases h3 : ∀ j, j < n → PtIn (z1 j) (z2 j)
      · by_cases h4 : Pl.chk (odc n z1 z2) = 0
        · exact .inr ⟨by omega, by omega, by omega, h3, h4⟩
        · exact .inl ⟨_, .inr (.inr (.inr ⟨rfl, h4, by omega, by omega, by omega, h3⟩))⟩
      · exact .inl ⟨2, .inr (.inr (.inl ⟨rfl, by omega, by omega, by omega, h3⟩))⟩
theorem pt_not {x y : Int} (h : ¬ PtIn x y) : x ≤ 0 ∨ y < 0 := by unfold PtIn at h; omega
theorem pt_first {n : Nat} {z1 z2 : Nat → Int} (h : ¬ ∀ j, j < n → PtIn (z1 j) (z2 j)) : ∃ J, J < n ∧ (∀ j, j < J → PtIn (z1 j) (z2 j)) ∧ (z1 J ≤ 0 ∨ z2 J < 0) := by
  have key : ∀ q, (∀ j, j < q → PtIn (z1 j) (z2 j)) ∨ ∃ J, J < q ∧ (∀ j, j < J → PtIn (z1 j) (z2 j)) ∧ ¬ PtIn (z1 J) (z2 J) := by
    intro q
    induction q with
    | zero => exact .inl (fun j hj => by omega)
    | succ q ih =>
      rcases ih with h1 | ⟨J, h1, h2, h3⟩
      · by_cases hz : PtIn (z1 q) (z2 q)
        · refine .inl (fun j hj => ?_)
          by_cases e : j = q
          · rw [e]; exact hz
          · exact h1 j (by omega)
        · exact .inr ⟨q, by omega, h1, hz⟩
      · exact .inr ⟨J, by omega, h2, h3⟩
  rcases key n with h1 | ⟨J, h1, h2, h3⟩
  · exact absurd h1 h
  · exact ⟨J, h1, h2, pt_not h3⟩
theorem pt_last {n : Nat} {z1 z2 : Nat → Int} (h : ¬ ∀ j, j < n → PtIn (z1 j) (z2 j)) : ∃ J, J < n ∧ (∀ j, J < j → j < n → PtIn (z1 j) (z2 j)) ∧ (z1 J ≤ 0 ∨ z2 J < 0) := by
  have key : ∀ q, q ≤ n → (∀ j, n - q ≤ j → j < n → PtIn (z1 j) (z2 j)) ∨ ∃ J, J < n ∧ (∀ j, J < j → j < n → PtIn (z1 j) (z2 j)) ∧ ¬ PtIn (z1 J) (z2 J) := by
    intro q
    induction q with
    | zero => exact fun _ => .inl (fun j hj hj2 => by omega)
    | succ q ih =>
      intro hq
      rcases ih (by omega) with h1 | h1
      · by_cases hz : PtIn (z1 (n - (q + 1))) (z2 (n - (q + 1)))
        · refine .inl (fun j hj hj2 => ?_)
          by_cases e : j = n - (q + 1)
          · rw [e]; exact hz
          · exact h1 j (by omega) hj2
        · exact .inr ⟨n - (q + 1), by omega, fun j hj hj2 => h1 j (by omega) hj2, hz⟩
      · exact .inr h1
  rcases key n (Nat.le_refl _) with h1 | ⟨J, h1, h2, h3⟩
  · exact absurd (fun j hj => h1 j (by omega) hj) h
  · exact ⟨J, h1, h2, pt_not h3⟩
theorem odd_err (a b : Option Addr) (k l n m : Nat) (z1 z2 : Nat → Int) (r : Int) (w : World) (h : OErr n m z1 z2 r) (hx : Row w a n z1) (hy : Row w b m z2) (hi1 : ∀ j, j < n → I64 (z1 j)) (hi2 : ∀ j, j < m → I64 (z2 j)) :
    Calls Try.prog 27 #[.slice a n k, .slice b m l] w fun e w' => e = .returned (.tuple #[.agg #[.slice none 0 0, .slice none 0 0], errv r]) ∧ Ext w w' := by
  rcases h with ⟨rfl, h⟩ | ⟨rfl, rfl, h⟩ | ⟨rfl, rfl, n0, n15, h⟩ | ⟨rfl, hr, rfl, n0, n15, h⟩
  · by_cases e : n = m
    · subst e
      obtain rfl : n = 0 := by omega
      exact odd_nil a b k l w
    · exact odd_len a b k l n m e w
  · exact odd_large a b k l n h w
  · obtain ⟨J, hJ, hg, hb⟩ := pt_first h
    exact odd_form a b k l n z1 z2 w n0 n15 J hJ hg hb hx hy
  · refine (odd_any a b k l n z1 z2 w n0 n15 h hi1 hi2 hx hy).mono fun e w' hz => ?_
    rcases hz with ⟨hc, _⟩ | ⟨_, h1, h2⟩
    · exact absurd hc hr
    · exact ⟨h1, h2⟩
theorem rodd_err (a b : Option Addr) (k l n m : Nat) (z1 z2 : Nat → Int) (r : Int) (w : World) (h : OErr n m z1 z2 r) (hx : Row w a n z1) (hy : Row w b m z2) (hi1 : ∀ j, j < n → I64 (z1 j)) (hi2 : ∀ j, j < m → I64 (z2 j)) :
    Calls Try.prog 28 #[.slice a n k, .slice b m l] w fun e w' => e = .returned (.tuple #[.agg #[.slice none 0 0, .slice none 0 0], .int .i64 r]) ∧ Ext w w' := by
  rcases h with ⟨rfl, h⟩ | ⟨rfl, rfl, h⟩ | ⟨rfl, rfl, n0, n15, h⟩ | ⟨rfl, hr, rfl, n0, n15, h⟩
  · by_cases e : n = m
    · subst e
      obtain rfl : n = 0 := by omega
      exact rodd_nil a b k l w
    · exact rodd_len a b k l n m e w
  · exact rodd_large a b k l n h w
  · obtain ⟨J, hJ, hg, hb⟩ := pt_last h
    exact rodd_form a b k l n z1 z2 w n0 n15 J hJ hg hb hi1 hi2 hx hy
  · refine (rodd_any a b k l n z1 z2 w n0 n15 h hi1 hi2 hx hy).mono fun e w' hz => ?_
    rcases hz with ⟨hc, _⟩ | ⟨_, h1, h2⟩
    · exact absurd hc hr
    · exact ⟨h1, h2⟩
theorem odd_ok (a b : Option Addr) (k l n : Nat) (z1 z2 : Nat → Int) (w : World) (n0 : 0 < n) (n15 : n ≤ 15) (h : ∀ j, j < n → PtIn (z1 j) (z2 j)) (hc : Pl.chk (odc n z1 z2) = 0) (hx : Row w a n z1) (hy : Row w b n z2) (hi1 : ∀ j, j < n → I64 (z1 j)) (hi2 : ∀ j, j < n → I64 (z2 j)) :
    Calls Try.prog 27 #[.slice a n k, .slice b n l] w fun e w' => ∃ a1 k1 a2 k2, e = .returned (.tuple #[.agg #[.slice a1 (n + 1 + n) k1, .slice a2 (n + 1 + n) k2], .nilIface]) ∧ Row w' a1 (n + 1 + n) (Pl.mir n z1) ∧ Row w' a2 (n + 1 + n) (Pl.mir n z2) ∧ Ext w w' := by
  refine (odd_any a b k l n z1 z2 w n0 n15 h hi1 hi2 hx hy).mono fun e w' hz => ?_
  rcases hz with ⟨_, a1, k1, a2, k2, h1, o1, o2, h2⟩ | ⟨hn, _⟩
  · rw [errv_0] at h1
    exact ⟨a1, k1, a2, k2, h1, o1.row, o2.row, h2⟩
  · exact absurd hc hn
theorem rodd_ok (a b : Option Addr) (k l n : Nat) (z1 z2 : Nat → Int) (w : World) (n0 : 0 < n) (n15 : n ≤ 15) (h : ∀ j, j < n → PtIn (z1 j) (z2 j)) (hc : Pl.chk (odc n z1 z2) = 0) (hx : Row w a n z1) (hy : Row w b n z2) (hi1 : ∀ j, j < n → I64 (z1 j)) (hi2 : ∀ j, j < n → I64 (z2 j)) :
    Calls Try.prog 28 #[.slice a n k, .slice b n l] w fun e w' => ∃ a1 k1 a2 k2, e = .returned (.tuple #[.agg #[.slice a1 (n + 1 + n) k1, .slice a2 (n + 1 + n) k2], .int .i64 0]) ∧ Row w' a1 (n + 1 + n) (Pl.mir n z1) ∧ Row w' a2 (n + 1 + n) (Pl.mir n z2) ∧ Ext w w' := by
  refine (rodd_any a b k l n z1 z2 w n0 n15 h hi1 hi2 hx hy).mono fun e w' hz => ?_
  rcases hz with ⟨_, a1, k1, a2, k2, h1, o1, o2, h2⟩ | ⟨hn, _⟩
  · exact ⟨a1, k1, a2, k2, h1, o1.row, o2.row, h2⟩
  · exact absurd hc hn
theorem near09 (x : Int) (w : World) : Calls Try.prog 26 #[.int .i64 x] w fun e w' => e = .returned (.int .i64 (clip x (-2147483648) 2147483648)) ∧ Ext w w' := by
  go_enter Try.func26, Try.ntmps26
  go_wp2_with fail
  refine (clip_any x (-2147483648) 2147483648 _).mono ?_
  rintro e w1 ⟨rfl, rfl⟩
  go_wp2_with fail
  go_ret
  exact ⟨rfl, (by repeat (first | with_reducible exact Ext.refl _ | with_reducible assumption | (with_reducible refine Ext.drew ?_) | (with_reducible refine Ext.drewN ?_ _) | (with_reducible refine Ext.alloc ?_ _) | (with_reducible refine Ext.setCell ?_ ?_ _) | (with_reducible refine Ext.trans ?_ (by with_reducible assumption)) | omega | (focus (simp <;> omega))))⟩


set_option linter.unusedSimpArgs false in
set_option maxRecDepth 100000 in
set_option maxHeartbeats 1000000 in
theorem walk_err (a b : Option Addr) (k l n m : Nat) (z1 z2 : Nat → Int) (a2 : Int) (r : Int) (w : World) (n1 : n ≤ 100) (n2 : m ≤ 100) (h : OErr n m z1 z2 r) (hx : Row w a n z1) (hy : Row w b m z2) (hi1 : ∀ j, j < n → I64 (z1 j)) (hi2 : ∀ j, j < m → I64 (z2 j)) :
    Calls Try.prog 10 #[.slice a n k, .slice b m l, .int .i64 a2] w fun e w' => e = .returned (.bool true) ∧ Ext w w' := by
  have h1 : (n : Int) ≤ 100 := by omega
  have h2 : (m : Int) ≤ 100 := by omega
  have hr := h.ne
  have hr2 : (r != 0) = true := by simpa using hr
  have hr3 : (r == 0) = false := by simpa using hr
  have he : errv r = .iface 51 (.int .i64 r) := by unfold errv; rw [if_neg hr]
  have C1 := Lib.hid (fun V (hV : Ext w V) => odd_err a b k l n m z1 z2 r V h (hx.ext hV) (hy.ext hV) hi1 hi2)
  rw [he] at C1
  have C2 := Lib.hid (fun V (hV : Ext w V) => rodd_err a b k l n m z1 z2 r V h (hx.ext hV) (hy.ext hV) hi1 hi2)
  clear h hx hy hi1 hi2 he
  go_enter Try.func10, Try.ntmps10
  go_wp2_with fail
  refine (awake09 _).mono ?_
  rintro e wa ⟨rfl, hxwa⟩
  go_wp2_with fail
  refine (C1.out _ (by repeat (first | with_reducible exact Ext.refl _ | with_reducible assumption | (with_reducible refine Ext.drew ?_) | (with_reducible refine Ext.drewN ?_ _) | (with_reducible refine Ext.alloc ?_ _) | (with_reducible refine Ext.setCell ?_ ?_ _) | (with_reducible refine Ext.trans ?_ (by with_reducible assumption)) | omega | (focus (simp <;> omega))))).mono ?_
  rintro e v1 ⟨rfl, gx1⟩
  have E1 : Ext w v1 := hxwa.trans gx1
  have S0 := Blk.new v1 [.slice none 0 0, .slice none 0 0] 24
  have F1 := E1.alloc (.cells #[.slice none 0 0, .slice none 0 0] 24)
  go_wp2_with fail
  refine (C2.out _ F1).mono ?_
  rintro e v2 ⟨rfl, gx2⟩
  have F2 := (F1.trans gx2).alloc (.cells #[.slice none 0 0, .slice none 0 0] 24)
  have S2 := S0.ext gx2
  have s0 := S2.at 0 _ rfl
  have s1 := S2.at 1 _ rfl
  have sl := S2.lt
  clear C1 C2
  go_wp2_with fail
  refine (num_err r _).mono ?_
  rintro e w9 ⟨rfl, rfl⟩
  go_wp2_with fail
  refine (same_any none none none none 0 0 0 0 0 0 (fun _ => 0) (fun _ => 0) _ (fun h => absurd h (by omega)) (fun h => absurd h (by omega)) (fun h => absurd h (by omega)) (fun h => absurd h (by omega)) (by omega) (by omega)).mono ?_
  rintro e u9 ⟨rfl, gx9⟩
  have F3 := F2.trans gx9
  go_wp2_with fail
  go_ret
  exact ⟨(by first | rfl | exact ret_true (by simp <;> omega)), F3⟩
set_option linter.unusedSimpArgs false in
set_option maxRecDepth 100000 in
set_option maxHeartbeats 1000000 in
theorem walk_ok (a b : Option Addr) (k l n : Nat) (z1 z2 : Nat → Int) (a2 : Int) (w : World) (n0 : 0 < n) (n15 : n ≤ 15) (h : ∀ j, j < n → PtIn (z1 j) (z2 j)) (hc : Pl.chk (odc n z1 z2) = 0) (hx : Row w a n z1) (hy : Row w b n z2) (hi1 : ∀ j, j < n → I64 (z1 j)) (hi2 : ∀ j, j < n → I64 (z2 j)) :
    Calls Try.prog 10 #[.slice a n k, .slice b n l, .int .i64 a2] w fun e w' => e = .returned (.bool true) ∧ Ext w w' := by
  have h1 : (n : Int) ≤ 100 := by omega
  have C1 := Lib.hid (fun V (hV : Ext w V) => odd_ok a b k l n z1 z2 V n0 n15 h hc (hx.ext hV) (hy.ext hV) hi1 hi2)
  have C2 := Lib.hid (fun V (hV : Ext w V) => rodd_ok a b k l n z1 z2 V n0 n15 h hc (hx.ext hV) (hy.ext hV) hi1 hi2)
  have HC := Lib.hid hc
  have g := Pl.good_of _ hc
  have hm : Pl.Mirror (odc n z1 z2) n := ⟨by show n + 1 + n = 2 * n + 1; omega, fun i hi => Pl.mir_neg n z1 i hi, fun i hi => Pl.mir_neg n z2 i hi⟩
  obtain ⟨q, hq⟩ : ∃ q, q = clip a2 (-2147483648) (2147483648) := ⟨_, rfl⟩
  have ⟨q1, q2⟩ := clip_bd a2 (-2147483648) (2147483648) (by omega)
  rw [← hq] at q1 q2
  have Hq := Lib.hid hq
  clear hq
  have ho := Pl.atv_odd g hm q
  have hb := Pl.atv_in g (-q)
  obtain ⟨y, hy2⟩ : ∃ y, y = Pl.atv (odc n z1 z2) (-q) := ⟨_, rfl⟩
  rw [← hy2] at ho hb
  obtain ⟨hb1, hb2⟩ := hb
  have HY := Lib.hid hy2
  have HO := Lib.hid ho
  have wy : IntKind.i64.wrap (-y) = -y := IntWalk.i64_in _ (by omega)
  have wq : IntKind.i64.wrap (-q) = -q := IntWalk.i64_in _ (by omega)
  clear h hx hy hi1 hi2 hc g hm hy2 ho
  go_enter Try.func10, Try.ntmps10
  go_wp2_with fail
  refine (awake09 _).mono ?_
  rintro e wa ⟨rfl, hxwa⟩
  go_wp2_with fail
  refine (C1.out _ (by repeat (first | with_reducible exact Ext.refl _ | with_reducible assumption | (with_reducible refine Ext.drew ?_) | (with_reducible refine Ext.drewN ?_ _) | (with_reducible refine Ext.alloc ?_ _) | (with_reducible refine Ext.setCell ?_ ?_ _) | (with_reducible refine Ext.trans ?_ (by with_reducible assumption)) | omega | (focus (simp <;> omega))))).mono ?_
  rintro e v1 ⟨s1, q1, s2, q2, rfl, r1, r2, gx1⟩
  have E1 : Ext w v1 := hxwa.trans gx1
  have S0 := Blk.new v1 [.slice s1 (n + 1 + n) q1, .slice s2 (n + 1 + n) q2] 24
  have F1 := E1.alloc (.cells #[.slice s1 (n + 1 + n) q1, .slice s2 (n + 1 + n) q2] 24)
  have G1 := (Ext.refl v1).alloc (.cells #[.slice s1 (n + 1 + n) q1, .slice s2 (n + 1 + n) q2] 24)
  have R1 := Lib.hid r1
  have R2 := Lib.hid r2
  clear r1 r2 C1
  go_wp2_with fail
  refine (C2.out _ F1).mono ?_
  rintro e v2 ⟨s3, q3, s4, q4, rfl, r3, r4, gx2⟩
  have F2 := (F1.trans gx2).alloc (.cells #[.slice s3 (n + 1 + n) q3, .slice s4 (n + 1 + n) q4] 24)
  have G2 := (G1.trans gx2).alloc (.cells #[.slice s3 (n + 1 + n) q3, .slice s4 (n + 1 + n) q4] 24)
  have J2 := (Ext.refl v2).alloc (.cells #[.slice s3 (n + 1 + n) q3, .slice s4 (n + 1 + n) q4] 24)
  have R3 := Lib.hid r3
  have R4 := Lib.hid r4
  have S2 := S0.ext gx2
  have t0 := S2.at 0 _ rfl
  have t1 := S2.at 1 _ rfl
  have tl := S2.lt
  have S3 := S2.alloc (.cells #[.slice s3 (n + 1 + n) q3, .slice s4 (n + 1 + n) q4] 24)
  clear C2 r3 r4
  go_wp2_with fail
  refine (num_nil _).mono ?_
  rintro e w9 ⟨rfl, rfl⟩
  go_wp2_with fail
  refine (same_any s1 s2 s3 s4 (n + 1 + n) (n + 1 + n) q1 q2 q3 q4 (Pl.mir n z1) (Pl.mir n z2) _ (R1.out.ext G2) (R2.out.ext G2) (R3.out.ext J2) (R4.out.ext J2) (by omega) (by omega)).mono ?_
  rintro e v3 ⟨rfl, gx3⟩
  have F3 := F2.trans gx3
  have G3 := G2.trans gx3
  have S4 := S3.ext gx3
  clear t0 t1 tl
  go_wp2_with fail
  refine (near09 a2 _).mono ?_
  rw [← Hq.out]
  rintro e v4 ⟨rfl, gx4⟩
  have F4 := F3.trans gx4
  have G4 := G3.trans gx4
  have S5 := S4.ext gx4
  have t0 := S5.at 0 _ rfl
  have t1 := S5.at 1 _ rfl
  have tl := S5.lt
  go_wp2_with fail
  refine (cAt_ok s1 s2 q1 q2 (odc n z1 z2) q _ HC.out (R1.out.ext G4) (R2.out.ext G4)).mono ?_
  rw [HO.out]
  rintro e v5 ⟨rfl, gx5⟩
  have F5 := F4.trans gx5
  have G5 := G4.trans gx5
  have S6 := S5.ext gx5
  clear t0 t1 tl
  have t0 := S6.at 0 _ rfl
  have t1 := S6.at 1 _ rfl
  have tl := S6.lt
  go_wp2_with fail
  refine (cAt_ok s1 s2 q1 q2 (odc n z1 z2) (-q) _ HC.out (R1.out.ext G5) (R2.out.ext G5)).mono ?_
  rw [← HY.out]
  rintro e v6 ⟨rfl, gx6⟩
  have F6 := F5.trans gx6
  go_wp2_with fail
  go_ret
  exact ⟨(by first | rfl | exact ret_true (by simp <;> omega)), F6⟩
set_option maxRecDepth 100000 in
set_option maxHeartbeats 1000000 in
theorem walk (s u : Sl) (a2 : Int) (b2 : I64 a2) (w : World) (hs : SlAt w s) (hu : SlAt w u) :
    Calls Try.prog 10 #[.slice s.a s.n s.k, .slice u.a u.n u.k, .int .i64 a2] w fun e w' => e = .returned (.bool true) ∧ Ext w w' := by
  obtain ⟨a, n, k, z1⟩ := s
  obtain ⟨b, m, l, z2⟩ := u
  obtain ⟨hx, hi1, lx⟩ := hs
  obtain ⟨hy, hi2, ly⟩ := hu
  dsimp only at *
  by_cases n1 : 100 < n
  · have h1 : (100 : Int) < (n : Int) := by omega
    clear hx hy hi1 hi2 lx ly n1
    go_enter Try.func10, Try.ntmps10
    go_wp2_with fail
    refine (awake09 _).mono ?_
    rintro e wa ⟨rfl, hxwa⟩
    go_wp2_with fail
    refine (awake09 _).mono ?_
    rintro e wb ⟨rfl, hxwb⟩
    go_wp2_with fail
    go_ret
    exact ⟨(by first | rfl | exact ret_true (by simp <;> omega)), (by repeat (first | with_reducible exact Ext.refl _ | with_reducible assumption | (with_reducible refine Ext.drew ?_) | (with_reducible refine Ext.drewN ?_ _) | (with_reducible refine Ext.alloc ?_ _) | (with_reducible refine Ext.setCell ?_ ?_ _) | (with_reducible refine Ext.trans ?_ (by with_reducible assumption)) | omega | (focus (simp <;> omega))))⟩
  · by_cases n2 : 100 < m
    · have h1 : (n : Int) ≤ 100 := by omega
      have h2 : (100 : Int) < (m : Int) := by omega
      clear hx hy hi1 hi2 lx ly n1 n2
      go_enter Try.func10, Try.ntmps10
      go_wp2_with fail
      refine (awake09 _).mono ?_
      rintro e wa ⟨rfl, hxwa⟩
      go_wp2_with fail
      refine (awake09 _).mono ?_
      rintro e wb ⟨rfl, hxwb⟩
      go_wp2_with fail
      go_ret
      exact ⟨(by first | rfl | exact ret_true (by simp <;> omega)), (by repeat (first | with_reducible exact Ext.refl _ | with_reducible assumption | (with_reducible refine Ext.drew ?_) | (with_reducible refine Ext.drewN ?_ _) | (with_reducible refine Ext.alloc ?_ _) | (with_reducible refine Ext.setCell ?_ ?_ _) | (with_reducible refine Ext.trans ?_ (by with_reducible assumption)) | omega | (focus (simp <;> omega))))⟩
    · rcases oerr_or n m z1 z2 with ⟨r, hr⟩ | ⟨rfl, n0, n15, hg, hc⟩
      · exact walk_err a b k l n m z1 z2 a2 r w (by omega) (by omega) hr hx hy hi1 hi2
      · exact walk_ok a b k l n z1 z2 a2 w n0 n15 hg hc hx hy hi1 hi2

theorem own : ownKnob Try.prog.godebug = none := by kernel_rfl
theorem laidOut : laidOutB Try.prog = true := by kernel_rfl

/-- The row's step: the walk's end is what the row asks. -/
theorem lifted (os : Os) (started : os.Started) (H : Type) (enc : TypeId × Value → H) :
    ReturnsInHanded {} Try.checked os 10 .any (Rows.curveOddSpec.pre6 enc Try.prog Try.f10 Rows.curveOddRow.domain false) (Rows.curveOddSpec.post enc Try.prog Try.f10 false true false false) := by
  refine returnsInHanded_of_change (C := Try.checked) own started (by kernel_rfl) Try.func10
    (ChangeSpec.witness6 (enc := enc) (C := Try.checked) false ⟨#[], #[.slice none 0 0, .slice none 0 0, .int .i64 0], []⟩ 8 (by kernel_rfl) (by kernel_rfl) (by kernel_rfl) (by kernel_rfl)) ?_
  intro W base args ds gs before hval0 hW hcnd _
  have hval : ∀ (j : Nat) t v, Try.f10.params[j]? = some t → args[j]? = some v → Value.okWide Try.prog W .any base t v := hval0
  have hW' := hW
  obtain ⟨p, q, hA0, hV, rfl, hfz, hnd⟩ := hW
  have hA : DataW.TrodAll enc Try.prog W 0 (fun _ => true) true Try.f10.params.toList args.toList ds p := hA0
  rw [Try.params10] at hA hval
  obtain ⟨v0, vs0, d0, ds0, p0, q0, hargs, rfl, rfl, h0, r0⟩ := trodAll_cons hA
  obtain ⟨v1, vs1, d1, ds1, p1, q1, rfl, rfl, rfl, h1, r1⟩ := trodAll_cons r0
  obtain ⟨v2, vs2, d2, ds2, p2, q2, rfl, rfl, rfl, h2, r2⟩ := trodAll_cons r1
  obtain ⟨rfl, rfl, rfl⟩ := trodAll_nil r2
  obtain rfl : args = #[v0, v1, v2] := by cases args; simp_all
  obtain ⟨rfl, rfl⟩ := trodVars_none hV
  have lt0 : ∀ x ∈ p0, x.block < W.heap.size := by obtain ⟨m, hm⟩ := h0; exact DataW.trod_lt m _ _ _ hm
  obtain ⟨u0, rfl, hu0⟩ : ∃ s : Sl, v0 = .slice s.a s.n s.k ∧ SlAt W s := by
    obtain ⟨fu, hfu⟩ := h0
    obtain ⟨xa, xl, xc, rfl⟩ := okWide_slice Try.underlying22 (hval 0 22 v0 rfl rfl)
    exact open_sl Try.underlying22 Try.underlying3 (by kernel_rfl) hfu
  have lt1 : ∀ x ∈ p1, x.block < W.heap.size := by obtain ⟨m, hm⟩ := h1; exact DataW.trod_lt m _ _ _ hm
  obtain ⟨u1, rfl, hu1⟩ : ∃ s : Sl, v1 = .slice s.a s.n s.k ∧ SlAt W s := by
    obtain ⟨fu, hfu⟩ := h1
    obtain ⟨xa, xl, xc, rfl⟩ := okWide_slice Try.underlying22 (hval 1 22 v1 rfl rfl)
    exact open_sl Try.underlying22 Try.underlying3 (by kernel_rfl) hfu
  have lt2 : ∀ x ∈ p2, x.block < W.heap.size := by obtain ⟨m, hm⟩ := h2; exact DataW.trod_lt m _ _ _ hm
  obtain ⟨a2, rfl, b2⟩ := open_i64 Try.underlying3 (hval 2 3 v2 rfl rfl)
  clear hA0 hval0
  refine (walk u0 u1 a2 b2 W hu0 hu1).mono fun e W' ⟨he, bel0⟩ => ?_
  subst he
  have bel : Below W.heap.size W W' := bel0
  exact ⟨_, rfl, _, _, _, [], _, [], hW', trodAll_mk1 (shut_bool Try.underlying4 _), (trodAll_cons_mk (Below.trod laidOut (by kernel_rfl) (of_decide_eq_true (by kernel_rfl)) h0 bel lt0) (trodAll_cons_mk (Below.trod laidOut (by kernel_rfl) (of_decide_eq_true (by kernel_rfl)) h1 bel lt1) (trodAll_cons_mk (Below.trod laidOut (by kernel_rfl) (of_decide_eq_true (by kernel_rfl)) h2 bel lt2) trodAll_mk0))), rfl, bel.frame _, fun h => by cases h⟩

theorem over : Rows.curveOddRow.holds Try.pinned (OpenSpec.ofChange Rows.curveOddSpec) :=
  OpenClaim.holds_of_wide 10 Try.f10 rfl rfl rfl rfl rfl rfl rfl ⟨rfl, rfl, rfl, rfl, rfl⟩ rfl rfl rfl rfl rfl (by kernel_rfl) Try.func10 (by kernel_rfl)
    (of_decide_eq_true (by kernel_rfl)) (by unfold Func.isWrapper; first | (rw [if_pos (by decide +kernel)]; kernel_rfl) | (rw [if_neg (by decide +kernel)]; exact ⟨rfl, rfl⟩))
    (fun os started H enc _ => lifted os started H enc)

/-- The statement. -/
theorem proved : Rows.CurveOddSaid := over
#print axioms proved
end Go.Proofs.Ytbeolonbboibfaa.curveOdd
