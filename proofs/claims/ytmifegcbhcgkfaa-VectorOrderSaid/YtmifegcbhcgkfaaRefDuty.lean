/- The contracts of the reference of chapter 21 (Link, Period, Volt, Duty), each walked once.
   Conditions: the bounds that each names. -/
import Derived.Test.YtmifegcbhcgkfaaDuty
import Derived.Test.YtmifegcbhcgkfaaRefClarke
namespace Go.Proofs.Ytmifegcbhcgkfaa
open Go.ChangeShapes Go.WideShapes Go.ChangeAt Go.RowKit

theorem link21_t (x : Int) (w : World) (h : LinkOK x) :
    Calls Try.prog 29 #[.int .i64 x] w fun e w' => e = .returned (.bool true) ∧ w = w' := by
  have ⟨h1, h2⟩ := h
  go_enter Try.func29, Try.ntmps29
  go_wp2
  go_ret
  exact ⟨(by first | rfl | exact ret_true (by simp <;> omega)), rfl⟩
theorem link21_f (x : Int) (w : World) (h : ¬ LinkOK x) :
    Calls Try.prog 29 #[.int .i64 x] w fun e w' => e = .returned (.bool false) ∧ w = w' := by
  rcases Int.lt_or_le x (1) with h1 | h1
  · clear h
    go_enter Try.func29, Try.ntmps29
    go_wp2
    go_ret
    exact ⟨rfl, rfl⟩
  · have h3 : decide (x ≤ 1048576) = false := decide_eq_false (fun hh => h ⟨h1, hh⟩)
    have h2 : 1048576 < x := by
      have : ¬ x ≤ 1048576 := fun hh => h ⟨h1, hh⟩
      omega
    clear h
    go_enter Try.func29, Try.ntmps29
    go_wp2
    go_ret
    exact ⟨rfl, rfl⟩

theorem per21_t (x : Int) (w : World) (h : PerOK x) :
    Calls Try.prog 30 #[.int .i64 x] w fun e w' => e = .returned (.bool true) ∧ w = w' := by
  have ⟨h1, h2⟩ := h
  go_enter Try.func30, Try.ntmps30
  go_wp2
  go_ret
  exact ⟨(by first | rfl | exact ret_true (by simp <;> omega)), rfl⟩
theorem per21_f (x : Int) (w : World) (h : ¬ PerOK x) :
    Calls Try.prog 30 #[.int .i64 x] w fun e w' => e = .returned (.bool false) ∧ w = w' := by
  rcases Int.lt_or_le x (64) with h1 | h1
  · clear h
    go_enter Try.func30, Try.ntmps30
    go_wp2
    go_ret
    exact ⟨rfl, rfl⟩
  · have h3 : decide (x ≤ 4096) = false := decide_eq_false (fun hh => h ⟨h1, hh⟩)
    have h2 : 4096 < x := by
      have : ¬ x ≤ 4096 := fun hh => h ⟨h1, hh⟩
      omega
    clear h
    go_enter Try.func30, Try.ntmps30
    go_wp2
    go_ret
    exact ⟨rfl, rfl⟩

theorem volt21_t (x : Int) (w : World) (h : VoltOK x) :
    Calls Try.prog 31 #[.int .i64 x] w fun e w' => e = .returned (.bool true) ∧ w = w' := by
  have ⟨h1, h2⟩ := h
  go_enter Try.func31, Try.ntmps31
  go_wp2
  go_ret
  exact ⟨(by first | rfl | exact ret_true (by simp <;> omega)), rfl⟩
theorem volt21_f (x : Int) (w : World) (h : ¬ VoltOK x) :
    Calls Try.prog 31 #[.int .i64 x] w fun e w' => e = .returned (.bool false) ∧ w = w' := by
  rcases Int.lt_or_le x (-1048576) with h1 | h1
  · clear h
    go_enter Try.func31, Try.ntmps31
    go_wp2
    go_ret
    exact ⟨rfl, rfl⟩
  · have h3 : decide (x ≤ 1048576) = false := decide_eq_false (fun hh => h ⟨h1, hh⟩)
    have h2 : 1048576 < x := by
      have : ¬ x ≤ 1048576 := fun hh => h ⟨h1, hh⟩
      omega
    clear h
    go_enter Try.func31, Try.ntmps31
    go_wp2
    go_ret
    exact ⟨rfl, rfl⟩

theorem duty21_ret {W : World} {n : Nat} {u0 u1 u2 u3 e : Value} {tmps : Array Value} (Z : Blk W n [u0, u1, u2, u3]) (h : tmps[8]? = some (.pointer (some ⟨n, 0, none⟩))) (h9 : tmps[9]? = some e) :
    (results Try.f13 tmps).run Try.prog W = .ok (.tuple #[.agg #[u0, u1, u2, u3], e]) W := by
  have z0 := Z.at 0 _ rfl
  have z1 := Z.at 1 _ rfl
  have z2 := Z.at 2 _ rfl
  have z3 := Z.at 3 _ rfl
  simp [results, Try.results13, go_sem, z0, z1, z2, z3, h, h9]

/-- The three ways of the reference's rounding: what its tests see, and that it comes to the quotient rounded down. -/
theorem q21_cases (a link n : Int) (hl : 1 ≤ link ∧ link ≤ 1048576) (h1 : -1152921504606846976 ≤ a) (h2 : a ≤ 1152921504606846976) (hn : a / (2 * link) = n) :
    (0 ≤ a ∧ a / (2 * link) = n ∧ 0 ≤ n ∧ n ≤ 1152921504606846976) ∨
    (a < 0 ∧ a.tdiv (2 * link) = n ∧ -1152921504606846976 ≤ n ∧ n ≤ 0 ∧ (n * 2 * link != a) = false ∧ -1152921504606846976 ≤ n * 2 * link ∧ n * 2 * link ≤ 0) ∨
    (a < 0 ∧ a.tdiv (2 * link) = n + 1 ∧ -1152921504606846977 ≤ n ∧ n < 0 ∧ ((n + 1) * 2 * link != a) = true ∧ -1152921504606846976 ≤ (n + 1) * 2 * link ∧ (n + 1) * 2 * link ≤ 0) := by
  have hb : 0 < 2 * link := by omega
  rcases Int.lt_or_le a 0 with ha | ha
  · have ⟨f1, f2, f3, f4, f5⟩ := Pl.floor_neg ha hb
    have ⟨g1, g2, g3⟩ := Pl.td_neg (a := a) (d := 2 * link) (by omega) hb
    have g4 : -1152921504606846976 ≤ a.tdiv (2 * link) := by
      have := Int.mul_le_mul_of_nonneg_right (show 1 ≤ 2 * link by omega) (show 0 ≤ -(a.tdiv (2 * link)) by omega)
      rw [Int.one_mul, Int.mul_neg] at this
      omega
    have e : a.tdiv (2 * link) * 2 * link = 2 * link * a.tdiv (2 * link) := by rw [Int.mul_assoc, Int.mul_comm]
    by_cases hr : a.tmod (2 * link) = 0
    · have h := f2 hr
      right; left
      rw [hn] at h
      rw [h] at e f5
      refine ⟨ha, h, by omega, by omega, ?_, by omega, by omega⟩
      rw [e]; simp; omega
    · have h := f1 (by omega)
      right; right
      rw [hn] at h
      have h' : a.tdiv (2 * link) = n + 1 := by omega
      have gz := Int.mul_le_mul_of_nonneg_left g1 (show 0 ≤ 2 * link by omega)
      rw [Int.mul_zero, h'] at gz
      rw [h'] at e f5
      refine ⟨ha, h', by omega, by omega, ?_, by omega, by omega⟩
      rw [e]; simp; omega
  · left
    have g0 := Int.ediv_nonneg ha (show 0 ≤ 2 * link by omega)
    have g4 := Int.ediv_le_self (2 * link) ha
    exact ⟨ha, hn, by omega, by omega⟩

set_option maxRecDepth 100000 in
set_option maxHeartbeats 2000000 in
theorem duty21_ok (x y link period : Int) (w : World) (h : DutyOK x y link period) :
    Calls Try.prog 13 #[.int .i64 x, .int .i64 y, .int .i64 link, .int .i64 period] w fun e w' =>
      e = .returned (.tuple #[dutyOf x y link period, .int .i64 0]) ∧ Ext w w' := by
  obtain ⟨hl, hp, hx, hy⟩ := h
  have ⟨x1, x2⟩ := hx
  have ⟨y1, y2⟩ := hy
  have ⟨l1, l2⟩ := hl
  have ⟨p1, p2⟩ := hp
  have ⟨v1, v2⟩ := Pl.pb_bd x y 1048576 ⟨by omega, by omega⟩ ⟨by omega, by omega⟩
  unfold dutyOf d0 d1 d2 dms
  obtain ⟨v, hv⟩ : ∃ v, v = Pl.pb x y := ⟨_, rfl⟩
  rw [← hv] at v1 v2 ⊢
  have s1 : -8388608 ≤ Pl.ms x v (-x - v) ∧ Pl.ms x v (-x - v) ≤ 8388608 := by unfold Pl.ms; omega
  have q0 := Pl.per_bd period (link + 2 * x - Pl.ms x v (-x - v)) 33554432 ⟨by omega, by omega⟩ ⟨by omega, by omega⟩
  have q1 := Pl.per_bd period (link + 2 * v - Pl.ms x v (-x - v)) 33554432 ⟨by omega, by omega⟩ ⟨by omega, by omega⟩
  have q2 := Pl.per_bd period (link + 2 * (-x - v) - Pl.ms x v (-x - v)) 33554432 ⟨by omega, by omega⟩ ⟨by omega, by omega⟩
  have hms : max x (max v (-x - v)) + min x (min v (-x - v)) = Pl.ms x v (-x - v) := rfl
  obtain ⟨s, hs⟩ : ∃ s, s = Pl.ms x v (-x - v) := ⟨_, rfl⟩
  rw [← hs] at s1 q0 q1 q2 hms ⊢
  obtain ⟨n0, h0⟩ : ∃ n, n = Pl.dn period link x s := ⟨_, rfl⟩
  obtain ⟨n1, h1⟩ : ∃ n, n = Pl.dn period link v s := ⟨_, rfl⟩
  obtain ⟨n2, h2⟩ : ∃ n, n = Pl.dn period link (-x - v) s := ⟨_, rfl⟩
  rw [← h0, ← h1, ← h2]
  obtain ⟨q01, q02⟩ := q0
  obtain ⟨q11, q12⟩ := q1
  obtain ⟨q21, q22⟩ := q2
  obtain ⟨s1, s2⟩ := s1
  have H0 : Hid ((period * (link + 2 * x - s)) / (2 * link) = n0) := Lib.hid (by rw [h0]; rfl)
  have H1 : Hid ((period * (link + 2 * v - s)) / (2 * link) = n1) := Lib.hid (by rw [h1]; rfl)
  have H2 : Hid ((period * (link + 2 * (-x - v) - s)) / (2 * link) = n2) := Lib.hid (by rw [h2]; rfl)
  have HV := Lib.hid hv
  clear h0 h1 h2 hv hs
  have e0 : (max 0 (min n0 period) != n0) = Pl.lm period n0 := rfl
  have e1 : (max 0 (min n1 period) != n1) = Pl.lm period n1 := rfl
  have e2 : (max 0 (min n2 period) != n2) = Pl.lm period n2 := rfl
  unfold Pl.cn
  generalize Pl.lm period n0 = b0 at e0 ⊢
  generalize Pl.lm period n1 = b1 at e1 ⊢
  generalize Pl.lm period n2 = b2 at e2 ⊢
  have E0 := Lib.hid e0
  have E1 := Lib.hid e1
  have E2 := Lib.hid e2
  clear e0 e1 e2
  go_enter Try.func13, Try.ntmps13
  go_wp2_with fail
  refine (link21_t _ _ hl).mono ?_
  rintro e w' ⟨rfl, rfl⟩
  go_wp2_with fail
  refine (per21_t _ _ hp).mono ?_
  rintro e w' ⟨rfl, rfl⟩
  go_wp2_with fail
  refine (volt21_t _ _ hx).mono ?_
  rintro e w' ⟨rfl, rfl⟩
  go_wp2_with fail
  refine (volt21_t _ _ hy).mono ?_
  rintro e w' ⟨rfl, rfl⟩
  go_wp2_with fail
  refine (back19_ok x y _ (volt_in30 hx) (volt_in30 hy)).mono ?_
  unfold phv
  rw [← HV.out]
  rintro e w1 ⟨rfl, hx1⟩
  have A8 := (Blk.new w [.int .i64 0, .int .i64 0, .int .i64 0, .bool false] 27).ext hx1
  have an := A8.lt
  have hms' := hms
  go_wp2_with fail
  go_loopw [58] (fun i wr => DRel w w.heap.size (w1.heap.size + 1) (max 0 (min n0 period)) (max 0 (min n1 period)) (max 0 (min n2 period)) b0 b1 b2 i wr ∧ Blk wr w1.heap.size [.int .i64 x, .int .i64 v, .int .i64 (-x - v)]) (fun i _ => 3 - (intOf i).toNat)
  case atStart =>
    exact ⟨⟨.inl ⟨rfl, Blk.new1 _ _ _ _⟩, (A8.alloc _).alloc _, (by repeat (first | with_reducible exact Ext.refl _ | with_reducible assumption | (with_reducible refine Ext.drew ?_) | (with_reducible refine Ext.drewN ?_ _) | (with_reducible refine Ext.alloc ?_ _) | (with_reducible refine Ext.setCell ?_ ?_ _) | (with_reducible refine Ext.trans ?_ (by with_reducible assumption)) | omega | (focus (simp <;> omega))))⟩, (Blk.new w1 [.int .i64 x, .int .i64 v, .int .i64 (-x - v)] 25).alloc _⟩
  case round =>
    clear A8 hms'
    obtain ⟨⟨hrel, A8, hxr⟩, AV⟩ := hrel
    rcases hrel with ⟨rfl, A⟩ | ⟨rfl, A⟩ | ⟨rfl, A⟩ | ⟨rfl, A⟩
    · have a0 := A.at 0 _ rfl
      have a3 := A.at 3 _ rfl
      have af := A.fr
      have e0 := E0.out
      have v0 := AV.at 0 _ rfl
      have ht := q21_cases (period * (link + 2 * x - s)) link n0 (by omega) (by omega) (by omega) H0.out
      rcases ht with ⟨t1, t2, t3, t4⟩ | ⟨t1, t2, t3, t4, t5, t6, t7⟩ | ⟨t1, t2, t3, t4, t5, t6, t7⟩
      all_goals
        go_wp2_with fail
        go_roundw
        case rel => exact ⟨⟨.inr (.inl ⟨rfl, (A.set 0 _ (by simp)).set 3 _ (by simp)⟩), (A8.far (by omega) _).far (by omega) _, (by repeat (first | with_reducible exact Ext.refl _ | with_reducible assumption | (with_reducible refine Ext.drew ?_) | (with_reducible refine Ext.drewN ?_ _) | (with_reducible refine Ext.alloc ?_ _) | (with_reducible refine Ext.setCell ?_ ?_ _) | (with_reducible refine Ext.trans ?_ (by with_reducible assumption)) | omega | (focus (simp <;> omega))))⟩, (AV.far (by omega) _).far (by omega) _⟩
        case measure => simp [intOf]
    · have a1 := A.at 1 _ rfl
      have a3 := A.at 3 _ rfl
      have af := A.fr
      have e1 := E1.out
      have v1 := AV.at 1 _ rfl
      have ht := q21_cases (period * (link + 2 * v - s)) link n1 (by omega) (by omega) (by omega) H1.out
      cases b0 <;> rcases ht with ⟨t1, t2, t3, t4⟩ | ⟨t1, t2, t3, t4, t5, t6, t7⟩ | ⟨t1, t2, t3, t4, t5, t6, t7⟩
      all_goals
        go_wp2_with fail
        go_roundw
        case rel => exact ⟨⟨.inr (.inr (.inl ⟨rfl, (A.set 1 _ (by simp)).set 3 _ (by simp)⟩)), (A8.far (by omega) _).far (by omega) _, (by repeat (first | with_reducible exact Ext.refl _ | with_reducible assumption | (with_reducible refine Ext.drew ?_) | (with_reducible refine Ext.drewN ?_ _) | (with_reducible refine Ext.alloc ?_ _) | (with_reducible refine Ext.setCell ?_ ?_ _) | (with_reducible refine Ext.trans ?_ (by with_reducible assumption)) | omega | (focus (simp <;> omega))))⟩, (AV.far (by omega) _).far (by omega) _⟩
        case measure => simp [intOf]
    · have a2 := A.at 2 _ rfl
      have a3 := A.at 3 _ rfl
      have af := A.fr
      have e2 := E2.out
      have v2 := AV.at 2 _ rfl
      generalize hb : (b0 || b1) = b at a3 A ⊢
      have ht := q21_cases (period * (link + 2 * (-x - v) - s)) link n2 (by omega) (by omega) (by omega) H2.out
      cases b <;> rcases ht with ⟨t1, t2, t3, t4⟩ | ⟨t1, t2, t3, t4, t5, t6, t7⟩ | ⟨t1, t2, t3, t4, t5, t6, t7⟩
      all_goals
        go_wp2_with fail
        go_roundw
        case rel => exact ⟨⟨.inr (.inr (.inr ⟨rfl, by rw [hb]; exact (A.set 2 _ (by simp)).set 3 _ (by simp)⟩)), (A8.far (by omega) _).far (by omega) _, (by repeat (first | with_reducible exact Ext.refl _ | with_reducible assumption | (with_reducible refine Ext.drew ?_) | (with_reducible refine Ext.drewN ?_ _) | (with_reducible refine Ext.alloc ?_ _) | (with_reducible refine Ext.setCell ?_ ?_ _) | (with_reducible refine Ext.trans ?_ (by with_reducible assumption)) | omega | (focus (simp <;> omega))))⟩, (AV.far (by omega) _).far (by omega) _⟩
        case measure => simp [intOf]
    · have a0 := A.at 0 _ rfl
      have a1 := A.at 1 _ rfl
      have a2 := A.at 2 _ rfl
      have a3 := A.at 3 _ rfl
      have af := A.fr
      have r0 := A8.at 0 _ rfl
      have r1 := A8.at 1 _ rfl
      have r2 := A8.at 2 _ rfl
      have r3 := A8.at 3 _ rfl
      have rf := A8.fr
      go_wp2_with fail
      refine bodyPost_ret (duty21_ret (n := w.heap.size) ((((A8.set 0 _ (by simp)).set 1 _ (by simp)).set 2 _ (by simp)).set 3 _ (by simp)) rfl rfl) rfl ⟨rfl, ?_⟩
      exact (by repeat (first | with_reducible exact Ext.refl _ | with_reducible assumption | (with_reducible refine Ext.drew ?_) | (with_reducible refine Ext.drewN ?_ _) | (with_reducible refine Ext.alloc ?_ _) | (with_reducible refine Ext.setCell ?_ ?_ _) | (with_reducible refine Ext.trans ?_ (by with_reducible assumption)) | omega | (focus (simp <;> omega))))


end Go.Proofs.Ytmifegcbhcgkfaa
