/- The contract of vector.Duty, walked.
   Conditions: the bounds that it names. -/
import Derived.Test.YtfignlcplkihpaaDuty
namespace Go.Proofs.Ytfignlcplkihpaa
open Go.ChangeShapes Go.WideShapes Go.ChangeAt Go.RowKit

set_option maxRecDepth 100000 in
set_option maxHeartbeats 2000000 in
theorem duty_ok (x y link period : Int) (w : World) (h : DutyOK x y link period) :
    Calls Try.prog 9 #[.int .i64 x, .int .i64 y, .int .i64 link, .int .i64 period] w fun e w' =>
      e = .returned (.tuple #[dutyOf x y link period, .nilIface]) ∧ Ext w w' := by
  obtain ⟨hl, hp, hx, hy⟩ := h
  have ⟨x1, x2⟩ := hx
  have ⟨y1, y2⟩ := hy
  have ⟨l1, l2⟩ := hl
  have ⟨p1, p2⟩ := hp
  have ⟨v1, v2⟩ := Pl.pb_bd x y 1048576 ⟨by omega, by omega⟩ ⟨by omega, by omega⟩
  unfold dutyOf d0 d1 d2 dms
  obtain ⟨v, hv⟩ : ∃ v, v = Pl.pb x y := ⟨_, rfl⟩
  rw [← hv] at v1 v2 ⊢
  have s1 : -8388608 ≤ Pl.ms x v (-x - v) ∧ Pl.ms x v (-x - v) ≤ 8388608 := by unfold Pl.ms; omega
  have q0 := Pl.per_bd period (link + 2 * x - Pl.ms x v (-x - v)) 33554432 ⟨by omega, by omega⟩ ⟨by omega, by omega⟩
  have q1 := Pl.per_bd period (link + 2 * v - Pl.ms x v (-x - v)) 33554432 ⟨by omega, by omega⟩ ⟨by omega, by omega⟩
  have q2 := Pl.per_bd period (link + 2 * (-x - v) - Pl.ms x v (-x - v)) 33554432 ⟨by omega, by omega⟩ ⟨by omega, by omega⟩
  have hms : max x (max v (-x - v)) + min x (min v (-x - v)) = Pl.ms x v (-x - v) := rfl
  obtain ⟨s, hs⟩ : ∃ s, s = Pl.ms x v (-x - v) := ⟨_, rfl⟩
  rw [← hs] at s1 q0 q1 q2 hms ⊢
  obtain ⟨n0, h0⟩ : ∃ n, n = Pl.dn period link x s := ⟨_, rfl⟩
  obtain ⟨n1, h1⟩ : ∃ n, n = Pl.dn period link v s := ⟨_, rfl⟩
  obtain ⟨n2, h2⟩ : ∃ n, n = Pl.dn period link (-x - v) s := ⟨_, rfl⟩
  rw [← h0, ← h1, ← h2]
  obtain ⟨q01, q02⟩ := q0
  obtain ⟨q11, q12⟩ := q1
  obtain ⟨q21, q22⟩ := q2
  obtain ⟨s1, s2⟩ := s1
  have H0 : Hid ((period * (link + 2 * x - s)) / (2 * link) = n0) := Lib.hid (by rw [h0]; rfl)
  have H1 : Hid ((period * (link + 2 * v - s)) / (2 * link) = n1) := Lib.hid (by rw [h1]; rfl)
  have H2 : Hid ((period * (link + 2 * (-x - v) - s)) / (2 * link) = n2) := Lib.hid (by rw [h2]; rfl)
  have HV := Lib.hid hv
  clear h0 h1 h2 hv hs
  have e0 : (max 0 (min n0 period) != n0) = Pl.lm period n0 := rfl
  have e1 : (max 0 (min n1 period) != n1) = Pl.lm period n1 := rfl
  have e2 : (max 0 (min n2 period) != n2) = Pl.lm period n2 := rfl
  unfold Pl.cn
  generalize Pl.lm period n0 = b0 at e0 ⊢
  generalize Pl.lm period n1 = b1 at e1 ⊢
  generalize Pl.lm period n2 = b2 at e2 ⊢
  have i0 : ∀ w, (Instr.index 38 (.agg #[.int .i64 x, .int .i64 v, .int .i64 (-x - v)]) (.int .i64 0)).run Try.prog w = .ok (.int .i64 x) w := fun _ => by kernel_rfl
  have i1 : ∀ w, (Instr.index 38 (.agg #[.int .i64 x, .int .i64 v, .int .i64 (-x - v)]) (.int .i64 1)).run Try.prog w = .ok (.int .i64 v) w := fun _ => by kernel_rfl
  have i2 : ∀ w, (Instr.index 38 (.agg #[.int .i64 x, .int .i64 v, .int .i64 (-x - v)]) (.int .i64 2)).run Try.prog w = .ok (.int .i64 (-x - v)) w := fun _ => by kernel_rfl
  have E0 := Lib.hid e0
  have E1 := Lib.hid e1
  have E2 := Lib.hid e2
  clear e0 e1 e2
  go_enter Try.func9, Try.ntmps9
  go_wp2_with fail
  refine (isLink_t _ _ hl).mono ?_
  rintro e w' ⟨rfl, rfl⟩
  go_wp2_with fail
  refine (isPeriod_t _ _ hp).mono ?_
  rintro e w' ⟨rfl, rfl⟩
  go_wp2_with fail
  refine (isVector_t _ _ _ hx hy).mono ?_
  rintro e w' ⟨rfl, rfl⟩
  go_wp2_with fail
  refine (back_ok x y _ (volt_in30 hx) (volt_in30 hy)).mono ?_
  unfold phv
  rw [← HV.out]
  rintro e w1 ⟨rfl, hx1⟩
  have A8 := (Blk.new w [.int .i64 0, .int .i64 0, .int .i64 0, .bool false] 40).ext hx1
  have an := A8.lt
  have hms' := hms
  go_wp2_with fail
  go_loopw [60] (fun i wr => DRel w w.heap.size (w1.heap.size + 1) (max 0 (min n0 period)) (max 0 (min n1 period)) (max 0 (min n2 period)) b0 b1 b2 i wr) (fun i _ => 3 - (intOf i).toNat)
  case atStart =>
    exact ⟨.inl ⟨rfl, Blk.new1 _ _ _ _⟩, (A8.alloc _).alloc _, (by repeat (first | with_reducible exact Ext.refl _ | with_reducible assumption | (with_reducible refine Ext.drew ?_) | (with_reducible refine Ext.drewN ?_ _) | (with_reducible refine Ext.alloc ?_ _) | (with_reducible refine Ext.setCell ?_ ?_ _) | (with_reducible refine Ext.trans ?_ (by with_reducible assumption)) | omega | (focus (simp <;> omega))))⟩
  case round =>
    clear A8 hms'
    obtain ⟨hrel, A8, hxr⟩ := hrel
    rcases hrel with ⟨rfl, A⟩ | ⟨rfl, A⟩ | ⟨rfl, A⟩ | ⟨rfl, A⟩
    · have a0 := A.at 0 _ rfl
      have a3 := A.at 3 _ rfl
      have af := A.fr
      have e0 := E0.out
      go_wp2_with fail
      refine (floor_any _ _ _ (by omega) (by omega) (by omega)).mono ?_
      rw [H0.out]
      rintro e w' ⟨rfl, rfl⟩
      go_wp2_with fail
      go_roundw
      case rel => exact ⟨.inr (.inl ⟨rfl, (A.set 0 _ (by simp)).set 3 _ (by simp)⟩), (A8.far (by omega) _).far (by omega) _, (by repeat (first | with_reducible exact Ext.refl _ | with_reducible assumption | (with_reducible refine Ext.drew ?_) | (with_reducible refine Ext.drewN ?_ _) | (with_reducible refine Ext.alloc ?_ _) | (with_reducible refine Ext.setCell ?_ ?_ _) | (with_reducible refine Ext.trans ?_ (by with_reducible assumption)) | omega | (focus (simp <;> omega))))⟩
      case measure => simp [intOf]
    · have a1 := A.at 1 _ rfl
      have a3 := A.at 3 _ rfl
      have af := A.fr
      have e1 := E1.out
      cases b0
      all_goals
        go_wp2_with fail
        refine (floor_any _ _ _ (by omega) (by omega) (by omega)).mono ?_
        rw [H1.out]
        rintro e w' ⟨rfl, rfl⟩
        go_wp2_with fail
        go_roundw
        case rel => exact ⟨.inr (.inr (.inl ⟨rfl, (A.set 1 _ (by simp)).set 3 _ (by simp)⟩)), (A8.far (by omega) _).far (by omega) _, (by repeat (first | with_reducible exact Ext.refl _ | with_reducible assumption | (with_reducible refine Ext.drew ?_) | (with_reducible refine Ext.drewN ?_ _) | (with_reducible refine Ext.alloc ?_ _) | (with_reducible refine Ext.setCell ?_ ?_ _) | (with_reducible refine Ext.trans ?_ (by with_reducible assumption)) | omega | (focus (simp <;> omega))))⟩
        case measure => simp [intOf]
    · have a2 := A.at 2 _ rfl
      have a3 := A.at 3 _ rfl
      have af := A.fr
      have e2 := E2.out
      generalize hb : (b0 || b1) = b at a3 A ⊢
      cases b
      all_goals
        go_wp2_with fail
        refine (floor_any _ _ _ (by omega) (by omega) (by omega)).mono ?_
        rw [H2.out]
        rintro e w' ⟨rfl, rfl⟩
        go_wp2_with fail
        go_roundw
        case rel => exact ⟨.inr (.inr (.inr ⟨rfl, by rw [hb]; exact (A.set 2 _ (by simp)).set 3 _ (by simp)⟩)), (A8.far (by omega) _).far (by omega) _, (by repeat (first | with_reducible exact Ext.refl _ | with_reducible assumption | (with_reducible refine Ext.drew ?_) | (with_reducible refine Ext.drewN ?_ _) | (with_reducible refine Ext.alloc ?_ _) | (with_reducible refine Ext.setCell ?_ ?_ _) | (with_reducible refine Ext.trans ?_ (by with_reducible assumption)) | omega | (focus (simp <;> omega))))⟩
        case measure => simp [intOf]
    · have a0 := A.at 0 _ rfl
      have a1 := A.at 1 _ rfl
      have a2 := A.at 2 _ rfl
      have a3 := A.at 3 _ rfl
      have af := A.fr
      have r0 := A8.at 0 _ rfl
      have r1 := A8.at 1 _ rfl
      have r2 := A8.at 2 _ rfl
      have r3 := A8.at 3 _ rfl
      have rf := A8.fr
      go_wp2_with fail
      refine bodyPost_ret (duty_ret (n := w.heap.size) ((((A8.set 0 _ (by simp)).set 1 _ (by simp)).set 2 _ (by simp)).set 3 _ (by simp)) rfl rfl) rfl ⟨rfl, ?_⟩
      exact (by repeat (first | with_reducible exact Ext.refl _ | with_reducible assumption | (with_reducible refine Ext.drew ?_) | (with_reducible refine Ext.drewN ?_ _) | (with_reducible refine Ext.alloc ?_ _) | (with_reducible refine Ext.setCell ?_ ?_ _) | (with_reducible refine Ext.trans ?_ (by with_reducible assumption)) | omega | (focus (simp <;> omega))))

theorem duty_bad (x y link period : Int) (w : World) (h : ¬ DutyOK x y link period) :
    Calls Try.prog 9 #[.int .i64 x, .int .i64 y, .int .i64 link, .int .i64 period] w fun e w' =>
      e = .returned (.tuple #[.agg #[.int .i64 0, .int .i64 0, .int .i64 0, .bool false], errv 3]) ∧ Ext w w' := by
  rw [errv_3]
  by_cases hl : LinkOK link
  · by_cases hp : PerOK period
    · have H := Lib.hid (fun hv : VoltOK x ∧ VoltOK y => h ⟨hl, hp, hv⟩)
      clear h
      go_enter Try.func9, Try.ntmps9
      go_wp2_with fail
      refine (isLink_t _ _ hl).mono ?_
      rintro e w' ⟨rfl, rfl⟩
      go_wp2_with fail
      refine (isPeriod_t _ _ hp).mono ?_
      rintro e w' ⟨rfl, rfl⟩
      go_wp2_with fail
      refine (isVector_f _ _ _ H.out).mono ?_
      rintro e w' ⟨rfl, rfl⟩
      go_wp2_with fail
      go_returns
      exact ⟨rfl, (by repeat (first | with_reducible exact Ext.refl _ | with_reducible assumption | (with_reducible refine Ext.drew ?_) | (with_reducible refine Ext.drewN ?_ _) | (with_reducible refine Ext.alloc ?_ _) | (with_reducible refine Ext.setCell ?_ ?_ _) | (with_reducible refine Ext.trans ?_ (by with_reducible assumption)) | omega | (focus (simp <;> omega))))⟩
    · have H := Lib.hid hp
      clear h hp
      go_enter Try.func9, Try.ntmps9
      go_wp2_with fail
      refine (isLink_t _ _ hl).mono ?_
      rintro e w' ⟨rfl, rfl⟩
      go_wp2_with fail
      refine (isPeriod_f _ _ H.out).mono ?_
      rintro e w' ⟨rfl, rfl⟩
      go_wp2_with fail
      go_returns
      exact ⟨rfl, (by repeat (first | with_reducible exact Ext.refl _ | with_reducible assumption | (with_reducible refine Ext.drew ?_) | (with_reducible refine Ext.drewN ?_ _) | (with_reducible refine Ext.alloc ?_ _) | (with_reducible refine Ext.setCell ?_ ?_ _) | (with_reducible refine Ext.trans ?_ (by with_reducible assumption)) | omega | (focus (simp <;> omega))))⟩
  · have H := Lib.hid hl
    clear h hl
    go_enter Try.func9, Try.ntmps9
    go_wp2_with fail
    refine (isLink_f _ _ H.out).mono ?_
    rintro e w' ⟨rfl, rfl⟩
    go_wp2_with fail
    go_returns
    exact ⟨rfl, (by repeat (first | with_reducible exact Ext.refl _ | with_reducible assumption | (with_reducible refine Ext.drew ?_) | (with_reducible refine Ext.drewN ?_ _) | (with_reducible refine Ext.alloc ?_ _) | (with_reducible refine Ext.setCell ?_ ?_ _) | (with_reducible refine Ext.trans ?_ (by with_reducible assumption)) | omega | (focus (simp <;> omega))))⟩

end Go.Proofs.Ytfignlcplkihpaa
