/- The contracts of the reference of chapter 21 (Inside, counts, Volts, Flat), each walked once.
   Conditions: the bounds that each names. -/
import Derived.Test.YtmifegcbhcgkfaaRefDuty
import Derived.Test.YtmifegcbhcgkfaaVolts
import Derived.Deep.RegionWith
namespace Go.Proofs.Ytmifegcbhcgkfaa
open Go.ChangeShapes Go.WideShapes Go.ChangeAt Go.RowKit

theorem inside21_ok (x y link : Int) (w : World) (hx : VoltOK x) (hy : VoltOK y) (hl : LinkOK link) :
    Calls Try.prog 16 #[.int .i64 x, .int .i64 y, .int .i64 link] w fun e w' => e = .returned (.tuple #[.bool (decide (Pl.sp x y ≤ link)), .int .i64 0]) ∧ Ext w w' := by
  go_enter Try.func16, Try.ntmps16
  go_wp2_with fail
  refine (link21_t _ _ hl).mono ?_
  rintro e w' ⟨rfl, rfl⟩
  go_wp2_with fail
  refine (volt21_t _ _ hx).mono ?_
  rintro e w' ⟨rfl, rfl⟩
  go_wp2_with fail
  refine (volt21_t _ _ hy).mono ?_
  rintro e w' ⟨rfl, rfl⟩
  go_wp2_with fail
  refine (span19_ok x y _ (volt_in30 hx) (volt_in30 hy)).mono ?_
  rintro e w1 ⟨rfl, hx1⟩
  go_wp2_with fail
  go_ret2
  exact ⟨rfl, (by repeat (first | with_reducible exact Ext.refl _ | with_reducible assumption | (with_reducible refine Ext.drew ?_) | (with_reducible refine Ext.drewN ?_ _) | (with_reducible refine Ext.alloc ?_ _) | (with_reducible refine Ext.setCell ?_ ?_ _) | (with_reducible refine Ext.trans ?_ (by with_reducible assumption)) | omega | (focus (simp <;> omega))))⟩
theorem inside21_bad (x y link : Int) (w : World) (h : ¬ (LinkOK link ∧ VoltOK x ∧ VoltOK y)) :
    Calls Try.prog 16 #[.int .i64 x, .int .i64 y, .int .i64 link] w fun e w' => e = .returned (.tuple #[.bool false, .int .i64 3]) ∧ Ext w w' := by
  by_cases hl : LinkOK link
  · by_cases hx : VoltOK x
    · have H := Lib.hid (fun hy : VoltOK y => h ⟨hl, hx, hy⟩)
      clear h
      go_enter Try.func16, Try.ntmps16
      go_wp2_with fail
      refine (link21_t _ _ hl).mono ?_
      rintro e w' ⟨rfl, rfl⟩
      go_wp2_with fail
      refine (volt21_t _ _ hx).mono ?_
      rintro e w' ⟨rfl, rfl⟩
      go_wp2_with fail
      refine (volt21_f _ _ H.out).mono ?_
      rintro e w' ⟨rfl, rfl⟩
      go_wp2_with fail
      go_ret2
      exact ⟨rfl, (by repeat (first | with_reducible exact Ext.refl _ | with_reducible assumption | (with_reducible refine Ext.drew ?_) | (with_reducible refine Ext.drewN ?_ _) | (with_reducible refine Ext.alloc ?_ _) | (with_reducible refine Ext.setCell ?_ ?_ _) | (with_reducible refine Ext.trans ?_ (by with_reducible assumption)) | omega | (focus (simp <;> omega))))⟩
    · have H := Lib.hid hx
      clear h hx
      go_enter Try.func16, Try.ntmps16
      go_wp2_with fail
      refine (link21_t _ _ hl).mono ?_
      rintro e w' ⟨rfl, rfl⟩
      go_wp2_with fail
      refine (volt21_f _ _ H.out).mono ?_
      rintro e w' ⟨rfl, rfl⟩
      go_wp2_with fail
      go_ret2
      exact ⟨rfl, (by repeat (first | with_reducible exact Ext.refl _ | with_reducible assumption | (with_reducible refine Ext.drew ?_) | (with_reducible refine Ext.drewN ?_ _) | (with_reducible refine Ext.alloc ?_ _) | (with_reducible refine Ext.setCell ?_ ?_ _) | (with_reducible refine Ext.trans ?_ (by with_reducible assumption)) | omega | (focus (simp <;> omega))))⟩
  · have H := Lib.hid hl
    clear h hl
    go_enter Try.func16, Try.ntmps16
    go_wp2_with fail
    refine (link21_f _ _ H.out).mono ?_
    rintro e w' ⟨rfl, rfl⟩
    go_wp2_with fail
    go_ret2
    exact ⟨rfl, (by repeat (first | with_reducible exact Ext.refl _ | with_reducible assumption | (with_reducible refine Ext.drew ?_) | (with_reducible refine Ext.drewN ?_ _) | (with_reducible refine Ext.alloc ?_ _) | (with_reducible refine Ext.setCell ?_ ?_ _) | (with_reducible refine Ext.trans ?_ (by with_reducible assumption)) | omega | (focus (simp <;> omega))))⟩

theorem counts21_t (c0 c1 c2 period : Int) (w : World) (h : CountsOK c0 c1 c2 period) :
    Calls Try.prog 37 #[.agg #[.int .i64 c0, .int .i64 c1, .int .i64 c2], .int .i64 period] w fun e w' => e = .returned (.bool true) ∧ Ext w w' := by
  obtain ⟨⟨h1, h2⟩, ⟨h3, h4⟩, h5, h6⟩ := h
  have g1 : 0 ≤ min c0 (min c1 c2) := by omega
  have g2 : max c0 (max c1 c2) ≤ period := by omega
  go_enter Try.func37, Try.ntmps37
  go_wp2
  go_ret
  exact ⟨(by first | rfl | exact ret_true (by simp <;> omega)), (by repeat (first | with_reducible exact Ext.refl _ | with_reducible assumption | (with_reducible refine Ext.drew ?_) | (with_reducible refine Ext.drewN ?_ _) | (with_reducible refine Ext.alloc ?_ _) | (with_reducible refine Ext.setCell ?_ ?_ _) | (with_reducible refine Ext.trans ?_ (by with_reducible assumption)) | omega | (focus (simp <;> omega))))⟩
theorem counts21_f (c0 c1 c2 period : Int) (w : World) (h : ¬ CountsOK c0 c1 c2 period) :
    Calls Try.prog 37 #[.agg #[.int .i64 c0, .int .i64 c1, .int .i64 c2], .int .i64 period] w fun e w' => e = .returned (.bool false) ∧ Ext w w' := by
  rcases Int.lt_or_le (min c0 (min c1 c2)) 0 with g | g
  · clear h
    go_enter Try.func37, Try.ntmps37
    go_wp2
    go_ret
    exact ⟨rfl, (by repeat (first | with_reducible exact Ext.refl _ | with_reducible assumption | (with_reducible refine Ext.drew ?_) | (with_reducible refine Ext.drewN ?_ _) | (with_reducible refine Ext.alloc ?_ _) | (with_reducible refine Ext.setCell ?_ ?_ _) | (with_reducible refine Ext.trans ?_ (by with_reducible assumption)) | omega | (focus (simp <;> omega))))⟩
  · have g2 : period < max c0 (max c1 c2) := by
      rcases Int.lt_or_le period (max c0 (max c1 c2)) with q | q
      · exact q
      · exact absurd ⟨⟨by omega, by omega⟩, ⟨by omega, by omega⟩, by omega, by omega⟩ h
    have g3 : decide (max c0 (max c1 c2) ≤ period) = false := decide_eq_false (by omega)
    clear h
    go_enter Try.func37, Try.ntmps37
    go_wp2
    go_ret
    exact ⟨rfl, (by repeat (first | with_reducible exact Ext.refl _ | with_reducible assumption | (with_reducible refine Ext.drew ?_) | (with_reducible refine Ext.drewN ?_ _) | (with_reducible refine Ext.alloc ?_ _) | (with_reducible refine Ext.setCell ?_ ?_ _) | (with_reducible refine Ext.trans ?_ (by with_reducible assumption)) | omega | (focus (simp <;> omega))))⟩

set_option maxRecDepth 100000 in
set_option maxHeartbeats 1000000 in
theorem volts21_ok (c0 c1 c2 link period : Int) (w : World) (h : VoltsOK c0 c1 c2 link period) :
    Calls Try.prog 20 #[.agg #[.int .i64 c0, .int .i64 c1, .int .i64 c2], .int .i64 link, .int .i64 period] w fun e w' =>
      e = .returned (.tuple #[.int .i64 (Pl.fa (vq c0 link period) (vq c1 link period) (vq c2 link period)), .int .i64 (Pl.fb (vq c1 link period) (vq c2 link period)), .int .i64 0]) ∧ Ext w w' := by
  obtain ⟨hl, hp, hc⟩ := h
  have ⟨k1, k2, k3, k4⟩ := vq_bd hc.1 hl hp
  have ⟨m1, m2, m3, m4⟩ := vq_bd hc.2.1 hl hp
  have ⟨n1, n2, n3, n4⟩ := vq_bd hc.2.2 hl hp
  have ⟨l1, l2⟩ := hl
  have ⟨p1, p2⟩ := hp
  have e0 : (c0 * link).tdiv period = vq c0 link period := Int.tdiv_eq_ediv_of_nonneg k1
  have e1 : (c1 * link).tdiv period = vq c1 link period := Int.tdiv_eq_ediv_of_nonneg m1
  have e2 : (c2 * link).tdiv period = vq c2 link period := Int.tdiv_eq_ediv_of_nonneg n1
  have e0' : (c0 * link) / period = vq c0 link period := rfl
  have e1' : (c1 * link) / period = vq c1 link period := rfl
  have e2' : (c2 * link) / period = vq c2 link period := rfl
  generalize vq c0 link period = q0 at *
  generalize vq c1 link period = q1 at *
  generalize vq c2 link period = q2 at *
  have i0 : In30 q0 := ⟨by omega, by omega⟩
  have i1 : In30 q1 := ⟨by omega, by omega⟩
  have i2 : In30 q2 := ⟨by omega, by omega⟩
  have w0 : IntKind.i64.wrap (c0 * link) = c0 * link := IntWalk.i64_in _ (by omega)
  have w1 : IntKind.i64.wrap (c1 * link) = c1 * link := IntWalk.i64_in _ (by omega)
  have w2 : IntKind.i64.wrap (c2 * link) = c2 * link := IntWalk.i64_in _ (by omega)
  have w3 : IntKind.i64.wrap q0 = q0 := IntWalk.i64_in _ (by omega)
  have w4 : IntKind.i64.wrap q1 = q1 := IntWalk.i64_in _ (by omega)
  have w5 : IntKind.i64.wrap q2 = q2 := IntWalk.i64_in _ (by omega)
  have hp0 : ¬ period = 0 := by omega
  have HC := Lib.hid hc
  clear hc
  go_enter Try.func20, Try.ntmps20
  go_wp2_with fail
  refine (link21_t _ _ hl).mono ?_
  rintro e w' ⟨rfl, rfl⟩
  go_wp2_with fail
  refine (per21_t _ _ hp).mono ?_
  rintro e w' ⟨rfl, rfl⟩
  go_wp2_with fail
  refine (counts21_t c0 c1 c2 period _ HC.out).mono ?_
  rintro e wb ⟨rfl, hxb⟩
  have A := (Arr3.new w (.int .i64 c0) (.int .i64 c1) (.int .i64 c2) 25).ext hxb
  have ⟨a0, a1, a2, af, an⟩ := A
  go_wp2_with fail
  go_region_with (go_at_call 38; refine (forward19_ok q0 q1 q2 _ i0 i1 i2).mono ?_; rintro e wc ⟨rfl, hxc⟩)
  all_goals
    go_wp2_with fail
    go_ret3
    exact ⟨rfl, (by repeat (first | with_reducible exact Ext.refl _ | with_reducible assumption | (with_reducible refine Ext.drew ?_) | (with_reducible refine Ext.drewN ?_ _) | (with_reducible refine Ext.alloc ?_ _) | (with_reducible refine Ext.setCell ?_ ?_ _) | (with_reducible refine Ext.trans ?_ (by with_reducible assumption)) | omega | (focus (simp <;> omega))))⟩

theorem volts21_bad (c0 c1 c2 link period : Int) (w : World) (h : ¬ VoltsOK c0 c1 c2 link period) :
    Calls Try.prog 20 #[.agg #[.int .i64 c0, .int .i64 c1, .int .i64 c2], .int .i64 link, .int .i64 period] w fun e w' =>
      e = .returned (.tuple #[.int .i64 0, .int .i64 0, .int .i64 3]) ∧ Ext w w' := by
  by_cases hl : LinkOK link
  · by_cases hp : PerOK period
    · have HC := Lib.hid (fun hc : CountsOK c0 c1 c2 period => h ⟨hl, hp, hc⟩)
      clear h
      go_enter Try.func20, Try.ntmps20
      go_wp2_with fail
      refine (link21_t _ _ hl).mono ?_
      rintro e w' ⟨rfl, rfl⟩
      go_wp2_with fail
      refine (per21_t _ _ hp).mono ?_
      rintro e w' ⟨rfl, rfl⟩
      go_wp2_with fail
      refine (counts21_f c0 c1 c2 period _ HC.out).mono ?_
      rintro e w1 ⟨rfl, hx1⟩
      go_wp2_with fail
      go_ret3
      exact ⟨rfl, (by repeat (first | with_reducible exact Ext.refl _ | with_reducible assumption | (with_reducible refine Ext.drew ?_) | (with_reducible refine Ext.drewN ?_ _) | (with_reducible refine Ext.alloc ?_ _) | (with_reducible refine Ext.setCell ?_ ?_ _) | (with_reducible refine Ext.trans ?_ (by with_reducible assumption)) | omega | (focus (simp <;> omega))))⟩
    · have H := Lib.hid hp
      clear h hp
      go_enter Try.func20, Try.ntmps20
      go_wp2_with fail
      refine (link21_t _ _ hl).mono ?_
      rintro e w' ⟨rfl, rfl⟩
      go_wp2_with fail
      refine (per21_f _ _ H.out).mono ?_
      rintro e w' ⟨rfl, rfl⟩
      go_wp2_with fail
      go_ret3
      exact ⟨rfl, (by repeat (first | with_reducible exact Ext.refl _ | with_reducible assumption | (with_reducible refine Ext.drew ?_) | (with_reducible refine Ext.drewN ?_ _) | (with_reducible refine Ext.alloc ?_ _) | (with_reducible refine Ext.setCell ?_ ?_ _) | (with_reducible refine Ext.trans ?_ (by with_reducible assumption)) | omega | (focus (simp <;> omega))))⟩
  · have H := Lib.hid hl
    clear h hl
    go_enter Try.func20, Try.ntmps20
    go_wp2_with fail
    refine (link21_f _ _ H.out).mono ?_
    rintro e w' ⟨rfl, rfl⟩
    go_wp2_with fail
    go_ret3
    exact ⟨rfl, (by repeat (first | with_reducible exact Ext.refl _ | with_reducible assumption | (with_reducible refine Ext.drew ?_) | (with_reducible refine Ext.drewN ?_ _) | (with_reducible refine Ext.alloc ?_ _) | (with_reducible refine Ext.setCell ?_ ?_ _) | (with_reducible refine Ext.trans ?_ (by with_reducible assumption)) | omega | (focus (simp <;> omega))))⟩

theorem flat21_ret {W : World} {n : Nat} {u0 u1 u2 e : Value} {tmps : Array Value} (Z : Blk W n [u0, u1, u2]) (h : tmps[4]? = some (.pointer (some ⟨n, 0, none⟩))) (h9 : tmps[5]? = some e) :
    (results Try.f22 tmps).run Try.prog W = .ok (.tuple #[.agg #[u0, u1, u2], e]) W := by
  have z0 := Z.at 0 _ rfl
  have z1 := Z.at 1 _ rfl
  have z2 := Z.at 2 _ rfl
  simp [results, Try.results22, go_sem, z0, z1, z2, h, h9]

theorem flat21_ok (c0 c1 c2 period : Int) (w : World) (h : FlatOK c0 c1 c2 period) :
    Calls Try.prog 22 #[.agg #[.int .i64 c0, .int .i64 c1, .int .i64 c2], .int .i64 period] w fun e w' =>
      e = .returned (.tuple #[.agg #[.int .i64 (c0 - Pl.mn3 c0 c1 c2), .int .i64 (c1 - Pl.mn3 c0 c1 c2), .int .i64 (c2 - Pl.mn3 c0 c1 c2)], .int .i64 0]) ∧ Ext w w' := by
  obtain ⟨hp, hc⟩ := h
  have ⟨k1, k2⟩ := hc.1
  have ⟨m1, m2⟩ := hc.2.1
  have ⟨n1, n2⟩ := hc.2.2
  have ⟨p1, p2⟩ := hp
  have e0 : min c0 (min c1 c2) = Pl.mn3 c0 c1 c2 := rfl
  have ⟨g0, g1, g2, g3⟩ := Pl.mn3_le c0 c1 c2
  have g4 : 0 ≤ Pl.mn3 c0 c1 c2 := by omega
  generalize Pl.mn3 c0 c1 c2 = m at *
  have HC := Lib.hid hc
  clear hc g3
  go_enter Try.func22, Try.ntmps22
  go_wp2_with fail
  refine (per21_t _ _ hp).mono ?_
  rintro e w' ⟨rfl, rfl⟩
  go_wp2_with fail
  refine (counts21_t c0 c1 c2 period _ HC.out).mono ?_
  rintro e w1 ⟨rfl, hx1⟩
  have A := ((Blk.new w [.int .i64 c0, .int .i64 c1, .int .i64 c2] 25).alloc (.cells #[.int .i64 0, .int .i64 0, .int .i64 0] 25)).ext hx1
  have B := (Blk.new1 w (.cells #[.int .i64 c0, .int .i64 c1, .int .i64 c2] 25) [.int .i64 0, .int .i64 0, .int .i64 0] 25).ext hx1
  have a0 := A.at 0 _ rfl
  have a1 := A.at 1 _ rfl
  have a2 := A.at 2 _ rfl
  have b0 := B.at 0 _ rfl
  have b1 := B.at 1 _ rfl
  have b2 := B.at 2 _ rfl
  have bf := B.fr
  have bn := B.lt
  go_wp2_with fail
  refine bodyPost_ret (flat21_ret (n := w.heap.size + 1) (((B.set 0 _ (by simp)).set 1 _ (by simp)).set 2 _ (by simp)) rfl rfl) rfl ⟨rfl, ?_⟩
  exact (by repeat (first | with_reducible exact Ext.refl _ | with_reducible assumption | (with_reducible refine Ext.drew ?_) | (with_reducible refine Ext.drewN ?_ _) | (with_reducible refine Ext.alloc ?_ _) | (with_reducible refine Ext.setCell ?_ ?_ _) | (with_reducible refine Ext.trans ?_ (by with_reducible assumption)) | omega | (focus (simp <;> omega))))

theorem flat21_bad (c0 c1 c2 period : Int) (w : World) (h : ¬ FlatOK c0 c1 c2 period) :
    Calls Try.prog 22 #[.agg #[.int .i64 c0, .int .i64 c1, .int .i64 c2], .int .i64 period] w fun e w' =>
      e = .returned (.tuple #[.agg #[.int .i64 0, .int .i64 0, .int .i64 0], .int .i64 3]) ∧ Ext w w' := by
  by_cases hp : PerOK period
  · have HC := Lib.hid (fun hc : CountsOK c0 c1 c2 period => h ⟨hp, hc⟩)
    clear h
    go_enter Try.func22, Try.ntmps22
    go_wp2_with fail
    refine (per21_t _ _ hp).mono ?_
    rintro e w' ⟨rfl, rfl⟩
    go_wp2_with fail
    refine (counts21_f c0 c1 c2 period _ HC.out).mono ?_
    rintro e w1 ⟨rfl, hx1⟩
    have B := (Blk.new1 w (.cells #[.int .i64 c0, .int .i64 c1, .int .i64 c2] 25) [.int .i64 0, .int .i64 0, .int .i64 0] 25).ext hx1
    have b0 := B.at 0 _ rfl
    have b1 := B.at 1 _ rfl
    have b2 := B.at 2 _ rfl
    have bf := B.fr
    have bn := B.lt
    go_wp2_with fail
    refine bodyPost_ret (flat21_ret (n := w.heap.size + 1) (((B.set 0 _ (by simp)).set 1 _ (by simp)).set 2 _ (by simp)) rfl rfl) rfl ⟨rfl, ?_⟩
    exact (by repeat (first | with_reducible exact Ext.refl _ | with_reducible assumption | (with_reducible refine Ext.drew ?_) | (with_reducible refine Ext.drewN ?_ _) | (with_reducible refine Ext.alloc ?_ _) | (with_reducible refine Ext.setCell ?_ ?_ _) | (with_reducible refine Ext.trans ?_ (by with_reducible assumption)) | omega | (focus (simp <;> omega))))
  · have H := Lib.hid hp
    clear h hp
    go_enter Try.func22, Try.ntmps22
    go_wp2_with fail
    refine (per21_f _ _ H.out).mono ?_
    rintro e w' ⟨rfl, rfl⟩
    go_wp2_with fail
    go_returns
    exact ⟨rfl, (by repeat (first | with_reducible exact Ext.refl _ | with_reducible assumption | (with_reducible refine Ext.drew ?_) | (with_reducible refine Ext.drewN ?_ _) | (with_reducible refine Ext.alloc ?_ _) | (with_reducible refine Ext.setCell ?_ ?_ _) | (with_reducible refine Ext.trans ?_ (by with_reducible assumption)) | omega | (focus (simp <;> omega))))⟩

end Go.Proofs.Ytmifegcbhcgkfaa
