/- The contracts of vector.counts, Volts and Flat, each walked once.
   Conditions: the bounds that each names. -/
import Derived.Test.YtmifegcbhcgkfaaVector
namespace Go.Proofs.Ytmifegcbhcgkfaa
open Go.ChangeShapes Go.WideShapes Go.ChangeAt Go.RowKit

def arr3 (x y z : Int) : Value := .agg #[.int .i64 x, .int .i64 y, .int .i64 z]
def CountOK (c period : Int) : Prop := 0 ≤ c ∧ c ≤ period
def CountsOK (c0 c1 c2 period : Int) : Prop := CountOK c0 period ∧ CountOK c1 period ∧ CountOK c2 period

theorem counts_t (c0 c1 c2 period : Int) (w : World) (h : CountsOK c0 c1 c2 period) :
    Calls Try.prog 35 #[.agg #[.int .i64 c0, .int .i64 c1, .int .i64 c2], .int .i64 period] w fun e w' => e = .returned (.bool true) ∧ Ext w w' := by
  obtain ⟨h0, h1, h2⟩ := h
  go_enter Try.func35, Try.ntmps35
  go_wp2_with fail
  refine (within_t _ _ _ _ h0.1 h0.2).mono ?_
  rintro e w' ⟨rfl, rfl⟩
  go_wp2_with fail
  refine (within_t _ _ _ _ h1.1 h1.2).mono ?_
  rintro e w' ⟨rfl, rfl⟩
  go_wp2_with fail
  refine (within_t _ _ _ _ h2.1 h2.2).mono ?_
  rintro e w' ⟨rfl, rfl⟩
  go_wp2_with fail
  go_ret
  exact ⟨rfl, (by repeat (first | with_reducible exact Ext.refl _ | with_reducible assumption | (with_reducible refine Ext.drew ?_) | (with_reducible refine Ext.drewN ?_ _) | (with_reducible refine Ext.alloc ?_ _) | (with_reducible refine Ext.setCell ?_ ?_ _) | (with_reducible refine Ext.trans ?_ (by with_reducible assumption)) | omega | (focus (simp <;> omega))))⟩
theorem counts_f (c0 c1 c2 period : Int) (w : World) (h : ¬ CountsOK c0 c1 c2 period) :
    Calls Try.prog 35 #[.agg #[.int .i64 c0, .int .i64 c1, .int .i64 c2], .int .i64 period] w fun e w' => e = .returned (.bool false) ∧ Ext w w' := by
  by_cases h0 : CountOK c0 period
  · by_cases h1 : CountOK c1 period
    · have H := Lib.hid (fun h2 : CountOK c2 period => h ⟨h0, h1, h2⟩)
      clear h
      go_enter Try.func35, Try.ntmps35
      go_wp2_with fail
      refine (within_t _ _ _ _ h0.1 h0.2).mono ?_
      rintro e w' ⟨rfl, rfl⟩
      go_wp2_with fail
      refine (within_t _ _ _ _ h1.1 h1.2).mono ?_
      rintro e w' ⟨rfl, rfl⟩
      go_wp2_with fail
      refine (within_f _ _ _ _ H.out).mono ?_
      rintro e w' ⟨rfl, rfl⟩
      go_wp2_with fail
      go_ret
      exact ⟨rfl, (by repeat (first | with_reducible exact Ext.refl _ | with_reducible assumption | (with_reducible refine Ext.drew ?_) | (with_reducible refine Ext.drewN ?_ _) | (with_reducible refine Ext.alloc ?_ _) | (with_reducible refine Ext.setCell ?_ ?_ _) | (with_reducible refine Ext.trans ?_ (by with_reducible assumption)) | omega | (focus (simp <;> omega))))⟩
    · have H := Lib.hid h1
      clear h h1
      go_enter Try.func35, Try.ntmps35
      go_wp2_with fail
      refine (within_t _ _ _ _ h0.1 h0.2).mono ?_
      rintro e w' ⟨rfl, rfl⟩
      go_wp2_with fail
      refine (within_f _ _ _ _ H.out).mono ?_
      rintro e w' ⟨rfl, rfl⟩
      go_wp2_with fail
      go_ret
      exact ⟨rfl, (by repeat (first | with_reducible exact Ext.refl _ | with_reducible assumption | (with_reducible refine Ext.drew ?_) | (with_reducible refine Ext.drewN ?_ _) | (with_reducible refine Ext.alloc ?_ _) | (with_reducible refine Ext.setCell ?_ ?_ _) | (with_reducible refine Ext.trans ?_ (by with_reducible assumption)) | omega | (focus (simp <;> omega))))⟩
  · have H := Lib.hid h0
    clear h h0
    go_enter Try.func35, Try.ntmps35
    go_wp2_with fail
    refine (within_f _ _ _ _ H.out).mono ?_
    rintro e w' ⟨rfl, rfl⟩
    go_wp2_with fail
    go_ret
    exact ⟨rfl, (by repeat (first | with_reducible exact Ext.refl _ | with_reducible assumption | (with_reducible refine Ext.drew ?_) | (with_reducible refine Ext.drewN ?_ _) | (with_reducible refine Ext.alloc ?_ _) | (with_reducible refine Ext.setCell ?_ ?_ _) | (with_reducible refine Ext.trans ?_ (by with_reducible assumption)) | omega | (focus (simp <;> omega))))⟩

/-- What a count makes of the link. -/
def vq (c link period : Int) : Int := (c * link) / period
theorem vq_bd {c link period : Int} (hc : CountOK c period) (hl : LinkOK link) (hp : PerOK period) : 0 ≤ c * link ∧ c * link ≤ 4294967296 ∧ 0 ≤ vq c link period ∧ vq c link period ≤ link := by
  obtain ⟨h1, h2⟩ := hc
  obtain ⟨h3, h4⟩ := hl
  obtain ⟨h5, h6⟩ := hp
  have a := Int.mul_nonneg h1 (show 0 ≤ link by omega)
  have b := Int.mul_le_mul_of_nonneg_right h2 (show 0 ≤ link by omega)
  have c' := Pl.per_bd c link 1048576 ⟨by omega, by omega⟩ ⟨by omega, by omega⟩
  refine ⟨a, by omega, Int.ediv_nonneg a (by omega), ?_⟩
  exact Int.ediv_le_of_le_mul (by omega) (by rw [Int.mul_comm link period]; exact b)

def VoltsOK (c0 c1 c2 link period : Int) : Prop := LinkOK link ∧ PerOK period ∧ CountsOK c0 c1 c2 period

set_option maxRecDepth 100000 in
set_option maxHeartbeats 1000000 in
theorem volts_ok (c0 c1 c2 link period : Int) (w : World) (h : VoltsOK c0 c1 c2 link period) :
    Calls Try.prog 19 #[.agg #[.int .i64 c0, .int .i64 c1, .int .i64 c2], .int .i64 link, .int .i64 period] w fun e w' =>
      e = .returned (.tuple #[.int .i64 (Pl.fa (vq c0 link period) (vq c1 link period) (vq c2 link period)), .int .i64 (Pl.fb (vq c1 link period) (vq c2 link period)), .nilIface]) ∧ Ext w w' := by
  obtain ⟨hl, hp, hc⟩ := h
  have ⟨k1, k2, k3, k4⟩ := vq_bd hc.1 hl hp
  have ⟨m1, m2, m3, m4⟩ := vq_bd hc.2.1 hl hp
  have ⟨n1, n2, n3, n4⟩ := vq_bd hc.2.2 hl hp
  have ⟨l1, l2⟩ := hl
  have ⟨p1, p2⟩ := hp
  have e0 : (c0 * link) / period = vq c0 link period := rfl
  have e1 : (c1 * link) / period = vq c1 link period := rfl
  have e2 : (c2 * link) / period = vq c2 link period := rfl
  generalize vq c0 link period = q0 at *
  generalize vq c1 link period = q1 at *
  generalize vq c2 link period = q2 at *
  have i0 : In30 q0 := ⟨by omega, by omega⟩
  have i1 : In30 q1 := ⟨by omega, by omega⟩
  have i2 : In30 q2 := ⟨by omega, by omega⟩
  have HC := Lib.hid hc
  clear hc
  go_enter Try.func19, Try.ntmps19
  go_wp2_with fail
  refine (isLink_t _ _ hl).mono ?_
  rintro e w' ⟨rfl, rfl⟩
  go_wp2_with fail
  refine (isPeriod_t _ _ hp).mono ?_
  rintro e w' ⟨rfl, rfl⟩
  go_wp2_with fail
  refine (counts_t c0 c1 c2 period _ HC.out).mono ?_
  rintro e w1 ⟨rfl, hx1⟩
  have A := (Arr3.new w (.int .i64 c0) (.int .i64 c1) (.int .i64 c2) 25).ext hx1
  have ⟨a0, a1, a2, af, an⟩ := A
  go_wp2_with fail
  refine wp_loop_rounds 4 ?_
  rw [rounds_succ]
  go_wp2_with fail
  rw [rounds_succ]
  go_wp2_with fail
  rw [rounds_succ]
  go_wp2_with fail
  rw [rounds_succ]
  go_wp2_with fail
  refine (forward_ok q0 q1 q2 _ i0 i1 i2).mono ?_
  rintro e w2 ⟨rfl, hx2⟩
  go_wp2_with fail
  go_ret3
  exact ⟨rfl, (by repeat (first | with_reducible exact Ext.refl _ | with_reducible assumption | (with_reducible refine Ext.drew ?_) | (with_reducible refine Ext.drewN ?_ _) | (with_reducible refine Ext.alloc ?_ _) | (with_reducible refine Ext.setCell ?_ ?_ _) | (with_reducible refine Ext.trans ?_ (by with_reducible assumption)) | omega | (focus (simp <;> omega))))⟩

theorem volts_bad (c0 c1 c2 link period : Int) (w : World) (h : ¬ VoltsOK c0 c1 c2 link period) :
    Calls Try.prog 19 #[.agg #[.int .i64 c0, .int .i64 c1, .int .i64 c2], .int .i64 link, .int .i64 period] w fun e w' =>
      e = .returned (.tuple #[.int .i64 0, .int .i64 0, errv 3]) ∧ Ext w w' := by
  rw [errv_3]
  by_cases hl : LinkOK link
  · by_cases hp : PerOK period
    · have HC := Lib.hid (fun hc : CountsOK c0 c1 c2 period => h ⟨hl, hp, hc⟩)
      clear h
      go_enter Try.func19, Try.ntmps19
      go_wp2_with fail
      refine (isLink_t _ _ hl).mono ?_
      rintro e w' ⟨rfl, rfl⟩
      go_wp2_with fail
      refine (isPeriod_t _ _ hp).mono ?_
      rintro e w' ⟨rfl, rfl⟩
      go_wp2_with fail
      refine (counts_f c0 c1 c2 period _ HC.out).mono ?_
      rintro e w1 ⟨rfl, hx1⟩
      go_wp2_with fail
      go_ret3
      exact ⟨rfl, (by repeat (first | with_reducible exact Ext.refl _ | with_reducible assumption | (with_reducible refine Ext.drew ?_) | (with_reducible refine Ext.drewN ?_ _) | (with_reducible refine Ext.alloc ?_ _) | (with_reducible refine Ext.setCell ?_ ?_ _) | (with_reducible refine Ext.trans ?_ (by with_reducible assumption)) | omega | (focus (simp <;> omega))))⟩
    · have H := Lib.hid hp
      clear h hp
      go_enter Try.func19, Try.ntmps19
      go_wp2_with fail
      refine (isLink_t _ _ hl).mono ?_
      rintro e w' ⟨rfl, rfl⟩
      go_wp2_with fail
      refine (isPeriod_f _ _ H.out).mono ?_
      rintro e w' ⟨rfl, rfl⟩
      go_wp2_with fail
      go_ret3
      exact ⟨rfl, (by repeat (first | with_reducible exact Ext.refl _ | with_reducible assumption | (with_reducible refine Ext.drew ?_) | (with_reducible refine Ext.drewN ?_ _) | (with_reducible refine Ext.alloc ?_ _) | (with_reducible refine Ext.setCell ?_ ?_ _) | (with_reducible refine Ext.trans ?_ (by with_reducible assumption)) | omega | (focus (simp <;> omega))))⟩
  · have H := Lib.hid hl
    clear h hl
    go_enter Try.func19, Try.ntmps19
    go_wp2_with fail
    refine (isLink_f _ _ H.out).mono ?_
    rintro e w' ⟨rfl, rfl⟩
    go_wp2_with fail
    go_ret3
    exact ⟨rfl, (by repeat (first | with_reducible exact Ext.refl _ | with_reducible assumption | (with_reducible refine Ext.drew ?_) | (with_reducible refine Ext.drewN ?_ _) | (with_reducible refine Ext.alloc ?_ _) | (with_reducible refine Ext.setCell ?_ ?_ _) | (with_reducible refine Ext.trans ?_ (by with_reducible assumption)) | omega | (focus (simp <;> omega))))⟩

def FlatOK (c0 c1 c2 period : Int) : Prop := PerOK period ∧ CountsOK c0 c1 c2 period

theorem flat_ret {W : World} {n : Nat} {u0 u1 u2 e : Value} {tmps : Array Value} (Z : Blk W n [u0, u1, u2]) (h : tmps[4]? = some (.pointer (some ⟨n, 0, none⟩))) (h9 : tmps[5]? = some e) :
    (results Try.f21 tmps).run Try.prog W = .ok (.tuple #[.agg #[u0, u1, u2], e]) W := by
  have z0 := Z.at 0 _ rfl
  have z1 := Z.at 1 _ rfl
  have z2 := Z.at 2 _ rfl
  simp [results, Try.results21, go_sem, z0, z1, z2, h, h9]

set_option maxRecDepth 100000 in
set_option maxHeartbeats 1000000 in
theorem flat_ok (c0 c1 c2 period : Int) (w : World) (h : FlatOK c0 c1 c2 period) :
    Calls Try.prog 21 #[.agg #[.int .i64 c0, .int .i64 c1, .int .i64 c2], .int .i64 period] w fun e w' =>
      e = .returned (.tuple #[.agg #[.int .i64 (c0 - Pl.mn3 c0 c1 c2), .int .i64 (c1 - Pl.mn3 c0 c1 c2), .int .i64 (c2 - Pl.mn3 c0 c1 c2)], .nilIface]) ∧ Ext w w' := by
  obtain ⟨hp, hc⟩ := h
  have ⟨k1, k2⟩ := hc.1
  have ⟨m1, m2⟩ := hc.2.1
  have ⟨n1, n2⟩ := hc.2.2
  have ⟨p1, p2⟩ := hp
  have e0 : min c0 (min c1 c2) = Pl.mn3 c0 c1 c2 := rfl
  have ⟨g0, g1, g2, g3⟩ := Pl.mn3_le c0 c1 c2
  have g4 : 0 ≤ Pl.mn3 c0 c1 c2 := by omega
  generalize Pl.mn3 c0 c1 c2 = m at *
  have HC := Lib.hid hc
  clear hc g3
  go_enter Try.func21, Try.ntmps21
  go_wp2_with fail
  refine (isPeriod_t _ _ hp).mono ?_
  rintro e w' ⟨rfl, rfl⟩
  go_wp2_with fail
  refine (counts_t c0 c1 c2 period _ HC.out).mono ?_
  rintro e w1 ⟨rfl, hx1⟩
  have A := ((Blk.new w [.int .i64 c0, .int .i64 c1, .int .i64 c2] 25).alloc (.cells #[.int .i64 0, .int .i64 0, .int .i64 0] 25)).ext hx1
  have B := (Blk.new1 w (.cells #[.int .i64 c0, .int .i64 c1, .int .i64 c2] 25) [.int .i64 0, .int .i64 0, .int .i64 0] 25).ext hx1
  have a0 := A.at 0 _ rfl
  have a1 := A.at 1 _ rfl
  have a2 := A.at 2 _ rfl
  have af := A.fr
  have b0 := B.at 0 _ rfl
  have b1 := B.at 1 _ rfl
  have b2 := B.at 2 _ rfl
  have bf := B.fr
  have bn := B.lt
  go_wp2_with fail
  refine wp_loop_rounds 4 ?_
  rw [rounds_succ]
  go_wp2_with fail
  rw [rounds_succ]
  go_wp2_with fail
  rw [rounds_succ]
  go_wp2_with fail
  rw [rounds_succ]
  go_wp2_with fail
  have Z := (((((B.far (m := w.heap.size) (o := 0) (by omega) (.int .i64 (c0 - m))).far (m := w.heap.size) (o := 1) (by omega) (.int .i64 (c1 - m))).far (m := w.heap.size) (o := 2) (by omega) (.int .i64 (c2 - m))).set 0 (.int .i64 (c0 - m)) (by simp)).set 1 (.int .i64 (c1 - m)) (by simp)).set 2 (.int .i64 (c2 - m)) (by simp)
  refine bodyPost_ret (flat_ret (n := w.heap.size + 1) (u0 := .int .i64 (c0 - m)) (u1 := .int .i64 (c1 - m)) (u2 := .int .i64 (c2 - m)) (e := .nilIface) Z rfl rfl) rfl ⟨rfl, ?_⟩
  exact (by repeat (first | with_reducible exact Ext.refl _ | with_reducible assumption | (with_reducible refine Ext.drew ?_) | (with_reducible refine Ext.drewN ?_ _) | (with_reducible refine Ext.alloc ?_ _) | (with_reducible refine Ext.setCell ?_ ?_ _) | (with_reducible refine Ext.trans ?_ (by with_reducible assumption)) | omega | (focus (simp <;> omega))))

theorem flat_bad (c0 c1 c2 period : Int) (w : World) (h : ¬ FlatOK c0 c1 c2 period) :
    Calls Try.prog 21 #[.agg #[.int .i64 c0, .int .i64 c1, .int .i64 c2], .int .i64 period] w fun e w' =>
      e = .returned (.tuple #[.agg #[.int .i64 0, .int .i64 0, .int .i64 0], errv 3]) ∧ Ext w w' := by
  rw [errv_3]
  by_cases hp : PerOK period
  · have HC := Lib.hid (fun hc : CountsOK c0 c1 c2 period => h ⟨hp, hc⟩)
    clear h
    go_enter Try.func21, Try.ntmps21
    go_wp2_with fail
    refine (isPeriod_t _ _ hp).mono ?_
    rintro e w' ⟨rfl, rfl⟩
    go_wp2_with fail
    refine (counts_f c0 c1 c2 period _ HC.out).mono ?_
    rintro e w1 ⟨rfl, hx1⟩
    have B := (Blk.new1 w (.cells #[.int .i64 c0, .int .i64 c1, .int .i64 c2] 25) [.int .i64 0, .int .i64 0, .int .i64 0] 25).ext hx1
    have b0 := B.at 0 _ rfl
    have b1 := B.at 1 _ rfl
    have b2 := B.at 2 _ rfl
    have bf := B.fr
    have bn := B.lt
    go_wp2_with fail
    refine bodyPost_ret (flat_ret (n := w.heap.size + 1) (((B.set 0 _ (by simp)).set 1 _ (by simp)).set 2 _ (by simp)) rfl rfl) rfl ⟨rfl, ?_⟩
    exact (by repeat (first | with_reducible exact Ext.refl _ | with_reducible assumption | (with_reducible refine Ext.drew ?_) | (with_reducible refine Ext.drewN ?_ _) | (with_reducible refine Ext.alloc ?_ _) | (with_reducible refine Ext.setCell ?_ ?_ _) | (with_reducible refine Ext.trans ?_ (by with_reducible assumption)) | omega | (focus (simp <;> omega))))
  · have H := Lib.hid hp
    clear h hp
    go_enter Try.func21, Try.ntmps21
    go_wp2_with fail
    refine (isPeriod_f _ _ H.out).mono ?_
    rintro e w' ⟨rfl, rfl⟩
    go_wp2_with fail
    go_returns
    exact ⟨rfl, (by repeat (first | with_reducible exact Ext.refl _ | with_reducible assumption | (with_reducible refine Ext.drew ?_) | (with_reducible refine Ext.drewN ?_ _) | (with_reducible refine Ext.alloc ?_ _) | (with_reducible refine Ext.setCell ?_ ?_ _) | (with_reducible refine Ext.trans ?_ (by with_reducible assumption)) | omega | (focus (simp <;> omega))))⟩

end Go.Proofs.Ytmifegcbhcgkfaa
