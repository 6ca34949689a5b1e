/- The contracts of curve.Inverse and of the reference's, each walked once.
   Conditions: the curve is one that Check accepts, but for the errors. -/
import Derived.Test.YtbeolonbboibfaaRefCurveVal
import Derived.Deep.RegionHeld3
namespace Go.Proofs.Ytbeolonbboibfaa
open Go.ChangeShapes Go.WideShapes Go.ChangeAt Go.RowKit

theorem turn_least {c : Pl.Cv} (g : Pl.Good c) {y : Int} (hy : y ≤ c.y (c.nx - 1)) {m r : Nat} (hm : (m : Int) = c.x (c.nx - 1) - c.x 0) (h : Turn m (fun t => decide (y ≤ Pl.atv c (c.x 0 + t))) r) : Pl.Least c y (c.x 0 + r) := by
  obtain ⟨h1, h2, h3⟩ := h
  refine ⟨by omega, by omega, ?_, ?_⟩
  · rcases Nat.eq_or_lt_of_le h1 with e | e
    · have : c.x 0 + (r : Int) = c.x (c.nx - 1) := by omega
      rw [this, Pl.atv_last g (Int.le_refl _)]; exact hy
    · have := h3 r (Nat.le_refl _) e
      simpa using this
  · intro t t1 t2
    have := h2 (t - c.x 0).toNat (by omega)
    have e : c.x 0 + ((t - c.x 0).toNat : Int) = t := by omega
    simp only [e, decide_eq_false_iff_not] at this
    omega

set_option maxRecDepth 100000 in
set_option maxHeartbeats 1000000 in
theorem inv_closure (B By : Nat) (a b : Option Addr) (k l : Nat) (c : Pl.Cv) (y : Int) (i : Nat) (W : World) (g : Pl.Good c) (hx : Row W a c.nx c.x) (hy : Row W b c.nx c.y) (hB : Blk W B [.slice a c.nx k, .slice b c.nx l]) (hY : Blk W By [.int .i64 y]) (hi : (i : Int) ≤ 2147483648) :
    Calls Try.prog 38 (#[.int .i64 i] ++ #[.pointer (some ⟨B, 0, none⟩), .pointer (some ⟨By, 0, none⟩)]) W fun e w' => e = .returned (.bool (decide (y ≤ Pl.atv c (c.x 0 + i)))) ∧ Ext W w' := by
  have g2 := g.two
  have z0 := g.inx 0 (by omega)
  have HX0 := Lib.hid hx
  have HY0 := Lib.hid hy
  obtain ⟨bx, ox, rfl, hbx, hcx⟩ := hx (by omega)
  have x0c := hcx 0 (by omega)
  rw [Nat.add_zero] at x0c
  have n2 : (2 : Int) ≤ (c.nx : Int) := by omega
  have n0 : (0 : Int) < (c.nx : Int) := by omega
  have n00 : 0 < c.nx := by omega
  have n01 : (c.nx : Int) - 1 < (c.nx : Int) := by omega
  have n02 : (1 : Int) ≤ (c.nx : Int) := by omega
  have n03 : ¬ (c.nx : Int) < 1 := by omega
  have n04 : 1 ≤ c.nx := by omega
  have n05 : ¬ (c.nx : Int) - 1 < 0 := by omega
  have b0 := hB.at 0 _ rfl
  have b1 := hB.at 1 _ rfl
  have c0 := hY.at 0 _ rfl
  have cn := hY.lt
  have e1 : IntKind.i64.wrap (c.x 0 + (i : Int)) = c.x 0 + (i : Int) := IntWalk.i64_in _ (by omega)
  have hv := fun V (hE : Ext W V) => cat_any (some ⟨bx, ox, none⟩) b k l c (c.x 0 + i) V g (HX0.out.ext hE) (HY0.out.ext hE)
  have HBB := Lib.hid hB
  have HV := Lib.hid hv
  have HYB := Lib.hid hY
  clear hv hcx hy hx HX0 HY0 hB hY g
  generalize c.x 0 = x0 at *
  generalize Pl.atv c (x0 + (i : Int)) = v at *
  go_enter Try.func38, Try.ntmps38
  go_wp2_with fail
  go_region_held3 (fun w' => w'.cell? ⟨B, 0, none⟩ = some (.slice (some ⟨bx, ox, none⟩) c.nx k) ∧ w'.cell? ⟨B, 1, none⟩ = some (.slice b c.nx l) ∧ w'.cell? ⟨bx, ox, none⟩ = some (.int .i64 x0) ∧ w'.cell? ⟨By, 0, none⟩ = some (.int .i64 y)) ((refine ⟨?_, ?_, ?_, ?_⟩ <;> assumption))
    (first | (go_at_call 35; refine (HV.out _ ?_).mono ?_; (exact (Ext.refl _).drew); rintro e w1 ⟨rfl, hx1⟩; have hx1' := ((Ext.refl W).drew).trans hx1; have k0 := (HBB.out.ext hx1').at 0 _ rfl; have k1 := (HBB.out.ext hx1').at 1 _ rfl; have k2 := (HYB.out.ext hx1').at 0 _ rfl; have k3 := (hx1'.cell hbx).trans x0c))
  all_goals
    go_wp2_with fail
    go_ret
    exact ⟨rfl, (by repeat (first | with_reducible exact Ext.refl _ | with_reducible assumption | (with_reducible refine Ext.drew ?_) | (with_reducible refine Ext.drewN ?_ _) | (with_reducible refine Ext.alloc ?_ _) | (with_reducible refine Ext.setCell ?_ ?_ _) | (with_reducible refine Ext.trans ?_ (by with_reducible assumption)) | omega | (focus (simp <;> omega))))⟩

set_option maxRecDepth 100000 in
set_option maxHeartbeats 1000000 in
theorem inverse_ok (a b : Option Addr) (k l : Nat) (c : Pl.Cv) (y : Int) (w : World) (h : Pl.chk c = 0) (hx : Row w a c.nx c.x) (hy : Row w b c.nx c.y) (hl : y ≤ c.y (c.nx - 1)) :
    Calls Try.prog 21 #[.agg #[.slice a c.nx k, .slice b c.nx l], .int .i64 y] w fun e w' => ∃ r, Pl.Least c y r ∧ e = .returned (.tuple #[.int .i64 r, .nilIface]) ∧ Ext w w' := by
  have g := Pl.good_of c h
  have g2 := g.two
  have g3 := g.few
  have E0 : Ext w ((w.alloc (.cells #[.slice a c.nx k, .slice b c.nx l] 24)).alloc (.cells #[.int .i64 y] 3)) := ((Ext.refl w).alloc _).alloc _
  have hc := ccheck_eq a b k l c _ g.same (hx.ext E0) (hy.ext E0) (by unfold maxLen; omega)
  rw [h, errv_0] at hc
  have A0 := (Blk.new w [.slice a c.nx k, .slice b c.nx l] 24).alloc (.cells #[.int .i64 y] 3)
  have Y0 := Blk.new1 w (.cells #[.slice a c.nx k, .slice b c.nx l] 24) [.int .i64 y] 3
  have zx0 := g.inx 0 (by omega)
  have zxl := g.inx (c.nx - 1) (by omega)
  have zle := (Pl.up_le g (c.nx - 1) 0 (by omega) (by omega)).1
  obtain ⟨m, hm⟩ : ∃ m : Nat, (m : Int) = c.x (c.nx - 1) - c.x 0 := ⟨(c.x (c.nx - 1) - c.x 0).toNat, by omega⟩
  have HS : Hid (∀ W, Ext ((w.alloc (.cells #[.slice a c.nx k, .slice b c.nx l] 24)).alloc (.cells #[.int .i64 y] 3)) W → Calls Try.prog 37 #[.int .i64 m, .func (.func 38) #[] #[.pointer (some ⟨w.heap.size, 0, none⟩), .pointer (some ⟨w.heap.size + 1, 0, none⟩)]] W fun e w' => ∃ r : Nat, Turn m (fun t => decide (y ≤ Pl.atv c (c.x 0 + t))) r ∧ e = .returned (.int .i64 r) ∧ Ext W w') :=
    Lib.hid (fun W hW => search_any _ _ m (fun t => decide (y ≤ Pl.atv c (c.x 0 + t))) W (Go.Proofs.enters_of Try.func38 (by kernel_rfl) rfl) (by omega)
      (fun W' i hW' hi => inv_closure w.heap.size (w.heap.size + 1) a b k l c y i W' g (hx.ext ((E0.trans hW).trans hW')) (hy.ext ((E0.trans hW).trans hW')) ((A0.ext hW).ext hW') ((Y0.ext hW).ext hW') (by omega))
      (fun i j hij hj hp => by
        have := Pl.atv_mono g (q := c.x 0 + i) (q' := c.x 0 + j) (by omega)
        simp only [decide_eq_true_eq] at hp ⊢
        omega))
  have HT : Hid (∀ r : Nat, Turn m (fun t => decide (y ≤ Pl.atv c (c.x 0 + t))) r → Pl.Least c y (c.x 0 + r) ∧ r ≤ m) := Lib.hid (fun r hr => ⟨turn_least g hl hm hr, hr.1⟩)
  obtain ⟨bx, ox, rfl, hbx, hcx⟩ := hx (by omega)
  obtain ⟨bY, oY, rfl, hby, hcy⟩ := hy (by omega)
  have x0w := hcx 0 (by omega)
  rw [Nat.add_zero] at x0w
  have xlw := hcx (c.nx - 1) (by omega)
  have ylw := hcy (c.nx - 1) (by omega)
  have ⟨ln1, ln2, ln3⟩ := last_facts g2 g3
  have n2 : (2 : Int) ≤ (c.nx : Int) := by omega
  have n0 : (0 : Int) < (c.nx : Int) := by omega
  have n00 : 0 < c.nx := by omega
  have n01 : (c.nx : Int) - 1 < (c.nx : Int) := by omega
  have n02 : (1 : Int) ≤ (c.nx : Int) := by omega
  have n03 : ¬ (c.nx : Int) < 1 := by omega
  have n04 : 1 ≤ c.nx := by omega
  have n05 : ¬ (c.nx : Int) - 1 < 0 := by omega
  have e1 : IntKind.i64.wrap (c.x (c.nx - 1) - c.x 0) = (m : Int) := by rw [hm]; exact IntWalk.i64_in _ (by omega)
  have m1 : (m : Int) ≤ 2147483648 := by omega
  have HC := Lib.hid hc
  have HA := Lib.hid A0
  have HY := Lib.hid Y0
  have HE := Lib.hid E0
  have dl : decide (c.y (c.nx - 1) < y) = false := decide_eq_false (by omega)
  have X0 := Lib.hid x0w
  have XL := Lib.hid xlw
  clear hc hx hy hcx hcy A0 Y0 E0 g h zle hm x0w
  generalize (fun t : Nat => decide (y ≤ Pl.atv c (c.x 0 + t))) = pf at *
  generalize Pl.Least c y = ls at *
  generalize c.x 0 = x0 at *
  generalize c.x (c.nx - 1) = xl at *
  generalize c.y (c.nx - 1) = yl at *
  go_enter Try.func21, Try.ntmps21
  go_wp2_with fail
  refine HC.out.mono ?_
  rintro e w1 ⟨rfl, hx1⟩
  have A1 := HA.out.ext hx1
  have Y1 := HY.out.ext hx1
  have E1 := HE.out.trans hx1
  have a0 := A1.at 0 _ rfl
  have a1 := A1.at 1 _ rfl
  have y0 := Y1.at 0 _ rfl
  have cx0 := (E1.cell hbx).trans X0.out
  have cxl := (E1.cell hbx).trans xlw
  have cyl := (E1.cell hby).trans ylw
  clear xlw ylw
  have hs1 := fun V (hV : Ext w1 V) => HS.out V (hx1.trans hV)
  have HS1 := Lib.hid hs1
  clear hs1 HS
  go_wp2_with fail
  go_quiet (fail)
  go_wp2_with fail
  go_region_held3 (fun w' => w'.cell? ⟨w.heap.size, 0, none⟩ = some (.slice (some ⟨bx, ox, none⟩) c.nx k) ∧ w'.cell? ⟨w.heap.size, 1, none⟩ = some (.slice (some ⟨bY, oY, none⟩) c.nx l) ∧ w'.cell? ⟨bx, ox, none⟩ = some (.int .i64 x0) ∧ w'.cell? ⟨bx, ox + (c.nx - 1), none⟩ = some (.int .i64 xl)) ((refine ⟨?_, ?_, ?_, ?_⟩ <;> assumption))
    (first | (go_at_call 37; refine (HS1.out _ ?_).mono ?_; (exact (by repeat (first | with_reducible exact Ext.refl _ | with_reducible assumption | (with_reducible refine Ext.drew ?_) | (with_reducible refine Ext.drewN ?_ _) | (with_reducible refine Ext.alloc ?_ _) | (with_reducible refine Ext.setCell ?_ ?_ _) | (with_reducible refine Ext.trans ?_ (by with_reducible assumption)) | omega | (focus (simp <;> omega))))); rintro e w2 ⟨r, hr, rfl, hx2⟩; have hx2' : Ext w1 w2 := (by repeat (first | with_reducible exact Ext.refl _ | with_reducible assumption | (with_reducible refine Ext.drew ?_) | (with_reducible refine Ext.drewN ?_ _) | (with_reducible refine Ext.alloc ?_ _) | (with_reducible refine Ext.setCell ?_ ?_ _) | (with_reducible refine Ext.trans ?_ (by with_reducible assumption)) | omega | (focus (simp <;> omega)))); have ⟨hls, hrm⟩ := HT.out r hr; have HL := Lib.hid hls; clear hr hls; have wr : IntKind.i64.wrap (x0 + (r : Int)) = x0 + (r : Int) := IntWalk.i64_in _ (by omega); have A2 := A1.ext hx2'; have k0 := A2.at 0 _ rfl; have k1 := A2.at 1 _ rfl; have k2 := ((E1.trans hx2').cell hbx).trans X0.out; have k3 := ((E1.trans hx2').cell hbx).trans XL.out))
  all_goals
    go_wp2_with fail
    go_ret2
    exact ⟨_, HL.out, rfl, (by repeat (first | with_reducible exact Ext.refl _ | with_reducible assumption | (with_reducible refine Ext.drew ?_) | (with_reducible refine Ext.drewN ?_ _) | (with_reducible refine Ext.alloc ?_ _) | (with_reducible refine Ext.setCell ?_ ?_ _) | (with_reducible refine Ext.trans ?_ (by with_reducible assumption)) | omega | (focus (simp <;> omega))))⟩

set_option maxRecDepth 100000 in
set_option maxHeartbeats 1000000 in
theorem inverse_far (a b : Option Addr) (k l : Nat) (c : Pl.Cv) (y : Int) (w : World) (h : Pl.chk c = 0) (hx : Row w a c.nx c.x) (hy : Row w b c.nx c.y) (hl : c.y (c.nx - 1) < y) :
    Calls Try.prog 21 #[.agg #[.slice a c.nx k, .slice b c.nx l], .int .i64 y] w fun e w' => e = .returned (.tuple #[.int .i64 0, errv 3]) ∧ Ext w w' := by
  rw [errv_3]
  have g := Pl.good_of c h
  have g2 := g.two
  have g3 := g.few
  have E0 : Ext w ((w.alloc (.cells #[.slice a c.nx k, .slice b c.nx l] 24)).alloc (.cells #[.int .i64 y] 3)) := ((Ext.refl w).alloc _).alloc _
  have hc := ccheck_eq a b k l c _ g.same (hx.ext E0) (hy.ext E0) (by unfold maxLen; omega)
  rw [h, errv_0] at hc
  have A0 := (Blk.new w [.slice a c.nx k, .slice b c.nx l] 24).alloc (.cells #[.int .i64 y] 3)
  have Y0 := Blk.new1 w (.cells #[.slice a c.nx k, .slice b c.nx l] 24) [.int .i64 y] 3
  obtain ⟨bx, ox, rfl, hbx, hcx⟩ := hx (by omega)
  obtain ⟨bY, oY, rfl, hby, hcy⟩ := hy (by omega)
  have ylw := hcy (c.nx - 1) (by omega)
  have ⟨ln1, ln2, ln3⟩ := last_facts g2 g3
  have n2 : (2 : Int) ≤ (c.nx : Int) := by omega
  have HC := Lib.hid hc
  have HA := Lib.hid A0
  have HY := Lib.hid Y0
  have HE := Lib.hid E0
  have dl : decide (c.y (c.nx - 1) < y) = true := decide_eq_true hl
  clear hc hx hy hcx hcy A0 Y0 E0 g h
  generalize c.y (c.nx - 1) = yl at *
  go_enter Try.func21, Try.ntmps21
  go_wp2_with fail
  refine HC.out.mono ?_
  rintro e w1 ⟨rfl, hx1⟩
  have A1 := HA.out.ext hx1
  have Y1 := HY.out.ext hx1
  have E1 := HE.out.trans hx1
  have a0 := A1.at 0 _ rfl
  have a1 := A1.at 1 _ rfl
  have y0 := Y1.at 0 _ rfl
  have cyl := (E1.cell hby).trans ylw
  clear ylw
  go_wp2_with fail
  go_quiet (fail)
  go_wp2_with fail
  go_ret2
  exact ⟨rfl, (by repeat (first | with_reducible exact Ext.refl _ | with_reducible assumption | (with_reducible refine Ext.drew ?_) | (with_reducible refine Ext.drewN ?_ _) | (with_reducible refine Ext.alloc ?_ _) | (with_reducible refine Ext.setCell ?_ ?_ _) | (with_reducible refine Ext.trans ?_ (by with_reducible assumption)) | omega | (focus (simp <;> omega))))⟩

theorem inverse_bad (a b : Option Addr) (k l : Nat) (c : Pl.Cv) (y : Int) (w : World) (h : Pl.chk c ≠ 0) (hx : Row w a c.nx c.x) (hy : Row w b c.ny c.y) (lx : c.nx ≤ maxLen) (ly : c.ny ≤ maxLen) :
    Calls Try.prog 21 #[.agg #[.slice a c.nx k, .slice b c.ny l], .int .i64 y] w fun e w' => e = .returned (.tuple #[.int .i64 0, errv (Pl.chk c)]) ∧ Ext w w' := by
  have E0 : Ext w ((w.alloc (.cells #[.slice a c.nx k, .slice b c.ny l] 24)).alloc (.cells #[.int .i64 y] 3)) := ((Ext.refl w).alloc _).alloc _
  have hc := ccheck a b k l c _ (hx.ext E0) (hy.ext E0) lx ly
  have he : errv (Pl.chk c) = .iface 51 (.int .i64 (Pl.chk c)) := by unfold errv; rw [if_neg h]
  rw [he] at hc ⊢
  have HC := Lib.hid hc
  clear hc hx hy E0 h he lx ly
  generalize Pl.chk c = r at *
  go_enter Try.func21, Try.ntmps21
  go_wp2_with fail
  refine HC.out.mono ?_
  rintro e w1 ⟨rfl, hx1⟩
  go_wp2_with fail
  go_ret2
  exact ⟨rfl, (by repeat (first | with_reducible exact Ext.refl _ | with_reducible assumption | (with_reducible refine Ext.drew ?_) | (with_reducible refine Ext.drewN ?_ _) | (with_reducible refine Ext.alloc ?_ _) | (with_reducible refine Ext.setCell ?_ ?_ _) | (with_reducible refine Ext.trans ?_ (by with_reducible assumption)) | omega | (focus (simp <;> omega))))⟩

set_option maxRecDepth 100000 in
set_option maxHeartbeats 1000000 in
theorem inverse09 (a b : Option Addr) (k l : Nat) (c : Pl.Cv) (y : Int) (w : World) (g : Pl.Good c) (hx : Row w a c.nx c.x) (hy : Row w b c.nx c.y) (hl : y ≤ c.y (c.nx - 1)) :
    Calls Try.prog 22 #[.agg #[.slice a c.nx k, .slice b c.nx l], .int .i64 y] w fun e w' => ∃ r, Pl.Least c y r ∧ e = .returned (.int .i64 r) ∧ Ext w w' := by
  have g2 := g.two
  have g3 := g.few
  have zx0 := g.inx 0 (by omega)
  have zxl := g.inx (c.nx - 1) (by omega)
  have zle := (Pl.up_le g (c.nx - 1) 0 (by omega) (by omega)).1
  have hend : y ≤ Pl.atv c (c.x (c.nx - 1)) := by rw [Pl.atv_last g (Int.le_refl _)]; exact hl
  have HV : Hid (∀ q W, Ext w W → I64 q → Calls Try.prog 20 #[.agg #[.slice a c.nx k, .slice b c.nx l], .int .i64 q] W fun e w' => e = .returned (.int .i64 (Pl.atv c q)) ∧ Ext W w') := Lib.hid (fun q W hW hq => at09_any a b k l c q W g (hx.ext hW) (hy.ext hW) hq)
  have HM : Hid (∀ q q', q ≤ q' → Pl.atv c q ≤ Pl.atv c q') := Lib.hid (fun q q' h => Pl.atv_mono g h)
  obtain ⟨bx, ox, rfl, hbx, hcx⟩ := hx (by omega)
  have B0 := Blk.new w [.slice (some ⟨bx, ox, none⟩) c.nx k, .slice b c.nx l] 24
  have E0 : Ext w (w.alloc (.cells #[.slice (some ⟨bx, ox, none⟩) c.nx k, .slice b c.nx l] 24)) := (Ext.refl w).alloc _
  have b0 := B0.at 0 _ rfl
  have b1 := B0.at 1 _ rfl
  have x0c := (E0.cell hbx).trans (hcx 0 (by omega))
  have xlc := (E0.cell hbx).trans (hcx (c.nx - 1) (by omega))
  have x0w := hcx 0 (by omega)
  have xlw := hcx (c.nx - 1) (by omega)
  rw [Nat.add_zero] at x0c x0w
  have ⟨ln1, ln2, ln3⟩ := last_facts g2 g3
  have n2 : (2 : Int) ≤ (c.nx : Int) := by omega
  have HB := Lib.hid B0
  have HE := Lib.hid hend
  have LE : Hid (∀ r, c.x 0 ≤ r → r ≤ c.x (c.nx - 1) → y ≤ Pl.atv c r → (∀ t, c.x 0 ≤ t → t < r → Pl.atv c t < y) → Pl.Least c y r) := Lib.hid (fun r a b d e => ⟨a, b, d, e⟩)
  clear hcx hx hy B0 E0 hend g hl
  generalize Pl.Least c y = ls at *
  generalize Pl.atv c = av at *
  generalize c.x 0 = x0 at *
  generalize c.x (c.nx - 1) = xl at *
  go_enter Try.func22, Try.ntmps22
  go_wp2_with fail
  go_quiet (fail)
  go_wp2_with fail
  go_loopw [5, 6] (fun i j wr => ∃ lo hi : Int, i = .int .i64 lo ∧ j = .int .i64 hi ∧ x0 ≤ lo ∧ lo ≤ hi ∧ hi ≤ xl ∧ Hid ((∀ t, x0 ≤ t → t < lo → av t < y) ∧ y ≤ av hi) ∧ Blk wr w.heap.size [.slice (some ⟨bx, ox, none⟩) c.nx k, .slice b c.nx l] ∧ Ext w wr) (fun i j _ => (intOf j - intOf i).toNat)
  case atStart => exact ⟨x0, xl, rfl, rfl, by omega, zle, by omega, Lib.hid ⟨fun t h1 h2 => absurd h1 (by omega), HE.out⟩, HB.out.drewN _, (by repeat (first | with_reducible exact Ext.refl _ | with_reducible assumption | (with_reducible refine Ext.drew ?_) | (with_reducible refine Ext.drewN ?_ _) | (with_reducible refine Ext.alloc ?_ _) | (with_reducible refine Ext.setCell ?_ ?_ _) | (with_reducible refine Ext.trans ?_ (by with_reducible assumption)) | omega | (focus (simp <;> omega))))⟩
  case round =>
    clear b0 b1 x0c xlc x0w xlw HB HE
    obtain ⟨lo, hi, rfl, rfl, hl0, hlh, hhx, I, B, hxr⟩ := hrel
    have b0 := B.at 0 _ rfl
    have b1 := B.at 1 _ rfl
    have bn := B.lt
    by_cases hlt : lo < hi
    · obtain ⟨m, hm⟩ : ∃ m, m = (hi - lo) / 2 := ⟨_, rfl⟩
      have m0 : 0 ≤ m ∧ lo + m < hi := by omega
      obtain ⟨m0, m1⟩ := m0
      have e1 : (hi - lo).tdiv 2 = m := by rw [hm]; exact Int.tdiv_eq_ediv_of_nonneg (by omega)
      have e2 : (hi - lo) / 2 = m := hm.symm
      have hv := HV.out (lo + m) wr hxr ⟨by omega, by omega⟩
      have HVV := Lib.hid hv
      clear hv hm
      rcases Int.lt_or_le (av (lo + m)) y with z | z
      · have HM2 : Hid (∀ t, x0 ≤ t → t < lo + m + 1 → av t < y) := Lib.hid (fun t _ h2 => by have := HM.out t (lo + m) (by omega); omega)
        have I2 := I.out.2
        have HI := Lib.hid I2
        clear I I2
        generalize av (lo + m) = vv at *
        go_wp2_with fail
        refine HVV.out.mono ?_
        rintro e w1 ⟨rfl, hx1⟩
        go_wp2_with fail
        go_roundw
        case rel => exact ⟨lo + m + 1, hi, rfl, rfl, by omega, by omega, by omega, Lib.hid ⟨HM2.out, HI.out⟩, B.ext hx1, (by repeat (first | with_reducible exact Ext.refl _ | with_reducible assumption | (with_reducible refine Ext.drew ?_) | (with_reducible refine Ext.drewN ?_ _) | (with_reducible refine Ext.alloc ?_ _) | (with_reducible refine Ext.setCell ?_ ?_ _) | (with_reducible refine Ext.trans ?_ (by with_reducible assumption)) | omega | (focus (simp <;> omega))))⟩
        case measure => simp [intOf]; omega
      · have HZ := Lib.hid z
        have I1 := I.out.1
        have HI := Lib.hid I1
        have HK : Hid ((∀ t, x0 ≤ t → t < lo → av t < y) ∧ y ≤ av (lo + m)) := Lib.hid ⟨I1, z⟩
        clear I I1
        generalize av (lo + m) = vv at HVV z
        go_wp2_with fail
        refine HVV.out.mono ?_
        rintro e w1 ⟨rfl, hx1⟩
        go_wp2_with fail
        go_roundw
        case rel => exact ⟨lo, lo + m, rfl, rfl, by omega, by omega, by omega, HK, B.ext hx1, (by repeat (first | with_reducible exact Ext.refl _ | with_reducible assumption | (with_reducible refine Ext.drew ?_) | (with_reducible refine Ext.drewN ?_ _) | (with_reducible refine Ext.alloc ?_ _) | (with_reducible refine Ext.setCell ?_ ?_ _) | (with_reducible refine Ext.trans ?_ (by with_reducible assumption)) | omega | (focus (simp <;> omega))))⟩
        case measure => simp [intOf]; omega
    · obtain rfl : lo = hi := by omega
      have hge : lo ≤ lo := by omega
      go_wp2_with fail
      go_ret
      exact ⟨lo, LE.out lo hl0 hhx I.out.2 I.out.1, rfl, (by repeat (first | with_reducible exact Ext.refl _ | with_reducible assumption | (with_reducible refine Ext.drew ?_) | (with_reducible refine Ext.drewN ?_ _) | (with_reducible refine Ext.alloc ?_ _) | (with_reducible refine Ext.setCell ?_ ?_ _) | (with_reducible refine Ext.trans ?_ (by with_reducible assumption)) | omega | (focus (simp <;> omega))))⟩

end Go.Proofs.Ytbeolonbboibfaa
