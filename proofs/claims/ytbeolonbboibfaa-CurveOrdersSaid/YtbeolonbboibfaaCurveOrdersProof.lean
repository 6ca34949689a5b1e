/- CurveOrders: if a curve is below another one, its At is nowhere greater.
   Conditions: none: every input. -/
import Derived.Test.YtbeolonbboibfaaAwakeCurve
import Derived.Test.YtbeolonbboibfaaRefBelow
namespace Go.Proofs.Ytbeolonbboibfaa.curveOrders
open Go.ChangeShapes Go.WideShapes Go.ChangeAt Go.RowKit
set_option linter.unusedVariables false

set_option maxRecDepth 100000 in
set_option maxHeartbeats 1000000 in
theorem walk_big1 (a1 b1 a2 b2 : Option Addr) (k1 l1 k2 l2 : Nat) (c d : Pl.Cv) (a3 : Int) (b3 : I64 a3) (w : World) (hl : lg c = true) :
    Calls Try.prog 13 #[.agg #[.slice a1 c.nx k1, .slice b1 c.ny l1], .agg #[.slice a2 d.nx k2, .slice b2 d.ny l2], .int .i64 a3] w fun e w' => e = .returned (.bool true) ∧ Ext w w' := by
  have LGT := Lib.hid hl
  clear hl
  have E0 : Ext w ((w.alloc (.cells #[.slice a1 c.nx k1, .slice b1 c.ny l1] 24)).alloc (.cells #[.slice a2 d.nx k2, .slice b2 d.ny l2] 24)) := ((Ext.refl w).alloc _).alloc _
  have A0 := (Blk.new w [.slice a1 c.nx k1, .slice b1 c.ny l1] 24).alloc (.cells #[.slice a2 d.nx k2, .slice b2 d.ny l2] 24)
  have B0 := Blk.new1 w (.cells #[.slice a1 c.nx k1, .slice b1 c.ny l1] 24) [.slice a2 d.nx k2, .slice b2 d.ny l2] 24
  have HA := Lib.hid A0
  have HB := Lib.hid B0
  have HE := Lib.hid E0
  clear E0 A0 B0
  go_enter Try.func13, Try.ntmps13
  go_wp2_with fail
  refine (awake09 _).mono ?_
  rintro e w1 ⟨rfl, hx1⟩
  have E1 := HE.out.trans hx1
  have A1 := HA.out.ext hx1
  have B1 := HB.out.ext hx1
  have s0 := A1.at 0 _ rfl
  have s1 := A1.at 1 _ rfl
  have sl := A1.lt
  go_wp2_with fail
  refine (large_any a1 b1 k1 l1 c _).mono ?_
  rw [LGT.out]
  rintro e w2 ⟨rfl, hx2⟩
  have E2 := E1.trans hx2
  have A2 := A1.ext hx2
  have B2 := B1.ext hx2
  clear s0 s1 sl
  go_wp2_with fail
  refine (awake09 _).mono ?_
  rintro e w3 ⟨rfl, hx3⟩
  go_wp2_with fail
  go_ret
  exact ⟨(by first | rfl | exact ret_true (by simp <;> omega)), E2.trans hx3⟩
set_option maxRecDepth 100000 in
set_option maxHeartbeats 1000000 in
theorem walk_big2 (a1 b1 a2 b2 : Option Addr) (k1 l1 k2 l2 : Nat) (c d : Pl.Cv) (a3 : Int) (b3 : I64 a3) (w : World) (hl : lg c = false) (hl2 : lg d = true) :
    Calls Try.prog 13 #[.agg #[.slice a1 c.nx k1, .slice b1 c.ny l1], .agg #[.slice a2 d.nx k2, .slice b2 d.ny l2], .int .i64 a3] w fun e w' => e = .returned (.bool true) ∧ Ext w w' := by
  have LGC := Lib.hid hl
  have LGT := Lib.hid hl2
  clear hl hl2
  have E0 : Ext w ((w.alloc (.cells #[.slice a1 c.nx k1, .slice b1 c.ny l1] 24)).alloc (.cells #[.slice a2 d.nx k2, .slice b2 d.ny l2] 24)) := ((Ext.refl w).alloc _).alloc _
  have A0 := (Blk.new w [.slice a1 c.nx k1, .slice b1 c.ny l1] 24).alloc (.cells #[.slice a2 d.nx k2, .slice b2 d.ny l2] 24)
  have B0 := Blk.new1 w (.cells #[.slice a1 c.nx k1, .slice b1 c.ny l1] 24) [.slice a2 d.nx k2, .slice b2 d.ny l2] 24
  have HA := Lib.hid A0
  have HB := Lib.hid B0
  have HE := Lib.hid E0
  clear E0 A0 B0
  go_enter Try.func13, Try.ntmps13
  go_wp2_with fail
  refine (awake09 _).mono ?_
  rintro e w1 ⟨rfl, hx1⟩
  have E1 := HE.out.trans hx1
  have A1 := HA.out.ext hx1
  have B1 := HB.out.ext hx1
  have s0 := A1.at 0 _ rfl
  have s1 := A1.at 1 _ rfl
  have sl := A1.lt
  go_wp2_with fail
  refine (large_any a1 b1 k1 l1 c _).mono ?_
  rw [LGC.out]
  rintro e w2 ⟨rfl, hx2⟩
  have E2 := E1.trans hx2
  have A2 := A1.ext hx2
  have B2 := B1.ext hx2
  clear s0 s1 sl
  have s0 := B2.at 0 _ rfl
  have s1 := B2.at 1 _ rfl
  have sl := B2.lt
  go_wp2_with fail
  refine (large_any a2 b2 k2 l2 d _).mono ?_
  rw [LGT.out]
  rintro e w3 ⟨rfl, hx3⟩
  have E3 := E2.trans hx3
  have A3 := A2.ext hx3
  have B3 := B2.ext hx3
  clear s0 s1 sl
  go_wp2_with fail
  refine (awake09 _).mono ?_
  rintro e w4 ⟨rfl, hx4⟩
  go_wp2_with fail
  go_ret
  exact ⟨(by first | rfl | exact ret_true (by simp <;> omega)), E3.trans hx4⟩
set_option maxRecDepth 100000 in
set_option maxHeartbeats 1000000 in
theorem walk_bad1 (a1 b1 a2 b2 : Option Addr) (k1 l1 k2 l2 : Nat) (c d : Pl.Cv) (a3 : Int) (b3 : I64 a3) (w : World) (hl : lg c = false) (hl2 : lg d = false) (hc : Pl.chk c ≠ 0) (hx : Row w a1 c.nx c.x) (hy : Row w b1 c.ny c.y) (lx : c.nx ≤ maxLen) (ly : c.ny ≤ maxLen) :
    Calls Try.prog 13 #[.agg #[.slice a1 c.nx k1, .slice b1 c.ny l1], .agg #[.slice a2 d.nx k2, .slice b2 d.ny l2], .int .i64 a3] w fun e w' => e = .returned (.bool true) ∧ Ext w w' := by
  have LGC := Lib.hid hl
  have LGD := Lib.hid hl2
  clear hl hl2
  have he : errv (Pl.chk c) = .iface 51 (.int .i64 (Pl.chk c)) := by unfold errv; rw [if_neg hc]
  have nz : (Pl.chk c != 0) = true := by simpa using hc
  have nz2 : (Pl.chk c == 0) = false := by simpa using hc
  have nz3 : ¬ Pl.chk c = 0 := hc
  obtain ⟨r, hr⟩ : ∃ r, r = Pl.chk c := ⟨_, rfl⟩
  have RR := Lib.hid hr
  rw [← hr] at nz nz2 nz3
  have HEV := Lib.hid he
  have HZ := Lib.hid hc
  clear he hr hc
  have H_hx := Lib.hid hx
  have H_hy := Lib.hid hy
  have H_lx := Lib.hid lx
  have H_ly := Lib.hid ly
  clear hx hy lx ly
  have E0 : Ext w ((w.alloc (.cells #[.slice a1 c.nx k1, .slice b1 c.ny l1] 24)).alloc (.cells #[.slice a2 d.nx k2, .slice b2 d.ny l2] 24)) := ((Ext.refl w).alloc _).alloc _
  have A0 := (Blk.new w [.slice a1 c.nx k1, .slice b1 c.ny l1] 24).alloc (.cells #[.slice a2 d.nx k2, .slice b2 d.ny l2] 24)
  have B0 := Blk.new1 w (.cells #[.slice a1 c.nx k1, .slice b1 c.ny l1] 24) [.slice a2 d.nx k2, .slice b2 d.ny l2] 24
  have HA := Lib.hid A0
  have HB := Lib.hid B0
  have HE := Lib.hid E0
  clear E0 A0 B0
  go_enter Try.func13, Try.ntmps13
  go_wp2_with fail
  refine (awake09 _).mono ?_
  rintro e w1 ⟨rfl, hx1⟩
  have E1 := HE.out.trans hx1
  have A1 := HA.out.ext hx1
  have B1 := HB.out.ext hx1
  have s0 := A1.at 0 _ rfl
  have s1 := A1.at 1 _ rfl
  have sl := A1.lt
  go_wp2_with fail
  refine (large_any a1 b1 k1 l1 c _).mono ?_
  rw [LGC.out]
  rintro e w2 ⟨rfl, hx2⟩
  have E2 := E1.trans hx2
  have A2 := A1.ext hx2
  have B2 := B1.ext hx2
  clear s0 s1 sl
  have s0 := B2.at 0 _ rfl
  have s1 := B2.at 1 _ rfl
  have sl := B2.lt
  go_wp2_with fail
  refine (large_any a2 b2 k2 l2 d _).mono ?_
  rw [LGD.out]
  rintro e w3 ⟨rfl, hx3⟩
  have E3 := E2.trans hx3
  have A3 := A2.ext hx3
  have B3 := B2.ext hx3
  clear s0 s1 sl
  have s0 := A3.at 0 _ rfl
  have s1 := A3.at 1 _ rfl
  have sl := A3.lt
  have u0 := B3.at 0 _ rfl
  have u1 := B3.at 1 _ rfl
  have ul := B3.lt
  clear b3
  go_wp2_with fail
  refine (below_bad1 a1 b1 a2 b2 k1 l1 k2 l2 c d _ HZ.out (H_hx.out.ext E3) (H_hy.out.ext E3) H_lx.out H_ly.out).mono ?_
  rw [HEV.out, ← RR.out]
  rintro e w4 ⟨rfl, hx4⟩
  have E4 := E3.trans hx4
  have A4 := A3.ext hx4
  have B4 := B3.ext hx4
  clear s0 s1 sl u0 u1 ul
  have s0 := A4.at 0 _ rfl
  have s1 := A4.at 1 _ rfl
  have sl := A4.lt
  have u0 := B4.at 0 _ rfl
  have u1 := B4.at 1 _ rfl
  have ul := B4.lt
  go_wp2_with fail
  go_ret
  exact ⟨(by first | rfl | exact ret_true (by simp <;> omega)), E4⟩
set_option maxRecDepth 100000 in
set_option maxHeartbeats 1000000 in
theorem walk_bad2 (a1 b1 a2 b2 : Option Addr) (k1 l1 k2 l2 : Nat) (c d : Pl.Cv) (a3 : Int) (b3 : I64 a3) (w : World) (hl : lg c = false) (hl2 : lg d = false) (hc : Pl.chk c = 0) (hd : Pl.chk d ≠ 0) (hx : Row w a1 c.nx c.x) (hy : Row w b1 c.nx c.y) (lx : c.nx ≤ maxLen) (hx2 : Row w a2 d.nx d.x) (hy2 : Row w b2 d.ny d.y) (lx2 : d.nx ≤ maxLen) (ly2 : d.ny ≤ maxLen) :
    Calls Try.prog 13 #[.agg #[.slice a1 c.nx k1, .slice b1 c.nx l1], .agg #[.slice a2 d.nx k2, .slice b2 d.ny l2], .int .i64 a3] w fun e w' => e = .returned (.bool true) ∧ Ext w w' := by
  have SM := Lib.hid (Pl.good_of c hc).same
  have LGC := Lib.hid (lg_same SM.out hl)
  have LGD := Lib.hid hl2
  have HC := Lib.hid hc
  clear hl hl2 hc
  have he : errv (Pl.chk d) = .iface 51 (.int .i64 (Pl.chk d)) := by unfold errv; rw [if_neg hd]
  have nz : (Pl.chk d != 0) = true := by simpa using hd
  have nz2 : (Pl.chk d == 0) = false := by simpa using hd
  have nz3 : ¬ Pl.chk d = 0 := hd
  obtain ⟨r, hr⟩ : ∃ r, r = Pl.chk d := ⟨_, rfl⟩
  have RR := Lib.hid hr
  rw [← hr] at nz nz2 nz3
  have HEV := Lib.hid he
  have HZ := Lib.hid hd
  clear he hr hd
  have H_hx := Lib.hid hx
  have H_hy := Lib.hid hy
  have H_lx := Lib.hid lx
  have H_hx2 := Lib.hid hx2
  have H_hy2 := Lib.hid hy2
  have H_lx2 := Lib.hid lx2
  have H_ly2 := Lib.hid ly2
  clear hx hy lx hx2 hy2 lx2 ly2
  have E0 : Ext w ((w.alloc (.cells #[.slice a1 c.nx k1, .slice b1 c.nx l1] 24)).alloc (.cells #[.slice a2 d.nx k2, .slice b2 d.ny l2] 24)) := ((Ext.refl w).alloc _).alloc _
  have A0 := (Blk.new w [.slice a1 c.nx k1, .slice b1 c.nx l1] 24).alloc (.cells #[.slice a2 d.nx k2, .slice b2 d.ny l2] 24)
  have B0 := Blk.new1 w (.cells #[.slice a1 c.nx k1, .slice b1 c.nx l1] 24) [.slice a2 d.nx k2, .slice b2 d.ny l2] 24
  have HA := Lib.hid A0
  have HB := Lib.hid B0
  have HE := Lib.hid E0
  clear E0 A0 B0
  go_enter Try.func13, Try.ntmps13
  go_wp2_with fail
  refine (awake09 _).mono ?_
  rintro e w1 ⟨rfl, hx1⟩
  have E1 := HE.out.trans hx1
  have A1 := HA.out.ext hx1
  have B1 := HB.out.ext hx1
  have s0 := A1.at 0 _ rfl
  have s1 := A1.at 1 _ rfl
  have sl := A1.lt
  go_wp2_with fail
  refine (large_any a1 b1 k1 l1 ⟨c.nx, c.nx, c.x, c.y⟩ _).mono ?_
  rw [LGC.out]
  rintro e w2 ⟨rfl, hx2⟩
  have E2 := E1.trans hx2
  have A2 := A1.ext hx2
  have B2 := B1.ext hx2
  clear s0 s1 sl
  have s0 := B2.at 0 _ rfl
  have s1 := B2.at 1 _ rfl
  have sl := B2.lt
  go_wp2_with fail
  refine (large_any a2 b2 k2 l2 d _).mono ?_
  rw [LGD.out]
  rintro e w3 ⟨rfl, hx3⟩
  have E3 := E2.trans hx3
  have A3 := A2.ext hx3
  have B3 := B2.ext hx3
  clear s0 s1 sl
  have s0 := A3.at 0 _ rfl
  have s1 := A3.at 1 _ rfl
  have sl := A3.lt
  have u0 := B3.at 0 _ rfl
  have u1 := B3.at 1 _ rfl
  have ul := B3.lt
  clear b3
  go_wp2_with fail
  refine (below_bad2 a1 b1 a2 b2 k1 l1 k2 l2 c d _ HC.out HZ.out (H_hx.out.ext E3) (H_hy.out.ext E3) (H_hx2.out.ext E3) (H_hy2.out.ext E3) H_lx.out H_lx2.out H_ly2.out).mono ?_
  rw [HEV.out, ← RR.out]
  rintro e w4 ⟨rfl, hx4⟩
  have E4 := E3.trans hx4
  have A4 := A3.ext hx4
  have B4 := B3.ext hx4
  clear s0 s1 sl u0 u1 ul
  have s0 := A4.at 0 _ rfl
  have s1 := A4.at 1 _ rfl
  have sl := A4.lt
  have u0 := B4.at 0 _ rfl
  have u1 := B4.at 1 _ rfl
  have ul := B4.lt
  go_wp2_with fail
  go_ret
  exact ⟨(by first | rfl | exact ret_true (by simp <;> omega)), E4⟩
set_option maxRecDepth 100000 in
set_option maxHeartbeats 1000000 in
theorem walk_ok (a1 b1 a2 b2 : Option Addr) (k1 l1 k2 l2 : Nat) (c d : Pl.Cv) (a3 : Int) (b3 : I64 a3) (w : World) (hl : lg c = false) (hl2 : lg d = false) (hc : Pl.chk c = 0) (hd : Pl.chk d = 0) (R : Bool) (hR : R = true ↔ NotAbove c d) (hx : Row w a1 c.nx c.x) (hy : Row w b1 c.nx c.y) (lx : c.nx ≤ maxLen) (hx2 : Row w a2 d.nx d.x) (hy2 : Row w b2 d.nx d.y) (lx2 : d.nx ≤ maxLen) :
    Calls Try.prog 13 #[.agg #[.slice a1 c.nx k1, .slice b1 c.nx l1], .agg #[.slice a2 d.nx k2, .slice b2 d.nx l2], .int .i64 a3] w fun e w' => e = .returned (.bool true) ∧ Ext w w' := by
  have SM := Lib.hid (Pl.good_of c hc).same
  have SM2 := Lib.hid (Pl.good_of d hd).same
  have LGC := Lib.hid (lg_same SM.out hl)
  have LGD := Lib.hid (lg_same SM2.out hl2)
  have HC := Lib.hid hc
  have HD := Lib.hid hd
  have HR := Lib.hid hR
  clear hl hl2 hc hd hR
  have H_hx := Lib.hid hx
  have H_hy := Lib.hid hy
  have H_lx := Lib.hid lx
  have H_hx2 := Lib.hid hx2
  have H_hy2 := Lib.hid hy2
  have H_lx2 := Lib.hid lx2
  clear hx hy lx hx2 hy2 lx2
  have E0 : Ext w ((w.alloc (.cells #[.slice a1 c.nx k1, .slice b1 c.nx l1] 24)).alloc (.cells #[.slice a2 d.nx k2, .slice b2 d.nx l2] 24)) := ((Ext.refl w).alloc _).alloc _
  have A0 := (Blk.new w [.slice a1 c.nx k1, .slice b1 c.nx l1] 24).alloc (.cells #[.slice a2 d.nx k2, .slice b2 d.nx l2] 24)
  have B0 := Blk.new1 w (.cells #[.slice a1 c.nx k1, .slice b1 c.nx l1] 24) [.slice a2 d.nx k2, .slice b2 d.nx l2] 24
  have HA := Lib.hid A0
  have HB := Lib.hid B0
  have HE := Lib.hid E0
  clear E0 A0 B0
  go_enter Try.func13, Try.ntmps13
  go_wp2_with fail
  refine (awake09 _).mono ?_
  rintro e w1 ⟨rfl, hx1⟩
  have E1 := HE.out.trans hx1
  have A1 := HA.out.ext hx1
  have B1 := HB.out.ext hx1
  have s0 := A1.at 0 _ rfl
  have s1 := A1.at 1 _ rfl
  have sl := A1.lt
  go_wp2_with fail
  refine (large_any a1 b1 k1 l1 ⟨c.nx, c.nx, c.x, c.y⟩ _).mono ?_
  rw [LGC.out]
  rintro e w2 ⟨rfl, hx2⟩
  have E2 := E1.trans hx2
  have A2 := A1.ext hx2
  have B2 := B1.ext hx2
  clear s0 s1 sl
  have s0 := B2.at 0 _ rfl
  have s1 := B2.at 1 _ rfl
  have sl := B2.lt
  go_wp2_with fail
  refine (large_any a2 b2 k2 l2 ⟨d.nx, d.nx, d.x, d.y⟩ _).mono ?_
  rw [LGD.out]
  rintro e w3 ⟨rfl, hx3⟩
  have E3 := E2.trans hx3
  have A3 := A2.ext hx3
  have B3 := B2.ext hx3
  clear s0 s1 sl
  have s0 := A3.at 0 _ rfl
  have s1 := A3.at 1 _ rfl
  have sl := A3.lt
  have u0 := B3.at 0 _ rfl
  have u1 := B3.at 1 _ rfl
  have ul := B3.lt
  clear b3
  cases R
  · skip
    go_wp2_with fail
    refine (below_ok a1 b1 a2 b2 k1 l1 k2 l2 c d _ HC.out HD.out false HR.out (H_hx.out.ext E3) (H_hy.out.ext E3) (H_hx2.out.ext E3) (H_hy2.out.ext E3)).mono ?_
    rintro e w4 ⟨rfl, hx4⟩
    have E4 := E3.trans hx4
    have A4 := A3.ext hx4
    have B4 := B3.ext hx4
    clear s0 s1 sl u0 u1 ul
    have s0 := A4.at 0 _ rfl
    have s1 := A4.at 1 _ rfl
    have sl := A4.lt
    have u0 := B4.at 0 _ rfl
    have u1 := B4.at 1 _ rfl
    have ul := B4.lt
    go_wp2_with fail
    go_ret
    exact ⟨(by first | rfl | exact ret_true (by simp <;> omega)), E4⟩
  · skip
    have na := (notAbove_iff c d).1 (HR.out.1 rfl)
    have lb := Pl.below_all (Pl.good_of c HC.out) (Pl.good_of d HD.out) na.1 na.2 a3
    have v1 := Pl.vr_val (Pl.good_of c HC.out) a3
    have v2 := Pl.vr_val (Pl.good_of d HD.out) a3
    have cr : Pl.atv c a3 ≤ Pl.atv d a3 := Pl.td_cross v1.1 v2.1 ((Pl.leb_iff (Pl.good_of c HC.out) (Pl.good_of d HD.out) v1 v2).1 lb)
    obtain ⟨y, hy⟩ : ∃ y, y = Pl.atv c a3 := ⟨_, rfl⟩
    obtain ⟨z, hz⟩ : ∃ z, z = Pl.atv d a3 := ⟨_, rfl⟩
    rw [← hy, ← hz] at cr
    have YY := Lib.hid hy
    have ZZ := Lib.hid hz
    clear na lb v1 v2 hy hz
    go_wp2_with fail
    refine (below_ok a1 b1 a2 b2 k1 l1 k2 l2 c d _ HC.out HD.out true (by simpa using HR.out) (H_hx.out.ext E3) (H_hy.out.ext E3) (H_hx2.out.ext E3) (H_hy2.out.ext E3)).mono ?_
    rintro e w4 ⟨rfl, hx4⟩
    have E4 := E3.trans hx4
    have A4 := A3.ext hx4
    have B4 := B3.ext hx4
    clear s0 s1 sl u0 u1 ul
    have s0 := A4.at 0 _ rfl
    have s1 := A4.at 1 _ rfl
    have sl := A4.lt
    have u0 := B4.at 0 _ rfl
    have u1 := B4.at 1 _ rfl
    have ul := B4.lt
    go_wp2_with fail
    refine (cAt_ok a1 b1 k1 l1 c a3 _ HC.out (H_hx.out.ext E4) (H_hy.out.ext E4)).mono ?_
    rw [← YY.out]
    rintro e w5 ⟨rfl, hx5⟩
    have E5 := E4.trans hx5
    have A5 := A4.ext hx5
    have B5 := B4.ext hx5
    clear s0 s1 sl u0 u1 ul
    have s0 := A5.at 0 _ rfl
    have s1 := A5.at 1 _ rfl
    have sl := A5.lt
    have u0 := B5.at 0 _ rfl
    have u1 := B5.at 1 _ rfl
    have ul := B5.lt
    go_wp2_with fail
    refine (cAt_ok a2 b2 k2 l2 d a3 _ HD.out (H_hx2.out.ext E5) (H_hy2.out.ext E5)).mono ?_
    rw [← ZZ.out]
    rintro e w6 ⟨rfl, hx6⟩
    have E6 := E5.trans hx6
    have A6 := A5.ext hx6
    have B6 := B5.ext hx6
    clear s0 s1 sl u0 u1 ul
    have s0 := A6.at 0 _ rfl
    have s1 := A6.at 1 _ rfl
    have sl := A6.lt
    have u0 := B6.at 0 _ rfl
    have u1 := B6.at 1 _ rfl
    have ul := B6.lt
    go_wp2_with fail
    go_ret
    exact ⟨(by first | rfl | exact ret_true (by simp <;> omega)), E6⟩
theorem walk (p0 p1 : Cu) (a3 : Int) (b3 : I64 a3) (w : World) (hp0 : CuAt w p0) (hp1 : CuAt w p1) :
    Calls Try.prog 13 #[.agg #[.slice p0.a p0.v.nx p0.k, .slice p0.b p0.v.ny p0.l], .agg #[.slice p1.a p1.v.nx p1.k, .slice p1.b p1.v.ny p1.l], .int .i64 a3] w fun e w' => e = .returned (.bool true) ∧ Ext w w' := by
  obtain ⟨a1, b1, k1, l1, c⟩ := p0
  obtain ⟨a2, b2, k2, l2, d⟩ := p1
  obtain ⟨hx, hy, ix, iy, lx, ly⟩ := hp0
  obtain ⟨hx2, hy2, ix2, iy2, lx2, ly2⟩ := hp1
  dsimp only at *
  cases hl : lg c
  · cases hl2 : lg d
    · by_cases hc : Pl.chk c = 0
      · have sm := (Pl.good_of c hc).same
        rw [← sm] at hy ⊢
        by_cases hd : Pl.chk d = 0
        · have sm2 := (Pl.good_of d hd).same
          rw [← sm2] at hy2 ⊢
          by_cases hn : NotAbove c d
          · exact walk_ok a1 b1 a2 b2 k1 l1 k2 l2 c d a3 b3 w hl hl2 hc hd true (by simp [hn]) hx hy lx hx2 hy2 lx2
          · exact walk_ok a1 b1 a2 b2 k1 l1 k2 l2 c d a3 b3 w hl hl2 hc hd false (by simp [hn]) hx hy lx hx2 hy2 lx2
        · exact walk_bad2 a1 b1 a2 b2 k1 l1 k2 l2 c d a3 b3 w hl hl2 hc hd hx hy lx hx2 hy2 lx2 ly2
      · exact walk_bad1 a1 b1 a2 b2 k1 l1 k2 l2 c d a3 b3 w hl hl2 hc hx hy lx ly
    · exact walk_big2 a1 b1 a2 b2 k1 l1 k2 l2 c d a3 b3 w hl hl2
  · exact walk_big1 a1 b1 a2 b2 k1 l1 k2 l2 c d a3 b3 w hl

theorem own : ownKnob Try.prog.godebug = none := by kernel_rfl
theorem laidOut : laidOutB Try.prog = true := by kernel_rfl

/-- The row's step: the walk's end is what the row asks. -/
theorem lifted (os : Os) (started : os.Started) (H : Type) (enc : TypeId × Value → H) :
    ReturnsInHanded {} Try.checked os 13 .any (Rows.curveOrdersSpec.pre6 enc Try.prog Try.f13 Rows.curveOrdersRow.domain false) (Rows.curveOrdersSpec.post enc Try.prog Try.f13 false true false false) := by
  refine returnsInHanded_of_change (C := Try.checked) own started (by kernel_rfl) Try.func13
    (ChangeSpec.witness6 (enc := enc) (C := Try.checked) false ⟨#[], #[.agg #[.slice none 0 0, .slice none 0 0], .agg #[.slice none 0 0, .slice none 0 0], .int .i64 0], []⟩ 8 (by kernel_rfl) (by kernel_rfl) (by kernel_rfl) (by kernel_rfl)) ?_
  intro W base args ds gs before hval0 hW hcnd _
  have hval : ∀ (j : Nat) t v, Try.f13.params[j]? = some t → args[j]? = some v → Value.okWide Try.prog W .any base t v := hval0
  have hW' := hW
  obtain ⟨p, q, hA0, hV, rfl, hfz, hnd⟩ := hW
  have hA : DataW.TrodAll enc Try.prog W 0 (fun _ => true) true Try.f13.params.toList args.toList ds p := hA0
  rw [Try.params13] at hA hval
  obtain ⟨v0, vs0, d0, ds0, p0, q0, hargs, rfl, rfl, h0, r0⟩ := trodAll_cons hA
  obtain ⟨v1, vs1, d1, ds1, p1, q1, rfl, rfl, rfl, h1, r1⟩ := trodAll_cons r0
  obtain ⟨v2, vs2, d2, ds2, p2, q2, rfl, rfl, rfl, h2, r2⟩ := trodAll_cons r1
  obtain ⟨rfl, rfl, rfl⟩ := trodAll_nil r2
  obtain rfl : args = #[v0, v1, v2] := by cases args; simp_all
  obtain ⟨rfl, rfl⟩ := trodVars_none hV
  have lt0 : ∀ x ∈ p0, x.block < W.heap.size := by obtain ⟨m, hm⟩ := h0; exact DataW.trod_lt m _ _ _ hm
  obtain ⟨u0, rfl, hu0⟩ := open_crv (hval 0 24 v0 rfl rfl) h0
  have lt1 : ∀ x ∈ p1, x.block < W.heap.size := by obtain ⟨m, hm⟩ := h1; exact DataW.trod_lt m _ _ _ hm
  obtain ⟨u1, rfl, hu1⟩ := open_crv (hval 1 24 v1 rfl rfl) h1
  have lt2 : ∀ x ∈ p2, x.block < W.heap.size := by obtain ⟨m, hm⟩ := h2; exact DataW.trod_lt m _ _ _ hm
  obtain ⟨a2, rfl, b2⟩ := open_i64 Try.underlying3 (hval 2 3 v2 rfl rfl)
  clear hA0 hval0
  refine (walk u0 u1 a2 b2 W hu0 hu1).mono fun e W' ⟨he, bel0⟩ => ?_
  subst he
  have bel : Below W.heap.size W W' := bel0
  exact ⟨_, rfl, _, _, _, [], _, [], hW', trodAll_mk1 (shut_bool Try.underlying4 _), (trodAll_cons_mk (Below.trod laidOut (by kernel_rfl) (of_decide_eq_true (by kernel_rfl)) h0 bel lt0) (trodAll_cons_mk (Below.trod laidOut (by kernel_rfl) (of_decide_eq_true (by kernel_rfl)) h1 bel lt1) (trodAll_cons_mk (Below.trod laidOut (by kernel_rfl) (of_decide_eq_true (by kernel_rfl)) h2 bel lt2) trodAll_mk0))), rfl, bel.frame _, fun h => by cases h⟩

theorem over : Rows.curveOrdersRow.holds Try.pinned (OpenSpec.ofChange Rows.curveOrdersSpec) :=
  OpenClaim.holds_of_wide 13 Try.f13 rfl rfl rfl rfl rfl rfl rfl ⟨rfl, rfl, rfl, rfl, rfl⟩ rfl rfl rfl rfl rfl (by kernel_rfl) Try.func13 (by kernel_rfl)
    (of_decide_eq_true (by kernel_rfl)) (by unfold Func.isWrapper; first | (rw [if_pos (by decide +kernel)]; kernel_rfl) | (rw [if_neg (by decide +kernel)]; exact ⟨rfl, rfl⟩))
    (fun os started H enc _ => lifted os started H enc)

/-- The statement. -/
theorem proved : Rows.CurveOrdersSaid := over
#print axioms proved
end Go.Proofs.Ytbeolonbboibfaa.curveOrders
