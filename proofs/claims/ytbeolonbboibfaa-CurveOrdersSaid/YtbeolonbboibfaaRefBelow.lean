/- The contract of the reference's Below.
   Conditions: both curves are ones that Check accepts. -/
import Derived.Test.YtbeolonbboibfaaBelow
import Derived.Test.YtbeolonbboibfaaRefCurveVal
import Derived.Deep.RegionHeld3
namespace Go.Proofs.Ytbeolonbboibfaa
open Go.ChangeShapes Go.WideShapes Go.ChangeAt Go.RowKit
set_option linter.unusedSimpArgs false in
set_option maxRecDepth 100000 in
set_option maxHeartbeats 1000000 in
theorem rbelow_ok (a1 b1 a2 b2 : Option Addr) (k1 l1 k2 l2 : Nat) (c d : Pl.Cv) (w : World) (h : Pl.chk c = 0) (h2 : Pl.chk d = 0) (R : Bool) (hR : R = true ↔ NotAbove c d) (hx : Row w a1 c.nx c.x) (hy : Row w b1 c.nx c.y) (hx2 : Row w a2 d.nx d.x) (hy2 : Row w b2 d.nx d.y) :
    Calls Try.prog 33 #[.agg #[.slice a1 c.nx k1, .slice b1 c.nx l1], .agg #[.slice a2 d.nx k2, .slice b2 d.nx l2]] w fun e w' => e = .returned (.bool R) ∧ Ext w w' := by
  have gc := Pl.good_of c h
  have gd := Pl.good_of d h2
  have c2 := gc.two
  have c3 := gc.few
  have d2 := gd.two
  have d3 := gd.few
  rw [notAbove_iff] at hR
  have HX := Lib.hid hx
  have HY := Lib.hid hy
  have HX2 := Lib.hid hx2
  have HY2 := Lib.hid hy2
  obtain ⟨bx, ox, rfl, hbx, hcx⟩ := hx (by omega)
  obtain ⟨bY, oY, rfl, hby, hcy⟩ := hy (by omega)
  obtain ⟨bx2, ox2, rfl, hbx2, hcx2⟩ := hx2 (by omega)
  obtain ⟨bY2, oY2, rfl, hby2, hcy2⟩ := hy2 (by omega)
  have E0 : Ext w ((w.alloc (.cells #[.slice (some ⟨bx, ox, none⟩) c.nx k1, .slice (some ⟨bY, oY, none⟩) c.nx l1] 24)).alloc (.cells #[.slice (some ⟨bx2, ox2, none⟩) d.nx k2, .slice (some ⟨bY2, oY2, none⟩) d.nx l2] 24)) := ((Ext.refl w).alloc _).alloc _
  have A0 := (Blk.new w [.slice (some ⟨bx, ox, none⟩) c.nx k1, .slice (some ⟨bY, oY, none⟩) c.nx l1] 24).alloc (.cells #[.slice (some ⟨bx2, ox2, none⟩) d.nx k2, .slice (some ⟨bY2, oY2, none⟩) d.nx l2] 24)
  have B0 := Blk.new1 w (.cells #[.slice (some ⟨bx, ox, none⟩) c.nx k1, .slice (some ⟨bY, oY, none⟩) c.nx l1] 24) [.slice (some ⟨bx2, ox2, none⟩) d.nx k2, .slice (some ⟨bY2, oY2, none⟩) d.nx l2] 24
  have HA := Lib.hid A0
  have HB := Lib.hid B0
  have HE := Lib.hid E0
  have HCX := Lib.hid hcx
  have HCY := Lib.hid hcy
  have HCX2 := Lib.hid hcx2
  have HCY2 := Lib.hid hcy2
  have GC := Lib.hid gc
  have GD := Lib.hid gd
  have HR := Lib.hid hR
  have m1 : (2 : Int) ≤ (c.nx : Int) := by omega
  have m2 : (c.nx : Int) ≤ 32 := by omega
  have m3 : (2 : Int) ≤ (d.nx : Int) := by omega
  have m4 : (d.nx : Int) ≤ 32 := by omega
  clear hx hy hx2 hy2 hcx hcy hcx2 hcy2 E0 A0 B0 gc gd hR h h2
  go_enter Try.func33, Try.ntmps33
  go_wp2_with fail
  go_loopw [5] (fun i wr => ∃ j : Nat, j ≤ c.nx ∧ i = .int .i64 j ∧ Hid (∀ t, t < j → Pl.leb c d (c.x t) = true) ∧ Ext ((w.alloc (.cells #[.slice (some ⟨bx, ox, none⟩) c.nx k1, .slice (some ⟨bY, oY, none⟩) c.nx l1] 24)).alloc (.cells #[.slice (some ⟨bx2, ox2, none⟩) d.nx k2, .slice (some ⟨bY2, oY2, none⟩) d.nx l2] 24)) wr) (fun i _ => c.nx - (intOf i).toNat)
  case atStart => exact ⟨0, by omega, rfl, Lib.hid (fun t ht => absurd ht (Nat.not_lt_zero _)), Ext.refl _⟩
  case round =>
    obtain ⟨j, hj', rfl, HG, hxr⟩ := hrel
    have A4 := HA.out.ext hxr
    have B4 := HB.out.ext hxr
    have a0 := A4.at 0 _ rfl
    have a1' := A4.at 1 _ rfl
    have al := A4.lt
    have b0 := B4.at 0 _ rfl
    have b1' := B4.at 1 _ rfl
    have bl := B4.lt
    by_cases hj : j < c.nx
    · have E4 := HE.out.trans hxr
      have cx := (E4.cell hbx).trans (HCX.out j hj)
      have ej : (j : Int) < (c.nx : Int) := by omega
      have xb := GC.out.inx j hj
      have yb := GC.out.iny j hj
      obtain ⟨x, hxx⟩ : ∃ x, x = c.x j := ⟨_, rfl⟩
      obtain ⟨y, hyy⟩ : ∃ y, y = c.y j := ⟨_, rfl⟩
      have IX : I64 x := by rw [hxx]; unfold I64; omega
      have YB : ValBd y 1 := ⟨by rw [hyy]; omega, by omega⟩
      have CV := Lib.hid (fun U (hU : Ext w U) => value09 (some ⟨bx2, ox2, none⟩) (some ⟨bY2, oY2, none⟩) k2 l2 d x U GD.out (HX2.out.ext hU) (HY2.out.ext hU) IX)
      have VV := Lib.hid (Pl.vr_val GD.out x)
      have VB := Lib.hid (vr_bd GD.out x)
      obtain ⟨n, hn⟩ : ∃ n, n = (Pl.vr d x).1 := ⟨_, rfl⟩
      obtain ⟨m, hm⟩ : ∃ m, m = (Pl.vr d x).2 := ⟨_, rfl⟩
      rw [← hn, ← hm] at CV VV VB
      clear hn hm
      obtain ⟨rr, hrr⟩ : ∃ rr, LessIs n m y 1 rr := ⟨_, rfl⟩
      have LI : Hid (Pl.leb c d (c.x j) = true ↔ rr = false) := Lib.hid (by
        obtain ⟨np, dp, hp⟩ := Pl.val_any GC.out (c.x j)
        have ep := point_val GC.out hj hp
        have dp0 := hp.1
        have vv := VV.out
        rw [hxx] at vv
        rw [hrr]
        rw [show (decide (n * 1 < y * m) = false ↔ ¬ n * 1 < y * m) from decide_eq_false_iff_not]
        rw [Pl.leb_iff GC.out GD.out hp vv]
        rw [ep, ← hyy]
        constructor
        · intro h
          have e1 : y * dp * m = y * m * dp := by grind
          rw [e1] at h; have := Int.le_of_mul_le_mul_right h dp0; omega
        · intro h
          have e2 : y * dp * m = y * m * dp := by grind
          rw [e2]
          exact Int.mul_le_mul_of_nonneg_right (by omega) (Int.le_of_lt dp0))
      have LA := Lib.hid (fun U => less_any n m y 1 rr U VB.out YB hrr)
      have CYj := Lib.hid (HCY.out j hj)
      rw [← hxx] at cx
      rw [← hyy] at CYj
      clear hrr hxx hyy xb yb IX YB VV
      go_upto_region 4 with fail
      go_region_held3 (fun w' => w'.cell? ⟨w.heap.size, 0, none⟩ = some (.slice (some ⟨bx, ox, none⟩) c.nx k1) ∧ w'.cell? ⟨(w.heap.size + 1), 0, none⟩ = some (.slice (some ⟨bx2, ox2, none⟩) d.nx k2) ∧ w'.cell? ⟨(w.heap.size + 1), 1, none⟩ = some (.slice (some ⟨bY2, oY2, none⟩) d.nx l2) ∧ w'.cell? ⟨bx, ox + j, none⟩ = some (.int .i64 x)) ((refine ⟨?_, ?_, ?_, ?_⟩ <;> assumption))
        (first | (go_at_call 36; refine (CV.out _ ?_).mono ?_; (exact (by repeat (first | with_reducible exact Ext.refl _ | with_reducible assumption | (with_reducible refine Ext.drew ?_) | (with_reducible refine Ext.drewN ?_ _) | (with_reducible refine Ext.alloc ?_ _) | (with_reducible refine Ext.setCell ?_ ?_ _) | (with_reducible refine Ext.trans ?_ (by with_reducible assumption)) | omega | (focus (simp <;> omega))))); rintro e w9 ⟨rfl, hx9⟩; have hx9' : Ext wr w9 := (by repeat (first | with_reducible exact Ext.refl _ | with_reducible assumption | (with_reducible refine Ext.drew ?_) | (with_reducible refine Ext.drewN ?_ _) | (with_reducible refine Ext.alloc ?_ _) | (with_reducible refine Ext.setCell ?_ ?_ _) | (with_reducible refine Ext.trans ?_ (by with_reducible assumption)) | omega | (focus (simp <;> omega)))); have f0 := (A4.ext hx9').at 0 _ rfl; have f1 := (B4.ext hx9').at 0 _ rfl; have f2 := (B4.ext hx9').at 1 _ rfl; have f3 := ((E4.trans hx9').cell hbx).trans ((E4.cell hbx).symm.trans cx)))
      all_goals
        have A9 := A4.ext hx9'
        have p0 := A9.at 0 _ rfl
        have p1 := A9.at 1 _ rfl
        have pl := A9.lt
        have cy := ((E4.trans hx9').cell hby).trans CYj.out
        go_wp2_with fail
        refine (LA.out _).mono ?_
        rintro e w8 ⟨rfl, hx8⟩
        have E8 : Ext ((w.alloc (.cells #[.slice (some ⟨bx, ox, none⟩) c.nx k1, .slice (some ⟨bY, oY, none⟩) c.nx l1] 24)).alloc (.cells #[.slice (some ⟨bx2, ox2, none⟩) d.nx k2, .slice (some ⟨bY2, oY2, none⟩) d.nx l2] 24)) w8 := (hxr.trans hx9').trans hx8
        cases hrr : rr
        · have LL := Lib.hid (LI.out.2 hrr)
          subst hrr
          go_wp2_with fail
          go_roundw
          case rel => exact ⟨j + 1, by omega, by go_num, Lib.hid (fun t ht => by
            by_cases e : t = j
            · rw [e]; exact LL.out
            · exact HG.out t (by omega)), E8⟩
          case measure => simp [intOf]; omega
        · have hf : R = false := by
            cases hRR : R with
            | false => rfl
            | true => have := LI.out.1 ((HR.out.1 hRR).1 j hj); rw [hrr] at this; cases this
          subst hrr
          clear HR
          subst hf
          go_wp2_with fail
          go_ret
          exact ⟨rfl, HE.out.trans E8⟩
    · obtain rfl : j = c.nx := by omega
      have hge : (c.nx : Int) ≤ (c.nx : Int) := Int.le_refl _
      have hxs := hxr
      have HG1 := HG
      clear HG
      go_wp2_with fail
      go_loopw [8] (fun i wr => ∃ j : Nat, j ≤ d.nx ∧ i = .int .i64 j ∧ Hid (∀ t, t < j → Pl.leb c d (d.x t) = true) ∧ Ext ((w.alloc (.cells #[.slice (some ⟨bx, ox, none⟩) c.nx k1, .slice (some ⟨bY, oY, none⟩) c.nx l1] 24)).alloc (.cells #[.slice (some ⟨bx2, ox2, none⟩) d.nx k2, .slice (some ⟨bY2, oY2, none⟩) d.nx l2] 24)) wr) (fun i _ => d.nx - (intOf i).toNat)
      case atStart => exact ⟨0, by omega, rfl, Lib.hid (fun t ht => absurd ht (Nat.not_lt_zero _)), hxs⟩
      case round =>
        obtain ⟨j, hj', rfl, HG, hxr⟩ := hrel
        have A4 := HB.out.ext hxr
        have B4 := HA.out.ext hxr
        have a0 := A4.at 0 _ rfl
        have a1' := A4.at 1 _ rfl
        have al := A4.lt
        have b0 := B4.at 0 _ rfl
        have b1' := B4.at 1 _ rfl
        have bl := B4.lt
        by_cases hj : j < d.nx
        · have E4 := HE.out.trans hxr
          have cx := (E4.cell hbx2).trans (HCX2.out j hj)
          have ej : (j : Int) < (d.nx : Int) := by omega
          have xb := GD.out.inx j hj
          have yb := GD.out.iny j hj
          obtain ⟨x, hxx⟩ : ∃ x, x = d.x j := ⟨_, rfl⟩
          obtain ⟨y, hyy⟩ : ∃ y, y = d.y j := ⟨_, rfl⟩
          have IX : I64 x := by rw [hxx]; unfold I64; omega
          have YB : ValBd y 1 := ⟨by rw [hyy]; omega, by omega⟩
          have CV := Lib.hid (fun U (hU : Ext w U) => value09 (some ⟨bx, ox, none⟩) (some ⟨bY, oY, none⟩) k1 l1 c x U GC.out (HX.out.ext hU) (HY.out.ext hU) IX)
          have VV := Lib.hid (Pl.vr_val GC.out x)
          have VB := Lib.hid (vr_bd GC.out x)
          obtain ⟨n, hn⟩ : ∃ n, n = (Pl.vr c x).1 := ⟨_, rfl⟩
          obtain ⟨m, hm⟩ : ∃ m, m = (Pl.vr c x).2 := ⟨_, rfl⟩
          rw [← hn, ← hm] at CV VV VB
          clear hn hm
          obtain ⟨rr, hrr⟩ : ∃ rr, LessIs y 1 n m rr := ⟨_, rfl⟩
          have LI : Hid (Pl.leb c d (d.x j) = true ↔ rr = false) := Lib.hid (by
            obtain ⟨np, dp, hp⟩ := Pl.val_any GD.out (d.x j)
            have ep := point_val GD.out hj hp
            have dp0 := hp.1
            have vv := VV.out
            rw [hxx] at vv
            rw [hrr]
            rw [show (decide (y * m < n * 1) = false ↔ ¬ y * m < n * 1) from decide_eq_false_iff_not]
            rw [Pl.leb_iff GC.out GD.out vv hp]
            rw [ep, ← hyy]
            constructor
            · intro h
              have e1 : n * dp = n * dp := rfl
              have e2 : y * dp * m = y * m * dp := by grind
              rw [e2] at h; have := Int.le_of_mul_le_mul_right h dp0; omega
            · intro h
              have e2 : y * dp * m = y * m * dp := by grind
              rw [e2]
              exact Int.mul_le_mul_of_nonneg_right (by omega) (Int.le_of_lt dp0))
          have LA := Lib.hid (fun U => less_any y 1 n m rr U YB VB.out hrr)
          have CYj := Lib.hid (HCY2.out j hj)
          rw [← hxx] at cx
          rw [← hyy] at CYj
          clear hrr hxx hyy xb yb IX YB VV
          go_upto_region 10 with fail
          go_region_held3 (fun w' => w'.cell? ⟨(w.heap.size + 1), 0, none⟩ = some (.slice (some ⟨bx2, ox2, none⟩) d.nx k2) ∧ w'.cell? ⟨w.heap.size, 0, none⟩ = some (.slice (some ⟨bx, ox, none⟩) c.nx k1) ∧ w'.cell? ⟨w.heap.size, 1, none⟩ = some (.slice (some ⟨bY, oY, none⟩) c.nx l1) ∧ w'.cell? ⟨bx2, ox2 + j, none⟩ = some (.int .i64 x)) ((refine ⟨?_, ?_, ?_, ?_⟩ <;> assumption))
            (first | (go_at_call 36; refine (CV.out _ ?_).mono ?_; (exact (by repeat (first | with_reducible exact Ext.refl _ | with_reducible assumption | (with_reducible refine Ext.drew ?_) | (with_reducible refine Ext.drewN ?_ _) | (with_reducible refine Ext.alloc ?_ _) | (with_reducible refine Ext.setCell ?_ ?_ _) | (with_reducible refine Ext.trans ?_ (by with_reducible assumption)) | omega | (focus (simp <;> omega))))); rintro e w9 ⟨rfl, hx9⟩; have hx9' : Ext wr w9 := (by repeat (first | with_reducible exact Ext.refl _ | with_reducible assumption | (with_reducible refine Ext.drew ?_) | (with_reducible refine Ext.drewN ?_ _) | (with_reducible refine Ext.alloc ?_ _) | (with_reducible refine Ext.setCell ?_ ?_ _) | (with_reducible refine Ext.trans ?_ (by with_reducible assumption)) | omega | (focus (simp <;> omega)))); have f0 := (A4.ext hx9').at 0 _ rfl; have f1 := (B4.ext hx9').at 0 _ rfl; have f2 := (B4.ext hx9').at 1 _ rfl; have f3 := ((E4.trans hx9').cell hbx2).trans ((E4.cell hbx2).symm.trans cx)))
          all_goals
            have A9 := A4.ext hx9'
            have p0 := A9.at 0 _ rfl
            have p1 := A9.at 1 _ rfl
            have pl := A9.lt
            have cy := ((E4.trans hx9').cell hby2).trans CYj.out
            go_wp2_with fail
            refine (LA.out _).mono ?_
            rintro e w8 ⟨rfl, hx8⟩
            have E8 : Ext ((w.alloc (.cells #[.slice (some ⟨bx, ox, none⟩) c.nx k1, .slice (some ⟨bY, oY, none⟩) c.nx l1] 24)).alloc (.cells #[.slice (some ⟨bx2, ox2, none⟩) d.nx k2, .slice (some ⟨bY2, oY2, none⟩) d.nx l2] 24)) w8 := (hxr.trans hx9').trans hx8
            cases hrr : rr
            · have LL := Lib.hid (LI.out.2 hrr)
              subst hrr
              go_wp2_with fail
              go_roundw
              case rel => exact ⟨j + 1, by omega, by go_num, Lib.hid (fun t ht => by
                by_cases e : t = j
                · rw [e]; exact LL.out
                · exact HG.out t (by omega)), E8⟩
              case measure => simp [intOf]; omega
            · have hf : R = false := by
                cases hRR : R with
                | false => rfl
                | true => have := LI.out.1 ((HR.out.1 hRR).2 j hj); rw [hrr] at this; cases this
              subst hrr
              clear HR
              subst hf
              go_wp2_with fail
              go_ret
              exact ⟨rfl, HE.out.trans E8⟩
        · obtain rfl : j = d.nx := by omega
          have hge : (d.nx : Int) ≤ (d.nx : Int) := Int.le_refl _
          have hf : R = true := HR.out.2 ⟨HG1.out, HG.out⟩
          subst hf
          have E4 := HE.out.trans hxr
          go_wp2_with fail
          go_ret
          exact ⟨rfl, E4⟩

end Go.Proofs.Ytbeolonbboibfaa
