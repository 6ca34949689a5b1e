/- CurveGalois: within the points At(c, x) >= y exactly if x >= Inverse(c, y).
   Conditions: none: every input. -/
import Derived.Test.YtbeolonbboibfaaAwakeCurve
import Derived.Deep.RegionHeld3
namespace Go.Proofs.Ytbeolonbboibfaa.curveGalois
open Go.ChangeShapes Go.WideShapes Go.ChangeAt Go.RowKit
set_option linter.unusedVariables false

set_option maxRecDepth 100000 in
set_option maxHeartbeats 1000000 in
theorem walk_big (a b : Option Addr) (k l : Nat) (c : Pl.Cv) (a1 : Int) (b1 : I64 a1) (a2 : Int) (b2 : I64 a2) (w : World) (hl : lg c = true) :
    Calls Try.prog 7 #[.agg #[.slice a c.nx k, .slice b c.ny l], .int .i64 a1, .int .i64 a2] w fun e w' => e = .returned (.bool true) ∧ Ext w w' := by
  · have LG := Lib.hid hl
    clear hl
    go_enter Try.func7, Try.ntmps7
    go_wp2_with fail
    refine (awake09 _).mono ?_
    rintro e wa ⟨rfl, hxwa⟩
    have A0 := (Blk.new w [.slice a c.nx k, .slice b c.ny l] 24).ext hxwa
    have E0 : Ext w wa := ((Ext.refl w).alloc _).trans hxwa
    have b00 := A0.at 0 _ rfl
    have b10 := A0.at 1 _ rfl
    have bn0 := A0.lt
    go_wp2_with fail
    refine (large_any a b k l c _).mono ?_
    rw [LG.out]
    rintro e w1 ⟨rfl, hx1⟩
    have A1 := A0.ext hx1
    have E1 := E0.trans hx1
    have b01 := A1.at 0 _ rfl
    have b11 := A1.at 1 _ rfl
    have bn1 := A1.lt
    go_wp2_with fail
    refine (awake09 _).mono ?_
    rintro e w2 ⟨rfl, hx2⟩
    have A2 := A1.ext hx2
    have E2 := E1.trans hx2
    have b02 := A2.at 0 _ rfl
    have b12 := A2.at 1 _ rfl
    have bn2 := A2.lt
    go_wp2_with fail
    go_ret
    exact ⟨(by first | rfl | exact ret_true (by simp <;> omega)), (by repeat (first | with_reducible exact Ext.refl _ | with_reducible assumption | (with_reducible refine Ext.drew ?_) | (with_reducible refine Ext.drewN ?_ _) | (with_reducible refine Ext.alloc ?_ _) | (with_reducible refine Ext.setCell ?_ ?_ _) | (with_reducible refine Ext.trans ?_ (by with_reducible assumption)) | omega | (focus (simp <;> omega))))⟩

set_option maxRecDepth 100000 in
set_option maxHeartbeats 1000000 in
theorem walk_ok (a b : Option Addr) (k l : Nat) (c : Pl.Cv) (a1 : Int) (b1 : I64 a1) (a2 : Int) (b2 : I64 a2) (w : World) (hl : lg c = false) (hc : Pl.chk c = 0) (hx : Row w a c.nx c.x) (hy : Row w b c.nx c.y) (lx : c.nx ≤ maxLen) :
    Calls Try.prog 7 #[.agg #[.slice a c.nx k, .slice b c.nx l], .int .i64 a1, .int .i64 a2] w fun e w' => e = .returned (.bool true) ∧ Ext w w' := by
  · have g := Pl.good_of c hc
    have G := Lib.hid g
    have sm := g.same
    have SM := Lib.hid sm
    have HX := Lib.hid hx
    have HY := Lib.hid hy
    have HC := Lib.hid hc
    have LX := Lib.hid lx
    have LG := Lib.hid hl
    have LGN : Hid (lg ⟨c.nx, c.nx, c.x, c.y⟩ = false) := Lib.hid (lg_same sm hl)
    clear b1 b2
    clear hx hy hc hl g sm lx
    have n2 := G.out.two
    have n3 := G.out.few
    have n4 : (2 : Int) ≤ (c.nx : Int) := by omega
    have ⟨ln1, ln2, ln3⟩ := last_facts n2 n3
    have ln4 : (c.nx : Int) - 1 < (c.nx : Int) := by omega
    have n02 : (1 : Int) ≤ (c.nx : Int) := by omega
    have n00 : (0 : Int) < (c.nx : Int) := by omega
    have n04 : 1 ≤ c.nx := by omega
    have n06 : 0 < c.nx := by omega
    have n05 : ¬ (c.nx : Int) - 1 < 0 := by omega
    have RXX : Row w a c.nx c.x := HX.out
    have RYY : Row w b c.nx c.y := HY.out
    obtain ⟨bx, ox, rfl, hbx, hcx⟩ := RXX (by omega)
    obtain ⟨bY, oY, rfl, hby, hcy⟩ := RYY (by omega)
    have x0c := hcx 0 (by omega)
    have y0c := hcy 0 (by omega)
    have xlc := hcx (c.nx - 1) (by omega)
    have ylc := hcy (c.nx - 1) (by omega)
    rw [Nat.add_zero] at x0c y0c
    have X0C := Lib.hid x0c
    have Y0C := Lib.hid y0c
    have XLC := Lib.hid xlc
    have YLC := Lib.hid ylc
    have HCX := Lib.hid hcx
    have HCY := Lib.hid hcy
    clear hcx hcy x0c y0c xlc ylc RXX RYY
    go_enter Try.func7, Try.ntmps7
    go_wp2_with fail
    refine (awake09 _).mono ?_
    rintro e wa ⟨rfl, hxwa⟩
    have A0 := (Blk.new w [.slice (some ⟨bx, ox, none⟩) c.nx k, .slice (some ⟨bY, oY, none⟩) c.nx l] 24).ext hxwa
    have E0 : Ext w wa := ((Ext.refl w).alloc _).trans hxwa
    have b00 := A0.at 0 _ rfl
    have b10 := A0.at 1 _ rfl
    have bn0 := A0.lt
    go_wp2_with fail
    refine (large_any _ _ k l ⟨c.nx, c.nx, c.x, c.y⟩ _).mono ?_
    rw [LGN.out]
    rintro e w1 ⟨rfl, hx1⟩
    have A1 := A0.ext hx1
    have E1 := E0.trans hx1
    have b01 := A1.at 0 _ rfl
    have b11 := A1.at 1 _ rfl
    have bn1 := A1.lt
    go_wp2_with fail
    refine (check09_eq _ _ k l c _ SM.out (HX.out.ext E1) (HY.out.ext E1) LX.out).mono ?_
    rw [HC.out]
    rintro e w2 ⟨rfl, hx2⟩
    have A2 := A1.ext hx2
    have E2 := E1.trans hx2
    have b02 := A2.at 0 _ rfl
    have b12 := A2.at 1 _ rfl
    have bn2 := A2.lt
    have mx02 := (E2.cell hbx).trans X0C.out
    have mxl2 := (E2.cell hbx).trans XLC.out
    have my02 := (E2.cell hby).trans Y0C.out
    have myl2 := (E2.cell hby).trans YLC.out
    have y1 : min a2 (c.y (c.nx - 1)) ≤ c.y (c.nx - 1) := by omega
    have xle := (Pl.up_le G.out (c.nx - 1) 0 (by omega) (by omega)).1
    have IO := Lib.hid (fun V (hV : Ext w V) => inverse_ok _ _ k l c (min a2 (c.y (c.nx - 1))) V HC.out (HX.out.ext hV) (HY.out.ext hV) y1)
    obtain ⟨q, hq⟩ : ∃ q, q = clip a1 (c.x 0) (c.x (c.nx - 1)) := ⟨_, rfl⟩
    have ⟨q1, q2⟩ := clip_bd a1 (c.x 0) (c.x (c.nx - 1)) xle
    rw [← hq] at q1 q2
    have HQ := Lib.hid hq
    have AO := Lib.hid (fun V (hV : Ext w V) => cAt_ok _ _ k l c q V HC.out (HX.out.ext hV) (HY.out.ext hV))
    have LI := Lib.hid (fun r (h : Pl.Least c (min a2 (c.y (c.nx - 1))) r) => And.intro (Pl.least_iff G.out h q1) (And.intro h.1 h.2.1))
    clear hq y1 HC G X0C XLC Y0C YLC HCX HCY
    generalize Pl.Least c = ls at *
    generalize Pl.atv c q = v at *
    generalize c.x 0 = x0 at *
    generalize c.y 0 = y0 at *
    generalize c.x (c.nx - 1) = xl at *
    generalize c.y (c.nx - 1) = yl at *
    go_wp2_with fail
    go_region_held3 (fun w' => w'.cell? ⟨w.heap.size, 0, none⟩ = some (.slice (some ⟨bx, ox, none⟩) c.nx k) ∧ w'.cell? ⟨w.heap.size, 1, none⟩ = some (.slice (some ⟨bY, oY, none⟩) c.nx l) ∧ w'.cell? ⟨bx, ox, none⟩ = some (.int .i64 x0) ∧ w'.cell? ⟨bx, ox + (c.nx - 1), none⟩ = some (.int .i64 xl)) ((refine ⟨?_, ?_, ?_, ?_⟩ <;> assumption))
      (first | (go_at_call 23; refine (clip_any a1 x0 xl _).mono ?_; rw [← HQ.out]; rintro e w9 ⟨rfl, rfl⟩))
    all_goals
      go_wp2_with fail
      refine (AO.out _ ?_).mono ?_
      exact (by repeat (first | with_reducible exact Ext.refl _ | with_reducible assumption | (with_reducible refine Ext.drew ?_) | (with_reducible refine Ext.drewN ?_ _) | (with_reducible refine Ext.alloc ?_ _) | (with_reducible refine Ext.setCell ?_ ?_ _) | (with_reducible refine Ext.trans ?_ (by with_reducible assumption)) | omega | (focus (simp <;> omega))))
      rintro e w8 ⟨rfl, hx8⟩
      have F8 : Ext w2 w8 := (by repeat (first | with_reducible exact Ext.refl _ | with_reducible assumption | (with_reducible refine Ext.drew ?_) | (with_reducible refine Ext.drewN ?_ _) | (with_reducible refine Ext.alloc ?_ _) | (with_reducible refine Ext.setCell ?_ ?_ _) | (with_reducible refine Ext.trans ?_ (by with_reducible assumption)) | omega | (focus (simp <;> omega))))
      have E8 : Ext w w8 := E2.trans F8
      have B8 := A2.ext F8
      have k0 := B8.at 0 _ rfl
      have k1 := B8.at 1 _ rfl
      go_wp2_with fail
      refine (IO.out _ ?_).mono ?_
      exact (by repeat (first | with_reducible exact Ext.refl _ | with_reducible assumption | (with_reducible refine Ext.drew ?_) | (with_reducible refine Ext.drewN ?_ _) | (with_reducible refine Ext.alloc ?_ _) | (with_reducible refine Ext.setCell ?_ ?_ _) | (with_reducible refine Ext.trans ?_ (by with_reducible assumption)) | omega | (focus (simp <;> omega))))
      rintro e w9 ⟨r, hr, rfl, hx9⟩
      have F9 : Ext w2 w9 := F8.trans hx9
      have B9 := A2.ext F9
      have p0 := B9.at 0 _ rfl
      have p1 := B9.at 1 _ rfl
      have px0 := (F9.cell (Nat.lt_of_lt_of_le hbx E2.size)).trans mx02
      have pxl := (F9.cell (Nat.lt_of_lt_of_le hbx E2.size)).trans mxl2
      obtain ⟨hiff, hr1, hr2⟩ := LI.out r hr
      clear LI IO AO hr
      generalize min a2 yl = y' at *
      by_cases hz : y' ≤ v
      · have hz2 := hiff.1 hz
        clear hiff
        go_wp2_with fail
        go_ret
        exact ⟨(by first | rfl | exact ret_true (by simp <;> omega)), (by repeat (first | with_reducible exact Ext.refl _ | with_reducible assumption | (with_reducible refine Ext.drew ?_) | (with_reducible refine Ext.drewN ?_ _) | (with_reducible refine Ext.alloc ?_ _) | (with_reducible refine Ext.setCell ?_ ?_ _) | (with_reducible refine Ext.trans ?_ (by with_reducible assumption)) | omega | (focus (simp <;> omega))))⟩
      · have hz2 : q < r := by
          have : ¬ r ≤ q := fun h => hz (hiff.2 h)
          omega
        have hz3 : v < y' := by omega
        clear hiff hz
        go_wp2_with fail
        go_ret
        exact ⟨(by first | rfl | exact ret_true (by simp <;> omega)), (by repeat (first | with_reducible exact Ext.refl _ | with_reducible assumption | (with_reducible refine Ext.drew ?_) | (with_reducible refine Ext.drewN ?_ _) | (with_reducible refine Ext.alloc ?_ _) | (with_reducible refine Ext.setCell ?_ ?_ _) | (with_reducible refine Ext.trans ?_ (by with_reducible assumption)) | omega | (focus (simp <;> omega))))⟩

set_option maxRecDepth 100000 in
set_option maxHeartbeats 1000000 in
theorem walk_bad (a b : Option Addr) (k l : Nat) (c : Pl.Cv) (a1 : Int) (b1 : I64 a1) (a2 : Int) (b2 : I64 a2) (w : World) (hl : lg c = false) (hc : Pl.chk c ≠ 0) (hx : Row w a c.nx c.x) (hy : Row w b c.ny c.y) (lx : c.nx ≤ maxLen) (ly : c.ny ≤ maxLen) :
    Calls Try.prog 7 #[.agg #[.slice a c.nx k, .slice b c.ny l], .int .i64 a1, .int .i64 a2] w fun e w' => e = .returned (.bool true) ∧ Ext w w' := by
  · have he : errv (Pl.chk c) = .iface 51 (.int .i64 (Pl.chk c)) := by unfold errv; rw [if_neg hc]
    have HE := Lib.hid he
    have HX := Lib.hid hx
    have HY := Lib.hid hy
    have HC := Lib.hid hc
    have LX := Lib.hid lx
    have LY := Lib.hid ly
    have LG := Lib.hid hl
    have nz : (Pl.chk c != 0) = true := by simpa using hc
    have nz2 : (Pl.chk c == 0) = false := by simpa using hc
    have hq : ¬ Pl.chk c = 0 := hc
    obtain ⟨r, hr⟩ : ∃ r, r = Pl.chk c := ⟨_, rfl⟩
    have RR := Lib.hid hr
    rw [← hr] at nz nz2 hq
    clear he hx hy hc lx ly hl hr
    clear b1 b2
    go_enter Try.func7, Try.ntmps7
    go_wp2_with fail
    refine (awake09 _).mono ?_
    rintro e wa ⟨rfl, hxwa⟩
    have A0 := (Blk.new w [.slice a c.nx k, .slice b c.ny l] 24).ext hxwa
    have E0 : Ext w wa := ((Ext.refl w).alloc _).trans hxwa
    have b00 := A0.at 0 _ rfl
    have b10 := A0.at 1 _ rfl
    have bn0 := A0.lt
    go_wp2_with fail
    refine (large_any a b k l c _).mono ?_
    rw [LG.out]
    rintro e w1 ⟨rfl, hx1⟩
    have A1 := A0.ext hx1
    have E1 := E0.trans hx1
    have b01 := A1.at 0 _ rfl
    have b11 := A1.at 1 _ rfl
    have bn1 := A1.lt
    go_wp2_with fail
    refine (check09 a b k l c _ (HX.out.ext E1) (HY.out.ext E1) LX.out LY.out).mono ?_
    rw [← RR.out]
    rintro e w2 ⟨rfl, hx2⟩
    have A2 := A1.ext hx2
    have E2 := E1.trans hx2
    have b02 := A2.at 0 _ rfl
    have b12 := A2.at 1 _ rfl
    have bn2 := A2.lt
    go_wp2_with fail
    refine (awake09 _).mono ?_
    rintro e w3 ⟨rfl, hx3⟩
    have A3 := A2.ext hx3
    have E3 := E2.trans hx3
    have b03 := A3.at 0 _ rfl
    have b13 := A3.at 1 _ rfl
    have bn3 := A3.lt
    go_wp2_with fail
    go_ret
    exact ⟨(by first | rfl | exact ret_true (by simp <;> omega)), (by repeat (first | with_reducible exact Ext.refl _ | with_reducible assumption | (with_reducible refine Ext.drew ?_) | (with_reducible refine Ext.drewN ?_ _) | (with_reducible refine Ext.alloc ?_ _) | (with_reducible refine Ext.setCell ?_ ?_ _) | (with_reducible refine Ext.trans ?_ (by with_reducible assumption)) | omega | (focus (simp <;> omega))))⟩

theorem walk (u0 : Cu) (a1 : Int) (b1 : I64 a1) (a2 : Int) (b2 : I64 a2) (w : World) (hu0 : CuAt w u0) :
    Calls Try.prog 7 #[.agg #[.slice u0.a u0.v.nx u0.k, .slice u0.b u0.v.ny u0.l], .int .i64 a1, .int .i64 a2] w fun e w' => e = .returned (.bool true) ∧ Ext w w' := by
  obtain ⟨a, b, k, l, c⟩ := u0
  obtain ⟨hx, hy, ix, iy, lx, ly⟩ := hu0
  dsimp only at hx hy ix iy lx ly ⊢
  cases hl : lg c
  · by_cases hc : Pl.chk c = 0
    · have sm := (Pl.good_of c hc).same
      rw [← sm] at hy ⊢
      exact walk_ok a b k l c a1 b1 a2 b2 w hl hc hx hy lx
    · exact walk_bad a b k l c a1 b1 a2 b2 w hl hc hx hy lx ly
  · exact walk_big a b k l c a1 b1 a2 b2 w hl

theorem own : ownKnob Try.prog.godebug = none := by kernel_rfl
theorem laidOut : laidOutB Try.prog = true := by kernel_rfl

/-- The row's step: the walk's end is what the row asks. -/
theorem lifted (os : Os) (started : os.Started) (H : Type) (enc : TypeId × Value → H) :
    ReturnsInHanded {} Try.checked os 7 .any (Rows.curveGaloisSpec.pre6 enc Try.prog Try.f7 Rows.curveGaloisRow.domain false) (Rows.curveGaloisSpec.post enc Try.prog Try.f7 false true false false) := by
  refine returnsInHanded_of_change (C := Try.checked) own started (by kernel_rfl) Try.func7
    (ChangeSpec.witness6 (enc := enc) (C := Try.checked) false ⟨#[], #[.agg #[.slice none 0 0, .slice none 0 0], .int .i64 0, .int .i64 0], []⟩ 8 (by kernel_rfl) (by kernel_rfl) (by kernel_rfl) (by kernel_rfl)) ?_
  intro W base args ds gs before hval0 hW hcnd _
  have hval : ∀ (j : Nat) t v, Try.f7.params[j]? = some t → args[j]? = some v → Value.okWide Try.prog W .any base t v := hval0
  have hW' := hW
  obtain ⟨p, q, hA0, hV, rfl, hfz, hnd⟩ := hW
  have hA : DataW.TrodAll enc Try.prog W 0 (fun _ => true) true Try.f7.params.toList args.toList ds p := hA0
  rw [Try.params7] at hA hval
  obtain ⟨v0, vs0, d0, ds0, p0, q0, hargs, rfl, rfl, h0, r0⟩ := trodAll_cons hA
  obtain ⟨v1, vs1, d1, ds1, p1, q1, rfl, rfl, rfl, h1, r1⟩ := trodAll_cons r0
  obtain ⟨v2, vs2, d2, ds2, p2, q2, rfl, rfl, rfl, h2, r2⟩ := trodAll_cons r1
  obtain ⟨rfl, rfl, rfl⟩ := trodAll_nil r2
  obtain rfl : args = #[v0, v1, v2] := by cases args; simp_all
  obtain ⟨rfl, rfl⟩ := trodVars_none hV
  have lt0 : ∀ x ∈ p0, x.block < W.heap.size := by obtain ⟨m, hm⟩ := h0; exact DataW.trod_lt m _ _ _ hm
  obtain ⟨u0, rfl, hu0⟩ := open_crv (hval 0 24 v0 rfl rfl) h0
  have lt1 : ∀ x ∈ p1, x.block < W.heap.size := by obtain ⟨m, hm⟩ := h1; exact DataW.trod_lt m _ _ _ hm
  obtain ⟨a1, rfl, b1⟩ := open_i64 Try.underlying3 (hval 1 3 v1 rfl rfl)
  have lt2 : ∀ x ∈ p2, x.block < W.heap.size := by obtain ⟨m, hm⟩ := h2; exact DataW.trod_lt m _ _ _ hm
  obtain ⟨a2, rfl, b2⟩ := open_i64 Try.underlying3 (hval 2 3 v2 rfl rfl)
  clear hA0 hval0
  refine (walk u0 a1 b1 a2 b2 W hu0).mono fun e W' ⟨he, bel0⟩ => ?_
  subst he
  have bel : Below W.heap.size W W' := bel0
  exact ⟨_, rfl, _, _, _, [], _, [], hW', trodAll_mk1 (shut_bool Try.underlying4 _), (trodAll_cons_mk (Below.trod laidOut (by kernel_rfl) (of_decide_eq_true (by kernel_rfl)) h0 bel lt0) (trodAll_cons_mk (Below.trod laidOut (by kernel_rfl) (of_decide_eq_true (by kernel_rfl)) h1 bel lt1) (trodAll_cons_mk (Below.trod laidOut (by kernel_rfl) (of_decide_eq_true (by kernel_rfl)) h2 bel lt2) trodAll_mk0))), rfl, bel.frame _, fun h => by cases h⟩

theorem over : Rows.curveGaloisRow.holds Try.pinned (OpenSpec.ofChange Rows.curveGaloisSpec) :=
  OpenClaim.holds_of_wide 7 Try.f7 rfl rfl rfl rfl rfl rfl rfl ⟨rfl, rfl, rfl, rfl, rfl⟩ rfl rfl rfl rfl rfl (by kernel_rfl) Try.func7 (by kernel_rfl)
    (of_decide_eq_true (by kernel_rfl)) (by unfold Func.isWrapper; first | (rw [if_pos (by decide +kernel)]; kernel_rfl) | (rw [if_neg (by decide +kernel)]; exact ⟨rfl, rfl⟩))
    (fun os started H enc _ => lifted os started H enc)

/-- The statement. -/
theorem proved : Rows.CurveGaloisSaid := over
#print axioms proved
end Go.Proofs.Ytbeolonbboibfaa.curveGalois
