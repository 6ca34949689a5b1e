/- The contracts of package torque's Limit, Refs and Torque, each walked once.
   Conditions: the configuration is one that Check accepts, but for the errors. -/
import Derived.Test.YtphfgljfjfpomaaTorque
namespace Go.Proofs.Ytphfgljfjfpomaa
open Go.ChangeShapes Go.WideShapes Go.ChangeAt Go.RowKit

set_option maxRecDepth 100000 in
set_option maxHeartbeats 2000000 in
theorem tLimit_ok (t : Tc) (sp tp lk : Int) (w : World) (h : TOk t) (hk : tck t = 0) (hw : TcAt w t) :
    Calls Try.prog 16 #[.agg #[.int .i64 t.most, .int .i64 t.per, .int .i64 t.mx, .slice t.c0.a t.c0.v.nx t.c0.k, .slice t.c0.b t.c0.v.ny t.c0.l, .slice t.c1.a t.c1.v.nx t.c1.k, .slice t.c1.b t.c1.v.ny t.c1.l, .slice t.c2.a t.c2.v.nx t.c2.k, .slice t.c2.b t.c2.v.ny t.c2.l, .slice t.c3.a t.c3.v.nx t.c3.k, .slice t.c3.b t.c3.v.ny t.c3.l], .agg #[.int .i64 sp, .int .i64 tp, .int .i64 lk]] w fun e w' => e = .returned (.tuple #[.int .i64 (lim t sp tp), .nilIface]) ∧ Ext w w' := by
  have E0 : Ext w ((w.alloc (.cells #[.int .i64 t.most, .int .i64 t.per, .int .i64 t.mx, .slice t.c0.a t.c0.v.nx t.c0.k, .slice t.c0.b t.c0.v.ny t.c0.l, .slice t.c1.a t.c1.v.nx t.c1.k, .slice t.c1.b t.c1.v.ny t.c1.l, .slice t.c2.a t.c2.v.nx t.c2.k, .slice t.c2.b t.c2.v.ny t.c2.l, .slice t.c3.a t.c3.v.nx t.c3.k, .slice t.c3.b t.c3.v.ny t.c3.l] 26)).alloc (.cells #[.int .i64 sp, .int .i64 tp, .int .i64 lk] 28)) := ((Ext.refl w).alloc _).alloc _
  have T0 := (Blk.new w [.int .i64 t.most, .int .i64 t.per, .int .i64 t.mx, .slice t.c0.a t.c0.v.nx t.c0.k, .slice t.c0.b t.c0.v.ny t.c0.l, .slice t.c1.a t.c1.v.nx t.c1.k, .slice t.c1.b t.c1.v.ny t.c1.l, .slice t.c2.a t.c2.v.nx t.c2.k, .slice t.c2.b t.c2.v.ny t.c2.l, .slice t.c3.a t.c3.v.nx t.c3.k, .slice t.c3.b t.c3.v.ny t.c3.l] 26).alloc (.cells #[.int .i64 sp, .int .i64 tp, .int .i64 lk] 28)
  have I0 := Blk.new1 w (.cells #[.int .i64 t.most, .int .i64 t.per, .int .i64 t.mx, .slice t.c0.a t.c0.v.nx t.c0.k, .slice t.c0.b t.c0.v.ny t.c0.l, .slice t.c1.a t.c1.v.nx t.c1.k, .slice t.c1.b t.c1.v.ny t.c1.l, .slice t.c2.a t.c2.v.nx t.c2.k, .slice t.c2.b t.c2.v.ny t.c2.l, .slice t.c3.a t.c3.v.nx t.c3.k, .slice t.c3.b t.c3.v.ny t.c3.l] 26) [.int .i64 sp, .int .i64 tp, .int .i64 lk] 28
  have ⟨⟨mo0, mo1⟩, ⟨pe0, pe1⟩, ⟨mx0, mx1⟩⟩ := h.rg
  have hc := tcheck t _ (hw.ext E0)
  rw [hk, errv_0] at hc
  have CL := Lib.hid (fun V (hV : Ext ((w.alloc (.cells #[.int .i64 t.most, .int .i64 t.per, .int .i64 t.mx, .slice t.c0.a t.c0.v.nx t.c0.k, .slice t.c0.b t.c0.v.ny t.c0.l, .slice t.c1.a t.c1.v.nx t.c1.k, .slice t.c1.b t.c1.v.ny t.c1.l, .slice t.c2.a t.c2.v.nx t.c2.k, .slice t.c2.b t.c2.v.ny t.c2.l, .slice t.c3.a t.c3.v.nx t.c3.k, .slice t.c3.b t.c3.v.ny t.c3.l] 26)).alloc (.cells #[.int .i64 sp, .int .i64 tp, .int .i64 lk] 28)) V) => tlimit_ok t sp tp lk V h (hw.ext (E0.trans hV)))
  have HC := Lib.hid hc
  have HT := Lib.hid T0
  have HI := Lib.hid I0
  clear h hw hc T0 I0 hk E0
  generalize lim t sp tp = r at *
  go_enter Try.func16, Try.ntmps16
  go_wp2_with fail
  refine HC.out.mono ?_
  rintro e w1 ⟨rfl, hx1⟩
  have T1 := HT.out.ext hx1
  have I1 := HI.out.ext hx1
  have k0 := T1.at 0 _ rfl
  have k1 := T1.at 1 _ rfl
  have k2 := T1.at 2 _ rfl
  have k3 := T1.at 3 _ rfl
  have k4 := T1.at 4 _ rfl
  have k5 := T1.at 5 _ rfl
  have k6 := T1.at 6 _ rfl
  have k7 := T1.at 7 _ rfl
  have k8 := T1.at 8 _ rfl
  have k9 := T1.at 9 _ rfl
  have k10 := T1.at 10 _ rfl
  have j0 := I1.at 0 _ rfl
  have j1 := I1.at 1 _ rfl
  have j2 := I1.at 2 _ rfl
  go_wp2_with fail
  refine (CL.out _ hx1).mono ?_
  rintro e w2 ⟨rfl, hx2⟩
  go_wp2_with fail
  go_ret2
  exact ⟨rfl, (by repeat (first | with_reducible exact Ext.refl _ | with_reducible assumption | (with_reducible refine Ext.drew ?_) | (with_reducible refine Ext.drewN ?_ _) | (with_reducible refine Ext.alloc ?_ _) | (with_reducible refine Ext.setCell ?_ ?_ _) | (with_reducible refine Ext.trans ?_ (by with_reducible assumption)) | omega | (focus (simp <;> omega))))⟩
theorem tLimit_bad (t : Tc) (sp tp lk : Int) (w : World) (hk : tck t ≠ 0) (hw : TcAt w t) :
    Calls Try.prog 16 #[.agg #[.int .i64 t.most, .int .i64 t.per, .int .i64 t.mx, .slice t.c0.a t.c0.v.nx t.c0.k, .slice t.c0.b t.c0.v.ny t.c0.l, .slice t.c1.a t.c1.v.nx t.c1.k, .slice t.c1.b t.c1.v.ny t.c1.l, .slice t.c2.a t.c2.v.nx t.c2.k, .slice t.c2.b t.c2.v.ny t.c2.l, .slice t.c3.a t.c3.v.nx t.c3.k, .slice t.c3.b t.c3.v.ny t.c3.l], .agg #[.int .i64 sp, .int .i64 tp, .int .i64 lk]] w fun e w' => e = .returned (.tuple #[.int .i64 0, errv (tck t)]) ∧ Ext w w' := by
  have E0 : Ext w ((w.alloc (.cells #[.int .i64 t.most, .int .i64 t.per, .int .i64 t.mx, .slice t.c0.a t.c0.v.nx t.c0.k, .slice t.c0.b t.c0.v.ny t.c0.l, .slice t.c1.a t.c1.v.nx t.c1.k, .slice t.c1.b t.c1.v.ny t.c1.l, .slice t.c2.a t.c2.v.nx t.c2.k, .slice t.c2.b t.c2.v.ny t.c2.l, .slice t.c3.a t.c3.v.nx t.c3.k, .slice t.c3.b t.c3.v.ny t.c3.l] 26)).alloc (.cells #[.int .i64 sp, .int .i64 tp, .int .i64 lk] 28)) := ((Ext.refl w).alloc _).alloc _
  have hc := tcheck t _ (hw.ext E0)
  have he : errv (tck t) = .iface 64 (.int .i64 (tck t)) := by unfold errv; rw [if_neg hk]
  rw [he] at hc ⊢
  have HC := Lib.hid hc
  clear hw hc hk he E0
  generalize tck t = r at *
  go_enter Try.func16, Try.ntmps16
  go_wp2_with fail
  refine HC.out.mono ?_
  rintro e w1 ⟨rfl, hx1⟩
  go_wp2_with fail
  go_ret2
  exact ⟨rfl, (by repeat (first | with_reducible exact Ext.refl _ | with_reducible assumption | (with_reducible refine Ext.drew ?_) | (with_reducible refine Ext.drewN ?_ _) | (with_reducible refine Ext.alloc ?_ _) | (with_reducible refine Ext.setCell ?_ ?_ _) | (with_reducible refine Ext.trans ?_ (by with_reducible assumption)) | omega | (focus (simp <;> omega))))⟩

theorem tqq_facts (t : Tc) (h : TRange t) (iq : Int) : (-1099511627776 ≤ clip iq (-1048576) 1048576 * t.per ∧ clip iq (-1048576) 1048576 * t.per ≤ 1099511627776) := by
  have a := clip_bd iq (-1048576) 1048576 (by omega)
  have ⟨p0, p1⟩ := h.2.1
  have b := Int.mul_le_mul_of_nonneg_right a.2 (show 0 ≤ t.per by omega)
  have c := Int.mul_le_mul_of_nonneg_right a.1 (show 0 ≤ t.per by omega)
  omega
set_option maxRecDepth 100000 in
set_option maxHeartbeats 2000000 in
theorem tTorque_ok (t : Tc) (iq : Int) (w : World) (h : TOk t) (hk : tck t = 0) (hw : TcAt w t) :
    Calls Try.prog 14 #[.agg #[.int .i64 t.most, .int .i64 t.per, .int .i64 t.mx, .slice t.c0.a t.c0.v.nx t.c0.k, .slice t.c0.b t.c0.v.ny t.c0.l, .slice t.c1.a t.c1.v.nx t.c1.k, .slice t.c1.b t.c1.v.ny t.c1.l, .slice t.c2.a t.c2.v.nx t.c2.k, .slice t.c2.b t.c2.v.ny t.c2.l, .slice t.c3.a t.c3.v.nx t.c3.k, .slice t.c3.b t.c3.v.ny t.c3.l], .int .i64 iq] w fun e w' => e = .returned (.tuple #[.int .i64 (tqq t iq), .nilIface]) ∧ Ext w w' := by
  have E0 : Ext w (w.alloc (.cells #[.int .i64 t.most, .int .i64 t.per, .int .i64 t.mx, .slice t.c0.a t.c0.v.nx t.c0.k, .slice t.c0.b t.c0.v.ny t.c0.l, .slice t.c1.a t.c1.v.nx t.c1.k, .slice t.c1.b t.c1.v.ny t.c1.l, .slice t.c2.a t.c2.v.nx t.c2.k, .slice t.c2.b t.c2.v.ny t.c2.l, .slice t.c3.a t.c3.v.nx t.c3.k, .slice t.c3.b t.c3.v.ny t.c3.l] 26)) := (Ext.refl w).alloc _
  have T0 := Blk.new w [.int .i64 t.most, .int .i64 t.per, .int .i64 t.mx, .slice t.c0.a t.c0.v.nx t.c0.k, .slice t.c0.b t.c0.v.ny t.c0.l, .slice t.c1.a t.c1.v.nx t.c1.k, .slice t.c1.b t.c1.v.ny t.c1.l, .slice t.c2.a t.c2.v.nx t.c2.k, .slice t.c2.b t.c2.v.ny t.c2.l, .slice t.c3.a t.c3.v.nx t.c3.k, .slice t.c3.b t.c3.v.ny t.c3.l] 26
  have hc := tcheck t _ (hw.ext E0)
  rw [hk, errv_0] at hc
  have ⟨f1, f2⟩ := tqq_facts t h.rg iq
  have hq : tqq t iq = clip ((clip iq (-1048576) 1048576 * t.per).tdiv 1024) (-16777216) 16777216 := rfl
  have td := Pl.td (clip iq (-1048576) 1048576 * t.per) 1024 (by omega)
  rw [hq]
  obtain ⟨z, hz⟩ : ∃ z, z = clip iq (-1048576) 1048576 := ⟨_, rfl⟩
  rw [← hz] at f1 f2 td ⊢
  obtain ⟨v, hv⟩ : ∃ v, v = clip ((z * t.per).tdiv 1024) (-16777216) 16777216 := ⟨_, rfl⟩
  rw [← hv]
  have w1 : IntKind.i64.wrap (z * t.per) = z * t.per := IntWalk.i64_in _ (by omega)
  have w2 : IntKind.i64.wrap ((z * t.per).tdiv 1024) = (z * t.per).tdiv 1024 := IntWalk.i64_in _ (by omega)
  have HZ := Lib.hid hz
  have HV := Lib.hid hv
  have HC := Lib.hid hc
  have HT := Lib.hid T0
  clear h hw hc T0 hk hz hv hq td E0
  go_enter Try.func14, Try.ntmps14
  go_wp2_with fail
  refine HC.out.mono ?_
  rintro e w1 ⟨rfl, hx1⟩
  have T1 := HT.out.ext hx1
  have k1 := T1.at 1 _ rfl
  go_wp2_with fail
  refine (tclip_any iq (-1048576) 1048576 _).mono ?_
  rw [← HZ.out]
  rintro e w2 ⟨rfl, rfl⟩
  go_wp2_with fail
  refine (tclip_any ((z * t.per).tdiv 1024) (-16777216) 16777216 _).mono ?_
  rw [← HV.out]
  rintro e w2 ⟨rfl, rfl⟩
  go_wp2_with fail
  go_ret2
  exact ⟨rfl, (by repeat (first | with_reducible exact Ext.refl _ | with_reducible assumption | (with_reducible refine Ext.drew ?_) | (with_reducible refine Ext.drewN ?_ _) | (with_reducible refine Ext.alloc ?_ _) | (with_reducible refine Ext.setCell ?_ ?_ _) | (with_reducible refine Ext.trans ?_ (by with_reducible assumption)) | omega | (focus (simp <;> omega))))⟩
theorem tTorque_bad (t : Tc) (iq : Int) (w : World) (hk : tck t ≠ 0) (hw : TcAt w t) :
    Calls Try.prog 14 #[.agg #[.int .i64 t.most, .int .i64 t.per, .int .i64 t.mx, .slice t.c0.a t.c0.v.nx t.c0.k, .slice t.c0.b t.c0.v.ny t.c0.l, .slice t.c1.a t.c1.v.nx t.c1.k, .slice t.c1.b t.c1.v.ny t.c1.l, .slice t.c2.a t.c2.v.nx t.c2.k, .slice t.c2.b t.c2.v.ny t.c2.l, .slice t.c3.a t.c3.v.nx t.c3.k, .slice t.c3.b t.c3.v.ny t.c3.l], .int .i64 iq] w fun e w' => e = .returned (.tuple #[.int .i64 0, errv (tck t)]) ∧ Ext w w' := by
  have E0 : Ext w (w.alloc (.cells #[.int .i64 t.most, .int .i64 t.per, .int .i64 t.mx, .slice t.c0.a t.c0.v.nx t.c0.k, .slice t.c0.b t.c0.v.ny t.c0.l, .slice t.c1.a t.c1.v.nx t.c1.k, .slice t.c1.b t.c1.v.ny t.c1.l, .slice t.c2.a t.c2.v.nx t.c2.k, .slice t.c2.b t.c2.v.ny t.c2.l, .slice t.c3.a t.c3.v.nx t.c3.k, .slice t.c3.b t.c3.v.ny t.c3.l] 26)) := (Ext.refl w).alloc _
  have hc := tcheck t _ (hw.ext E0)
  have he : errv (tck t) = .iface 64 (.int .i64 (tck t)) := by unfold errv; rw [if_neg hk]
  rw [he] at hc ⊢
  have HC := Lib.hid hc
  clear hw hc hk he E0
  generalize tck t = r at *
  go_enter Try.func14, Try.ntmps14
  go_wp2_with fail
  refine HC.out.mono ?_
  rintro e w1 ⟨rfl, hx1⟩
  go_wp2_with fail
  go_ret2
  exact ⟨rfl, (by repeat (first | with_reducible exact Ext.refl _ | with_reducible assumption | (with_reducible refine Ext.drew ?_) | (with_reducible refine Ext.drewN ?_ _) | (with_reducible refine Ext.alloc ?_ _) | (with_reducible refine Ext.setCell ?_ ?_ _) | (with_reducible refine Ext.trans ?_ (by with_reducible assumption)) | omega | (focus (simp <;> omega))))⟩

/-- The bounds of what Refs computes. -/
theorem ref_facts (t : Tc) (h : TOk t) (tq sp tp lk : Int) :
    (-16777216 ≤ clip tq (-(lim t sp tp)) (lim t sp tp) ∧ clip tq (-(lim t sp tp)) (lim t sp tp) ≤ 16777216) ∧
    (-t.mx ≤ txx t tq (lim t sp tp) ∧ txx t tq (lim t sp tp) ≤ t.mx) ∧
    (0 ≤ tag t (txx t tq (lim t sp tp)) sp lk ∧ tag t (txx t tq (lim t sp tp)) sp lk ≤ 2147483648) ∧
    RestOK t.mx (rfd t tq sp tp lk) ∧ (0 ≤ rst t.mx (rfd t tq sp tp lk) ∧ rst t.mx (rfd t tq sp tp lk) ≤ t.mx) ∧ (-t.mx ≤ rfd t tq sp tp lk ∧ rfd t tq sp tp lk ≤ 0) := by
  have l := lim_bd t h.rg sp tp
  have c := clip_bd tq (-(lim t sp tp)) (lim t sp tp) (by omega)
  have ⟨⟨mo0, mo1⟩, ⟨pe0, pe1⟩, ⟨mx0, mx1⟩⟩ := h.rg
  have x : -t.mx ≤ txx t tq (lim t sp tp) ∧ txx t tq (lim t sp tp) ≤ t.mx := clip_bd _ _ _ (by omega)
  have a1 := Pl.atv_in (Pl.good_of _ h.k2) (max (txx t tq (lim t sp tp)) (-(txx t tq (lim t sp tp))))
  have a2 := Pl.atv_in (Pl.good_of _ h.k3) (tst sp lk)
  have d : -t.mx ≤ rfd t tq sp tp lk ∧ rfd t tq sp tp lk ≤ 0 := clip_bd _ _ _ (by omega)
  have ro : RestOK t.mx (rfd t tq sp tp lk) := ⟨⟨by omega, by omega⟩, ⟨by omega, by omega⟩, by omega, by omega, by omega⟩
  have rb := Pl.rest_bd t.mx (rfd t tq sp tp lk) (by omega) (by omega) (by omega)
  refine ⟨⟨by omega, by omega⟩, x, ⟨by unfold tag; omega, by unfold tag; omega⟩, ro, ⟨rb.2.1, rb.2.2.1⟩, d⟩
theorem refs_ret {W : World} {n : Nat} {u0 u1 e : Value} {tmps : Array Value} (Z : Blk W n [u0, u1]) (h : tmps[6]? = some (.pointer (some ⟨n, 0, none⟩))) (h9 : tmps[7]? = some e) :
    (results Try.f12 tmps).run Try.prog W = .ok (.tuple #[.agg #[u0, u1], e]) W := by
  have z0 := Z.at 0 _ rfl
  have z1 := Z.at 1 _ rfl
  simp [results, Try.results12, go_sem, z0, z1, h, h9]

set_option maxRecDepth 100000 in
set_option maxHeartbeats 2000000 in
theorem tRefs_ok (t : Tc) (tq sp tp lk : Int) (w : World) (h : TOk t) (hk : tck t = 0) (hw : TcAt w t) :
    Calls Try.prog 12 #[.agg #[.int .i64 t.most, .int .i64 t.per, .int .i64 t.mx, .slice t.c0.a t.c0.v.nx t.c0.k, .slice t.c0.b t.c0.v.ny t.c0.l, .slice t.c1.a t.c1.v.nx t.c1.k, .slice t.c1.b t.c1.v.ny t.c1.l, .slice t.c2.a t.c2.v.nx t.c2.k, .slice t.c2.b t.c2.v.ny t.c2.l, .slice t.c3.a t.c3.v.nx t.c3.k, .slice t.c3.b t.c3.v.ny t.c3.l], .int .i64 tq, .agg #[.int .i64 sp, .int .i64 tp, .int .i64 lk]] w fun e w' => e = .returned (.tuple #[.agg #[.int .i64 (rfd t tq sp tp lk), .int .i64 (rfq t tq sp tp lk)], .nilIface]) ∧ Ext w w' := by
  have ⟨⟨mo0, mo1⟩, ⟨pe0, pe1⟩, ⟨mx0, mx1⟩⟩ := h.rg
  have ⟨⟨c1, c2⟩, ⟨x1, x2⟩, ⟨g1, g2⟩, ro, ⟨r1, r2⟩, ⟨d1, d2⟩⟩ := ref_facts t h tq sp tp lk
  have ⟨l1, l2, l3⟩ := lim_bd t h.rg sp tp
  have ⟨t1, t2⟩ := tq_bd (clip tq (-(lim t sp tp)) (lim t sp tp)) t.per ⟨c1, c2⟩ pe0
  have ⟨n1, n2⟩ := tn_bd sp
  have ⟨v1, v2⟩ := tvl_bd lk
  have ⟨s1, s2⟩ := tst_bd sp lk
  have E0 : Ext w ((((w.alloc (.cells #[.int .i64 t.most, .int .i64 t.per, .int .i64 t.mx, .slice t.c0.a t.c0.v.nx t.c0.k, .slice t.c0.b t.c0.v.ny t.c0.l, .slice t.c1.a t.c1.v.nx t.c1.k, .slice t.c1.b t.c1.v.ny t.c1.l, .slice t.c2.a t.c2.v.nx t.c2.k, .slice t.c2.b t.c2.v.ny t.c2.l, .slice t.c3.a t.c3.v.nx t.c3.k, .slice t.c3.b t.c3.v.ny t.c3.l] 26)).alloc (.cells #[.int .i64 sp, .int .i64 tp, .int .i64 lk] 28))).alloc (.cells #[.int .i64 0, .int .i64 0] 33)) := (((Ext.refl w).alloc _).alloc _).alloc _
  have T0 := ((Blk.new w [.int .i64 t.most, .int .i64 t.per, .int .i64 t.mx, .slice t.c0.a t.c0.v.nx t.c0.k, .slice t.c0.b t.c0.v.ny t.c0.l, .slice t.c1.a t.c1.v.nx t.c1.k, .slice t.c1.b t.c1.v.ny t.c1.l, .slice t.c2.a t.c2.v.nx t.c2.k, .slice t.c2.b t.c2.v.ny t.c2.l, .slice t.c3.a t.c3.v.nx t.c3.k, .slice t.c3.b t.c3.v.ny t.c3.l] 26).alloc (.cells #[.int .i64 sp, .int .i64 tp, .int .i64 lk] 28)).alloc (.cells #[.int .i64 0, .int .i64 0] 33)
  have I0 := (Blk.new1 w (.cells #[.int .i64 t.most, .int .i64 t.per, .int .i64 t.mx, .slice t.c0.a t.c0.v.nx t.c0.k, .slice t.c0.b t.c0.v.ny t.c0.l, .slice t.c1.a t.c1.v.nx t.c1.k, .slice t.c1.b t.c1.v.ny t.c1.l, .slice t.c2.a t.c2.v.nx t.c2.k, .slice t.c2.b t.c2.v.ny t.c2.l, .slice t.c3.a t.c3.v.nx t.c3.k, .slice t.c3.b t.c3.v.ny t.c3.l] 26) [.int .i64 sp, .int .i64 tp, .int .i64 lk] 28).alloc (.cells #[.int .i64 0, .int .i64 0] 33)
  have hc := tcheck t _ (hw.ext E0)
  rw [hk, errv_0] at hc
  have CL := Lib.hid (fun V (hV : Ext w V) => tlimit_ok t sp tp lk V h (hw.ext hV))
  have CT := Lib.hid (fun V => tturn_any sp tp lk V)
  have C2 := Lib.hid (fun q V (hV : Ext w V) => tat_any t.c2 q h.k2 (hw.c2.ext hV))
  have C3 := Lib.hid (fun V (hV : Ext w V) => tat_any t.c3 (tst sp lk) h.k3 (hw.c3.ext hV))
  have CR := Lib.hid (fun V => rest_ok t.mx (rfd t tq sp tp lk) V ro)
  have D0 : Hid (Blk ((((w.alloc (.cells #[.int .i64 t.most, .int .i64 t.per, .int .i64 t.mx, .slice t.c0.a t.c0.v.nx t.c0.k, .slice t.c0.b t.c0.v.ny t.c0.l, .slice t.c1.a t.c1.v.nx t.c1.k, .slice t.c1.b t.c1.v.ny t.c1.l, .slice t.c2.a t.c2.v.nx t.c2.k, .slice t.c2.b t.c2.v.ny t.c2.l, .slice t.c3.a t.c3.v.nx t.c3.k, .slice t.c3.b t.c3.v.ny t.c3.l] 26)).alloc (.cells #[.int .i64 sp, .int .i64 tp, .int .i64 lk] 28))).alloc (.cells #[.int .i64 0, .int .i64 0] 33)) (w.heap.size + 1 + 1) [.int .i64 0, .int .i64 0]) := Lib.hid (by
    have hh := Blk.new ((w.alloc (.cells #[.int .i64 t.most, .int .i64 t.per, .int .i64 t.mx, .slice t.c0.a t.c0.v.nx t.c0.k, .slice t.c0.b t.c0.v.ny t.c0.l, .slice t.c1.a t.c1.v.nx t.c1.k, .slice t.c1.b t.c1.v.ny t.c1.l, .slice t.c2.a t.c2.v.nx t.c2.k, .slice t.c2.b t.c2.v.ny t.c2.l, .slice t.c3.a t.c3.v.nx t.c3.k, .slice t.c3.b t.c3.v.ny t.c3.l] 26)).alloc (.cells #[.int .i64 sp, .int .i64 tp, .int .i64 lk] 28)) [.int .i64 0, .int .i64 0] 33
    have e : (((w.alloc (.cells #[.int .i64 t.most, .int .i64 t.per, .int .i64 t.mx, .slice t.c0.a t.c0.v.nx t.c0.k, .slice t.c0.b t.c0.v.ny t.c0.l, .slice t.c1.a t.c1.v.nx t.c1.k, .slice t.c1.b t.c1.v.ny t.c1.l, .slice t.c2.a t.c2.v.nx t.c2.k, .slice t.c2.b t.c2.v.ny t.c2.l, .slice t.c3.a t.c3.v.nx t.c3.k, .slice t.c3.b t.c3.v.ny t.c3.l] 26)).alloc (.cells #[.int .i64 sp, .int .i64 tp, .int .i64 lk] 28))).heap.size = w.heap.size + 1 + 1 := by simp
    rw [e] at hh; exact hh)
  have e1 : txx t tq (lim t sp tp) = clip ((clip tq (-(lim t sp tp)) (lim t sp tp) * 1024).tdiv t.per) (-t.mx) t.mx := rfl
  have e2 : tvl lk = max 1 ((clip lk 0 1048576).tdiv 1000) := rfl
  have e3 : tst sp lk = (tn sp * 1000).tdiv (tvl lk) := rfl
  have e4 : tag t (txx t tq (lim t sp tp)) sp lk = max 0 (Pl.atv t.c2.v (max (txx t tq (lim t sp tp)) (-(txx t tq (lim t sp tp))))) + max 0 (Pl.atv t.c3.v (tst sp lk)) := rfl
  have e5 : rfd t tq sp tp lk = clip (-(tag t (txx t tq (lim t sp tp)) sp lk)) (-t.mx) 0 := rfl
  have e6 : rfq t tq sp tp lk = clip (txx t tq (lim t sp tp)) (-(rst t.mx (rfd t tq sp tp lk))) (rst t.mx (rfd t tq sp tp lk)) := rfl
  have a1 := Pl.atv_in (Pl.good_of _ h.k2) (max (txx t tq (lim t sp tp)) (-(txx t tq (lim t sp tp))))
  have a2 := Pl.atv_in (Pl.good_of _ h.k3) (tst sp lk)
  have k1 := clip_bd lk 0 1048576 (by omega)
  have td1 := Pl.td (clip lk 0 1048576) 1000 (by omega)
  have C2x := Lib.hid (C2.out (max (txx t tq (lim t sp tp)) (-(txx t tq (lim t sp tp)))))
  have HT := Lib.hid T0
  have HI := Lib.hid I0
  have HE := Lib.hid E0
  have HC := Lib.hid hc
  clear C2 T0 I0 E0 hc h hw hk ro
  generalize rfq t tq sp tp lk = qq at *
  generalize rst t.mx (rfd t tq sp tp lk) = rr at *
  generalize rfd t tq sp tp lk = dd at *
  generalize tag t (txx t tq (lim t sp tp)) sp lk = gg at *
  generalize txx t tq (lim t sp tp) = xx at *
  generalize lim t sp tp = ll at *
  generalize Pl.atv t.c2.v (max xx (-xx)) = u2 at *
  generalize Pl.atv t.c3.v (tst sp lk) = u3 at *
  generalize tst sp lk = st at *
  generalize tvl lk = vl at *
  generalize tn sp = nn at *
  obtain ⟨cq, hcq⟩ : ∃ cq, cq = clip tq (-ll) ll := ⟨_, rfl⟩
  obtain ⟨ck, hck⟩ : ∃ ck, ck = clip lk 0 1048576 := ⟨_, rfl⟩
  rw [← hcq] at e1 c1 c2 t1 t2
  rw [← hck] at e2 k1 td1
  obtain ⟨k11, k12⟩ := k1
  obtain ⟨a11, a12⟩ := a1
  obtain ⟨a21, a22⟩ := a2
  have w1 : IntKind.i64.wrap (cq * 1024) = cq * 1024 := IntWalk.i64_in _ (by omega)
  have w2 : IntKind.i64.wrap ((cq * 1024).tdiv t.per) = (cq * 1024).tdiv t.per := IntWalk.i64_in _ (by omega)
  have w3 : IntKind.i64.wrap (-ll) = -ll := IntWalk.i64_in _ (by omega)
  have w4 : IntKind.i64.wrap (-t.mx) = -t.mx := IntWalk.i64_in _ (by omega)
  have w5 : IntKind.i64.wrap (ck.tdiv 1000) = ck.tdiv 1000 := IntWalk.i64_in _ (by omega)
  have w6 : IntKind.i64.wrap (nn * 1000) = nn * 1000 := IntWalk.i64_in _ (by omega)
  have w7 : IntKind.i64.wrap ((nn * 1000).tdiv vl) = (nn * 1000).tdiv vl := IntWalk.i64_in _ (by rw [← e3]; omega)
  have w8 : IntKind.i64.wrap (-xx) = -xx := IntWalk.i64_in _ (by omega)
  have w9 : IntKind.i64.wrap (max 0 u2 + max 0 u3) = gg := by rw [e4]; exact IntWalk.i64_in _ (by omega)
  have w10 : IntKind.i64.wrap (-gg) = -gg := IntWalk.i64_in _ (by omega)
  have w11 : IntKind.i64.wrap (-rr) = -rr := IntWalk.i64_in _ (by omega)
  have z1 : ¬ t.per = 0 := by omega
  have z2 : ¬ vl = 0 := by omega
  have z3 : ck / 1000 = ck.tdiv 1000 := (Int.tdiv_eq_ediv_of_nonneg k11).symm
  have z4 : (nn * 1000) / vl = (nn * 1000).tdiv vl := (Int.tdiv_eq_ediv_of_nonneg (by omega)).symm
  have X1 := Lib.hid e1
  have X2 := Lib.hid e2
  have X3 := Lib.hid e3
  have X4 := Lib.hid e4
  have X5 := Lib.hid e5
  have X6 := Lib.hid e6
  have HQ := Lib.hid hcq
  have HK := Lib.hid hck
  clear e1 e2 e3 e4 e5 e6 hcq hck td1
  go_enter Try.func12, Try.ntmps12
  go_wp2_with fail
  refine HC.out.mono ?_
  rintro e w1 ⟨rfl, hx1⟩
  have E1 := HE.out.trans hx1
  have T1 := HT.out.ext hx1
  have I1 := HI.out.ext hx1
  have D1 := D0.out.ext hx1
  have k0 := T1.at 0 _ rfl
  have k1 := T1.at 1 _ rfl
  have k2 := T1.at 2 _ rfl
  have k3 := T1.at 3 _ rfl
  have k4 := T1.at 4 _ rfl
  have k5 := T1.at 5 _ rfl
  have k6 := T1.at 6 _ rfl
  have k7 := T1.at 7 _ rfl
  have k8 := T1.at 8 _ rfl
  have k9 := T1.at 9 _ rfl
  have k10 := T1.at 10 _ rfl
  have j0 := I1.at 0 _ rfl
  have j1 := I1.at 1 _ rfl
  have j2 := I1.at 2 _ rfl
  go_wp2_with fail
  refine (CL.out _ E1).mono ?_
  rintro e w2 ⟨rfl, hx2⟩
  have E2 := E1.trans hx2
  have T2 := T1.ext hx2
  have I2 := I1.ext hx2
  have D2 := D1.ext hx2
  have k1 := T2.at 1 _ rfl
  have k2 := T2.at 2 _ rfl
  have j0 := I2.at 0 _ rfl
  have j1 := I2.at 1 _ rfl
  have j2 := I2.at 2 _ rfl
  go_wp2_with fail
  go_region_held3 (fun w' => w'.cell? ⟨w.heap.size, 1, none⟩ = some (.int .i64 t.per) ∧ w'.cell? ⟨w.heap.size, 2, none⟩ = some (.int .i64 t.mx)) ((refine ⟨?_, ?_⟩ <;> assumption))
    (first | (go_at_call 25; (with_reducible refine (tclip_any tq (-ll) ll _).mono ?_); rw [← HQ.out]; rintro e w9 ⟨rfl, rfl⟩) | (go_at_call 25; (with_reducible refine (tclip_any ((cq * 1024).tdiv t.per) (-t.mx) t.mx _).mono ?_); rw [← X1.out]; rintro e w9 ⟨rfl, rfl⟩))
  all_goals
    go_wp2_with fail
    refine (tclip_any lk 0 1048576 _).mono ?_
    rw [← HK.out]
    rintro e w9 ⟨rfl, rfl⟩
    have v0 : max 1 (ck.tdiv 1000) = vl := X2.out.symm
    go_wp2_with fail
    refine (CT.out _).mono ?_
    rintro e w3 ⟨rfl, hx3⟩
    have F3 : Ext w2 w3 := (by repeat (first | with_reducible exact Ext.refl _ | with_reducible assumption | (with_reducible refine Ext.drew ?_) | (with_reducible refine Ext.drewN ?_ _) | (with_reducible refine Ext.alloc ?_ _) | (with_reducible refine Ext.setCell ?_ ?_ _) | (with_reducible refine Ext.trans ?_ (by with_reducible assumption)) | omega | (focus (simp <;> omega))))
    have E3 := E2.trans F3
    have T3 := T2.ext F3
    have I3 := I2.ext F3
    have D3 := D2.ext F3
    have k7 := T3.at 7 _ rfl
    have k8 := T3.at 8 _ rfl
    have k9 := T3.at 9 _ rfl
    have k10 := T3.at 10 _ rfl
    have s0 : (nn * 1000).tdiv vl = st := X3.out.symm
    go_wp2_with fail
    go_region_held3 (fun w' => w'.cell? ⟨w.heap.size, 7, none⟩ = some (.slice t.c2.a t.c2.v.nx t.c2.k) ∧ w'.cell? ⟨w.heap.size, 8, none⟩ = some (.slice t.c2.b t.c2.v.ny t.c2.l) ∧ w'.cell? ⟨w.heap.size, 9, none⟩ = some (.slice t.c3.a t.c3.v.nx t.c3.k) ∧ w'.cell? ⟨w.heap.size, 10, none⟩ = some (.slice t.c3.b t.c3.v.ny t.c3.l)) ((refine ⟨?_, ?_, ?_, ?_⟩ <;> assumption))
      (first | (go_at_call 27; (with_reducible refine (C2x.out _ ?_).mono ?_); (exact E3.trans (by repeat (first | with_reducible exact Ext.refl _ | with_reducible assumption | (with_reducible refine Ext.drew ?_) | (with_reducible refine Ext.drewN ?_ _) | (with_reducible refine Ext.alloc ?_ _) | (with_reducible refine Ext.setCell ?_ ?_ _) | (with_reducible refine Ext.trans ?_ (by with_reducible assumption)) | omega | (focus (simp <;> omega))))); rintro e w9 ⟨rfl, hx9⟩; have F9 : Ext w3 w9 := (by repeat (first | with_reducible exact Ext.refl _ | with_reducible assumption | (with_reducible refine Ext.drew ?_) | (with_reducible refine Ext.drewN ?_ _) | (with_reducible refine Ext.alloc ?_ _) | (with_reducible refine Ext.setCell ?_ ?_ _) | (with_reducible refine Ext.trans ?_ (by with_reducible assumption)) | omega | (focus (simp <;> omega)))); have k7 := (T3.ext F9).at 7 _ rfl; have k8 := (T3.ext F9).at 8 _ rfl; have k9 := (T3.ext F9).at 9 _ rfl; have k10 := (T3.ext F9).at 10 _ rfl) | (go_at_call 27; (with_reducible refine (C3.out _ ?_).mono ?_); (exact E3.trans (by repeat (first | with_reducible exact Ext.refl _ | with_reducible assumption | (with_reducible refine Ext.drew ?_) | (with_reducible refine Ext.drewN ?_ _) | (with_reducible refine Ext.alloc ?_ _) | (with_reducible refine Ext.setCell ?_ ?_ _) | (with_reducible refine Ext.trans ?_ (by with_reducible assumption)) | omega | (focus (simp <;> omega))))); rintro e w9 ⟨rfl, hx9⟩; have F9 : Ext w3 w9 := (by repeat (first | with_reducible exact Ext.refl _ | with_reducible assumption | (with_reducible refine Ext.drew ?_) | (with_reducible refine Ext.drewN ?_ _) | (with_reducible refine Ext.alloc ?_ _) | (with_reducible refine Ext.setCell ?_ ?_ _) | (with_reducible refine Ext.trans ?_ (by with_reducible assumption)) | omega | (focus (simp <;> omega)))); have k7 := (T3.ext F9).at 7 _ rfl; have k8 := (T3.ext F9).at 8 _ rfl; have k9 := (T3.ext F9).at 9 _ rfl; have k10 := (T3.ext F9).at 10 _ rfl))
    all_goals
      have T4 := T3.ext F9
      have D4 := D3.ext F9
      have E4 := E3.trans F9
      have m2 := T4.at 2 _ rfl
      go_wp2_with fail
      refine (tclip_any (-gg) (-t.mx) 0 _).mono ?_
      rw [← X5.out]
      rintro e w8 ⟨rfl, rfl⟩
      go_wp2_with fail
      refine (CR.out _).mono ?_
      rintro e w5 ⟨rfl, hx5⟩
      have E5 := E4.trans hx5
      have D5 := D4.ext hx5
      have dn := D5.lt
      have df := D5.fr
      have dc0 := D5.at 0 _ rfl
      have dc1 := D5.at 1 _ rfl
      go_wp2_with fail
      refine (tclip_any xx (-rr) rr _).mono ?_
      rw [← X6.out]
      rintro e w8 ⟨rfl, rfl⟩
      go_wp2_with fail
      refine bodyPost_ret (refs_ret (n := w.heap.size + 1 + 1) ((D5.set 0 (.int .i64 dd) (by simp)).set 1 (.int .i64 qq) (by simp)) rfl rfl) rfl ⟨rfl, ?_⟩
      exact ((E5.setCell (by simp; omega) _).setCell (by simp; omega) _)

theorem tRefs_bad (t : Tc) (tq sp tp lk : Int) (w : World) (hk : tck t ≠ 0) (hw : TcAt w t) :
    Calls Try.prog 12 #[.agg #[.int .i64 t.most, .int .i64 t.per, .int .i64 t.mx, .slice t.c0.a t.c0.v.nx t.c0.k, .slice t.c0.b t.c0.v.ny t.c0.l, .slice t.c1.a t.c1.v.nx t.c1.k, .slice t.c1.b t.c1.v.ny t.c1.l, .slice t.c2.a t.c2.v.nx t.c2.k, .slice t.c2.b t.c2.v.ny t.c2.l, .slice t.c3.a t.c3.v.nx t.c3.k, .slice t.c3.b t.c3.v.ny t.c3.l], .int .i64 tq, .agg #[.int .i64 sp, .int .i64 tp, .int .i64 lk]] w fun e w' => e = .returned (.tuple #[.agg #[.int .i64 0, .int .i64 0], errv (tck t)]) ∧ Ext w w' := by
  have E0 : Ext w ((((w.alloc (.cells #[.int .i64 t.most, .int .i64 t.per, .int .i64 t.mx, .slice t.c0.a t.c0.v.nx t.c0.k, .slice t.c0.b t.c0.v.ny t.c0.l, .slice t.c1.a t.c1.v.nx t.c1.k, .slice t.c1.b t.c1.v.ny t.c1.l, .slice t.c2.a t.c2.v.nx t.c2.k, .slice t.c2.b t.c2.v.ny t.c2.l, .slice t.c3.a t.c3.v.nx t.c3.k, .slice t.c3.b t.c3.v.ny t.c3.l] 26)).alloc (.cells #[.int .i64 sp, .int .i64 tp, .int .i64 lk] 28))).alloc (.cells #[.int .i64 0, .int .i64 0] 33)) := (((Ext.refl w).alloc _).alloc _).alloc _
  have hc := tcheck t _ (hw.ext E0)
  have he : errv (tck t) = .iface 64 (.int .i64 (tck t)) := by unfold errv; rw [if_neg hk]
  rw [he] at hc ⊢
  have D0 : Blk ((((w.alloc (.cells #[.int .i64 t.most, .int .i64 t.per, .int .i64 t.mx, .slice t.c0.a t.c0.v.nx t.c0.k, .slice t.c0.b t.c0.v.ny t.c0.l, .slice t.c1.a t.c1.v.nx t.c1.k, .slice t.c1.b t.c1.v.ny t.c1.l, .slice t.c2.a t.c2.v.nx t.c2.k, .slice t.c2.b t.c2.v.ny t.c2.l, .slice t.c3.a t.c3.v.nx t.c3.k, .slice t.c3.b t.c3.v.ny t.c3.l] 26)).alloc (.cells #[.int .i64 sp, .int .i64 tp, .int .i64 lk] 28))).alloc (.cells #[.int .i64 0, .int .i64 0] 33)) (w.heap.size + 1 + 1) [.int .i64 0, .int .i64 0] := (by
    have hh := Blk.new ((w.alloc (.cells #[.int .i64 t.most, .int .i64 t.per, .int .i64 t.mx, .slice t.c0.a t.c0.v.nx t.c0.k, .slice t.c0.b t.c0.v.ny t.c0.l, .slice t.c1.a t.c1.v.nx t.c1.k, .slice t.c1.b t.c1.v.ny t.c1.l, .slice t.c2.a t.c2.v.nx t.c2.k, .slice t.c2.b t.c2.v.ny t.c2.l, .slice t.c3.a t.c3.v.nx t.c3.k, .slice t.c3.b t.c3.v.ny t.c3.l] 26)).alloc (.cells #[.int .i64 sp, .int .i64 tp, .int .i64 lk] 28)) [.int .i64 0, .int .i64 0] 33
    have e : (((w.alloc (.cells #[.int .i64 t.most, .int .i64 t.per, .int .i64 t.mx, .slice t.c0.a t.c0.v.nx t.c0.k, .slice t.c0.b t.c0.v.ny t.c0.l, .slice t.c1.a t.c1.v.nx t.c1.k, .slice t.c1.b t.c1.v.ny t.c1.l, .slice t.c2.a t.c2.v.nx t.c2.k, .slice t.c2.b t.c2.v.ny t.c2.l, .slice t.c3.a t.c3.v.nx t.c3.k, .slice t.c3.b t.c3.v.ny t.c3.l] 26)).alloc (.cells #[.int .i64 sp, .int .i64 tp, .int .i64 lk] 28))).heap.size = w.heap.size + 1 + 1 := by simp
    rw [e] at hh; exact hh)
  have HC := Lib.hid hc
  have HD := Lib.hid D0
  have HE := Lib.hid E0
  clear hw hc hk he E0 D0
  generalize tck t = r at *
  go_enter Try.func12, Try.ntmps12
  go_wp2_with fail
  refine HC.out.mono ?_
  rintro e w1 ⟨rfl, hx1⟩
  have D1 := HD.out.ext hx1
  have E1 := HE.out.trans hx1
  have dn := D1.lt
  have df := D1.fr
  have dc0 := D1.at 0 _ rfl
  have dc1 := D1.at 1 _ rfl
  go_wp2_with fail
  have D2 := (D1.set 0 (.int .i64 0) (by simp)).set 1 (.int .i64 0) (by simp)
  refine bodyPost_ret (refs_ret (n := w.heap.size + 1 + 1) D2 rfl rfl) rfl ⟨rfl, ?_⟩
  exact ((E1.setCell (by simp; omega) _).setCell (by simp; omega) _)

end Go.Proofs.Ytphfgljfjfpomaa
