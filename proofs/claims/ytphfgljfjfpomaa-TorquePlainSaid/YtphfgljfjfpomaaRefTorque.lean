/- The contracts of the reference of chapter 36 (turn, at, Limit, rest, Refs, Torque), each walked once.
   Conditions: the configuration is one that Check accepts, but for the errors. -/
import Derived.Test.YtphfgljfjfpomaaTorqueRefs
import Derived.Test.YtphfgljfjfpomaaRefTorqueCheck
namespace Go.Proofs.Ytphfgljfjfpomaa
open Go.ChangeShapes Go.WideShapes Go.ChangeAt Go.RowKit

theorem abs_any (n : Int) (w : World) (h : -9223372036854775807 ≤ n ∧ n ≤ 9223372036854775807) :
    Calls Try.prog 15 #[.int .i64 n] w fun e w' => e = .returned (.int .i64 (max n (-n))) ∧ w = w' := by
  have ⟨h1, h2⟩ := h
  have h3 : (n == -9223372036854775808) = false := by simp; omega
  clear h
  go_enter Try.func15, Try.ntmps15
  go_wp2
  go_ret
  exact ⟨rfl, rfl⟩
theorem turn36_any (sp tp lk : Int) (w : World) :
    Calls Try.prog 30 #[.agg #[.int .i64 sp, .int .i64 tp, .int .i64 lk]] w fun e w' => e = .returned (.int .i64 (tn sp)) ∧ Ext w w' := by
  have ⟨c1, c2⟩ := clv_bd sp
  have hc : clip sp (-1073741824) 1073741824 = clv sp := rfl
  have ht : (max (clv sp) (-(clv sp))).tdiv 65536 = tn sp := rfl
  have HC := Lib.hid hc
  have HT := Lib.hid ht
  clear hc ht
  generalize tn sp = v at *
  generalize clv sp = c at *
  have HA := Lib.hid (fun V => abs_any c V ⟨by omega, by omega⟩)
  go_enter Try.func30, Try.ntmps30
  go_wp2_with fail
  refine (clip_any sp (-1073741824) 1073741824 _).mono ?_
  rw [HC.out]
  rintro e w1 ⟨rfl, rfl⟩
  go_wp2_with fail
  refine (HA.out _).mono ?_
  rintro e w1 ⟨rfl, rfl⟩
  have et : (max c (-c)) / 65536 = v := by rw [← HT.out, Int.tdiv_eq_ediv_of_nonneg (by omega)]
  have et2 := HT.out
  have m0 : 0 ≤ max c (-c) := by omega
  have w1 : IntKind.i64.wrap ((max c (-c)).tdiv 65536) = v := by rw [HT.out]; exact IntWalk.i64_in _ (by omega)
  go_wp2_with fail
  go_ret
  exact ⟨by first | rfl | (rw [← HT.out]; rfl), (by repeat (first | with_reducible exact Ext.refl _ | with_reducible assumption | (with_reducible refine Ext.drew ?_) | (with_reducible refine Ext.drewN ?_ _) | (with_reducible refine Ext.alloc ?_ _) | (with_reducible refine Ext.setCell ?_ ?_ _) | (with_reducible refine Ext.trans ?_ (by with_reducible assumption)) | omega | (focus (simp <;> omega))))⟩
theorem at36_any {w : World} (c : Cu) (q : Int) (hc : Pl.chk c.v = 0) (h : CuAt w c) (hq : I64 q) :
    Calls Try.prog 29 #[.agg #[.slice c.a c.v.nx c.k, .slice c.b c.v.ny c.l], .int .i64 q] w fun e w' => e = .returned (.int .i64 (Pl.atv c.v q)) ∧ Ext w w' := by
  have E0 : Ext w (w.alloc (.cells #[.slice c.a c.v.nx c.k, .slice c.b c.v.ny c.l] 24)) := (Ext.refl w).alloc _
  have hv := at09_cu c q hc (h.ext E0) hq
  have HV := Lib.hid hv
  clear hv h hc E0 hq
  generalize Pl.atv c.v q = v at *
  go_enter Try.func29, Try.ntmps29
  go_wp2_with fail
  refine HV.out.mono ?_
  rintro e w1 ⟨rfl, hx1⟩
  go_wp2_with fail
  go_ret
  exact ⟨rfl, (by repeat (first | with_reducible exact Ext.refl _ | with_reducible assumption | (with_reducible refine Ext.drew ?_) | (with_reducible refine Ext.drewN ?_ _) | (with_reducible refine Ext.alloc ?_ _) | (with_reducible refine Ext.setCell ?_ ?_ _) | (with_reducible refine Ext.trans ?_ (by with_reducible assumption)) | omega | (focus (simp <;> omega))))⟩
theorem i64_small {x : Int} (a : -2305843009213693952 ≤ x) (b : x ≤ 2305843009213693952) : I64 x := ⟨by omega, by omega⟩

set_option maxRecDepth 100000 in
set_option maxHeartbeats 2000000 in
theorem Limit36_ok (t : Tc) (sp tp lk : Int) (w : World) (h : TOk t) (hk : tck t = 0) (hw : TcAt w t) (htp : I64 tp) :
    Calls Try.prog 17 #[.agg #[.int .i64 t.most, .int .i64 t.per, .int .i64 t.mx, .slice t.c0.a t.c0.v.nx t.c0.k, .slice t.c0.b t.c0.v.ny t.c0.l, .slice t.c1.a t.c1.v.nx t.c1.k, .slice t.c1.b t.c1.v.ny t.c1.l, .slice t.c2.a t.c2.v.nx t.c2.k, .slice t.c2.b t.c2.v.ny t.c2.l, .slice t.c3.a t.c3.v.nx t.c3.k, .slice t.c3.b t.c3.v.ny t.c3.l], .agg #[.int .i64 sp, .int .i64 tp, .int .i64 lk]] w fun e w' => e = .returned (.tuple #[.int .i64 (lim t sp tp), .int .i64 0]) ∧ Ext w w' := by
  have E0 : Ext w ((w.alloc (.cells #[.int .i64 t.most, .int .i64 t.per, .int .i64 t.mx, .slice t.c0.a t.c0.v.nx t.c0.k, .slice t.c0.b t.c0.v.ny t.c0.l, .slice t.c1.a t.c1.v.nx t.c1.k, .slice t.c1.b t.c1.v.ny t.c1.l, .slice t.c2.a t.c2.v.nx t.c2.k, .slice t.c2.b t.c2.v.ny t.c2.l, .slice t.c3.a t.c3.v.nx t.c3.k, .slice t.c3.b t.c3.v.ny t.c3.l] 26)).alloc (.cells #[.int .i64 sp, .int .i64 tp, .int .i64 lk] 28)) := ((Ext.refl w).alloc _).alloc _
  have T0 := (Blk.new w [.int .i64 t.most, .int .i64 t.per, .int .i64 t.mx, .slice t.c0.a t.c0.v.nx t.c0.k, .slice t.c0.b t.c0.v.ny t.c0.l, .slice t.c1.a t.c1.v.nx t.c1.k, .slice t.c1.b t.c1.v.ny t.c1.l, .slice t.c2.a t.c2.v.nx t.c2.k, .slice t.c2.b t.c2.v.ny t.c2.l, .slice t.c3.a t.c3.v.nx t.c3.k, .slice t.c3.b t.c3.v.ny t.c3.l] 26).alloc (.cells #[.int .i64 sp, .int .i64 tp, .int .i64 lk] 28)
  have I0 := Blk.new1 w (.cells #[.int .i64 t.most, .int .i64 t.per, .int .i64 t.mx, .slice t.c0.a t.c0.v.nx t.c0.k, .slice t.c0.b t.c0.v.ny t.c0.l, .slice t.c1.a t.c1.v.nx t.c1.k, .slice t.c1.b t.c1.v.ny t.c1.l, .slice t.c2.a t.c2.v.nx t.c2.k, .slice t.c2.b t.c2.v.ny t.c2.l, .slice t.c3.a t.c3.v.nx t.c3.k, .slice t.c3.b t.c3.v.ny t.c3.l] 26) [.int .i64 sp, .int .i64 tp, .int .i64 lk] 28
  have ⟨⟨mo0, mo1⟩, ⟨pe0, pe1⟩, ⟨mx0, mx1⟩⟩ := h.rg
  have hc := check36 t _ (hw.ext E0)
  rw [hk] at hc
  have n1 := tn_bd sp
  have CT := Lib.hid (fun V (_ : Ext w V) => turn36_any sp tp lk V)
  have CA := Lib.hid (fun V (hV : Ext w V) => at36_any t.c0 (tn sp) h.k0 (hw.c0.ext hV) (i64_small (by omega) (by omega)))
  have CB := Lib.hid (fun V (hV : Ext w V) => at36_any t.c1 tp h.k1 (hw.c1.ext hV) htp)
  have a1 := Pl.atv_in (Pl.good_of _ h.k0) (tn sp)
  have a2 := Pl.atv_in (Pl.good_of _ h.k1) tp
  have hl : max 0 (t.most - max 0 (max (Pl.atv t.c0.v (tn sp)) (Pl.atv t.c1.v tp))) = lim t sp tp := rfl
  have HL := Lib.hid hl
  have HT := Lib.hid T0
  have HI := Lib.hid I0
  have HC := Lib.hid hc
  have HE := Lib.hid E0
  clear h hw hl T0 I0 hc hk n1 htp E0
  generalize lim t sp tp = r at *
  generalize Pl.atv t.c0.v (tn sp) = v0 at *
  generalize Pl.atv t.c1.v tp = v1 at *
  generalize tn sp = q at *
  have w1' : IntKind.i64.wrap (t.most - max 0 (max v0 v1)) = t.most - max 0 (max v0 v1) := IntWalk.i64_in _ (by omega)
  go_enter Try.func17, Try.ntmps17
  go_wp2_with fail
  refine HC.out.mono ?_
  rintro e w1 ⟨rfl, hx1⟩
  have E1 := HE.out.trans hx1
  have T1 := HT.out.ext hx1
  have I1 := HI.out.ext hx1
  clear HC
  have k0 := T1.at 0 _ rfl
  have k1 := T1.at 1 _ rfl
  have k2 := T1.at 2 _ rfl
  have k3 := T1.at 3 _ rfl
  have k4 := T1.at 4 _ rfl
  have k5 := T1.at 5 _ rfl
  have k6 := T1.at 6 _ rfl
  have k7 := T1.at 7 _ rfl
  have k8 := T1.at 8 _ rfl
  have k9 := T1.at 9 _ rfl
  have k10 := T1.at 10 _ rfl
  have j0 := I1.at 0 _ rfl
  have j1 := I1.at 1 _ rfl
  have j2 := I1.at 2 _ rfl
  go_wp2_with fail
  go_region_held3 (fun w' => w'.cell? ⟨w.heap.size, 0, none⟩ = some (.int .i64 t.most) ∧ w'.cell? ⟨w.heap.size, 3, none⟩ = some (.slice t.c0.a t.c0.v.nx t.c0.k) ∧ w'.cell? ⟨w.heap.size, 4, none⟩ = some (.slice t.c0.b t.c0.v.ny t.c0.l) ∧ w'.cell? ⟨w.heap.size, 5, none⟩ = some (.slice t.c1.a t.c1.v.nx t.c1.k) ∧ w'.cell? ⟨w.heap.size, 6, none⟩ = some (.slice t.c1.b t.c1.v.ny t.c1.l) ∧ w'.cell? ⟨w.heap.size + 1, 0, none⟩ = some (.int .i64 sp) ∧ w'.cell? ⟨w.heap.size + 1, 1, none⟩ = some (.int .i64 tp) ∧ w'.cell? ⟨w.heap.size + 1, 2, none⟩ = some (.int .i64 lk)) ((refine ⟨?_, ?_, ?_, ?_, ?_, ?_, ?_, ?_⟩ <;> assumption))
    (first | (go_at_call 30; (with_reducible refine (CT.out _ ?_).mono ?_); (exact (by repeat (first | with_reducible exact Ext.refl _ | with_reducible assumption | (with_reducible refine Ext.drew ?_) | (with_reducible refine Ext.drewN ?_ _) | (with_reducible refine Ext.alloc ?_ _) | (with_reducible refine Ext.setCell ?_ ?_ _) | (with_reducible refine Ext.trans ?_ (by with_reducible assumption)) | omega | (focus (simp <;> omega))))); rintro e w9 ⟨rfl, hx9⟩; have F9 : Ext w1 w9 := (by repeat (first | with_reducible exact Ext.refl _ | with_reducible assumption | (with_reducible refine Ext.drew ?_) | (with_reducible refine Ext.drewN ?_ _) | (with_reducible refine Ext.alloc ?_ _) | (with_reducible refine Ext.setCell ?_ ?_ _) | (with_reducible refine Ext.trans ?_ (by with_reducible assumption)) | omega | (focus (simp <;> omega)))); have k0 := (T1.ext F9).at 0 _ rfl; have k3 := (T1.ext F9).at 3 _ rfl; have k4 := (T1.ext F9).at 4 _ rfl; have k5 := (T1.ext F9).at 5 _ rfl; have k6 := (T1.ext F9).at 6 _ rfl; have j0 := (I1.ext F9).at 0 _ rfl; have j1 := (I1.ext F9).at 1 _ rfl; have j2 := (I1.ext F9).at 2 _ rfl) | (go_at_call 29; (with_reducible refine (CA.out _ ?_).mono ?_); (exact (by repeat (first | with_reducible exact Ext.refl _ | with_reducible assumption | (with_reducible refine Ext.drew ?_) | (with_reducible refine Ext.drewN ?_ _) | (with_reducible refine Ext.alloc ?_ _) | (with_reducible refine Ext.setCell ?_ ?_ _) | (with_reducible refine Ext.trans ?_ (by with_reducible assumption)) | omega | (focus (simp <;> omega))))); rintro e w9 ⟨rfl, hx9⟩; have F9 : Ext w1 w9 := (by repeat (first | with_reducible exact Ext.refl _ | with_reducible assumption | (with_reducible refine Ext.drew ?_) | (with_reducible refine Ext.drewN ?_ _) | (with_reducible refine Ext.alloc ?_ _) | (with_reducible refine Ext.setCell ?_ ?_ _) | (with_reducible refine Ext.trans ?_ (by with_reducible assumption)) | omega | (focus (simp <;> omega)))); have k0 := (T1.ext F9).at 0 _ rfl; have k3 := (T1.ext F9).at 3 _ rfl; have k4 := (T1.ext F9).at 4 _ rfl; have k5 := (T1.ext F9).at 5 _ rfl; have k6 := (T1.ext F9).at 6 _ rfl; have j0 := (I1.ext F9).at 0 _ rfl; have j1 := (I1.ext F9).at 1 _ rfl; have j2 := (I1.ext F9).at 2 _ rfl) | (go_at_call 29; (with_reducible refine (CB.out _ ?_).mono ?_); (exact (by repeat (first | with_reducible exact Ext.refl _ | with_reducible assumption | (with_reducible refine Ext.drew ?_) | (with_reducible refine Ext.drewN ?_ _) | (with_reducible refine Ext.alloc ?_ _) | (with_reducible refine Ext.setCell ?_ ?_ _) | (with_reducible refine Ext.trans ?_ (by with_reducible assumption)) | omega | (focus (simp <;> omega))))); rintro e w9 ⟨rfl, hx9⟩; have F9 : Ext w1 w9 := (by repeat (first | with_reducible exact Ext.refl _ | with_reducible assumption | (with_reducible refine Ext.drew ?_) | (with_reducible refine Ext.drewN ?_ _) | (with_reducible refine Ext.alloc ?_ _) | (with_reducible refine Ext.setCell ?_ ?_ _) | (with_reducible refine Ext.trans ?_ (by with_reducible assumption)) | omega | (focus (simp <;> omega)))); have k0 := (T1.ext F9).at 0 _ rfl; have k3 := (T1.ext F9).at 3 _ rfl; have k4 := (T1.ext F9).at 4 _ rfl; have k5 := (T1.ext F9).at 5 _ rfl; have k6 := (T1.ext F9).at 6 _ rfl; have j0 := (I1.ext F9).at 0 _ rfl; have j1 := (I1.ext F9).at 1 _ rfl; have j2 := (I1.ext F9).at 2 _ rfl))
  all_goals
    go_wp2_with fail
    go_ret2
    exact ⟨by rw [← HL.out]; rfl, E1.trans F9⟩
theorem Limit36_bad (t : Tc) (sp tp lk : Int) (w : World) (hk : tck t ≠ 0) (hw : TcAt w t) :
    Calls Try.prog 17 #[.agg #[.int .i64 t.most, .int .i64 t.per, .int .i64 t.mx, .slice t.c0.a t.c0.v.nx t.c0.k, .slice t.c0.b t.c0.v.ny t.c0.l, .slice t.c1.a t.c1.v.nx t.c1.k, .slice t.c1.b t.c1.v.ny t.c1.l, .slice t.c2.a t.c2.v.nx t.c2.k, .slice t.c2.b t.c2.v.ny t.c2.l, .slice t.c3.a t.c3.v.nx t.c3.k, .slice t.c3.b t.c3.v.ny t.c3.l], .agg #[.int .i64 sp, .int .i64 tp, .int .i64 lk]] w fun e w' => e = .returned (.tuple #[.int .i64 0, .int .i64 (tck t)]) ∧ Ext w w' := by
  have E0 : Ext w ((w.alloc (.cells #[.int .i64 t.most, .int .i64 t.per, .int .i64 t.mx, .slice t.c0.a t.c0.v.nx t.c0.k, .slice t.c0.b t.c0.v.ny t.c0.l, .slice t.c1.a t.c1.v.nx t.c1.k, .slice t.c1.b t.c1.v.ny t.c1.l, .slice t.c2.a t.c2.v.nx t.c2.k, .slice t.c2.b t.c2.v.ny t.c2.l, .slice t.c3.a t.c3.v.nx t.c3.k, .slice t.c3.b t.c3.v.ny t.c3.l] 26)).alloc (.cells #[.int .i64 sp, .int .i64 tp, .int .i64 lk] 28)) := ((Ext.refl w).alloc _).alloc _
  have hc := check36 t _ (hw.ext E0)
  have nz : (tck t != 0) = true := by simpa using hk
  have HC := Lib.hid hc
  clear hw hc hk E0
  generalize tck t = r at *
  go_enter Try.func17, Try.ntmps17
  go_wp2_with fail
  refine HC.out.mono ?_
  rintro e w1 ⟨rfl, hx1⟩
  go_wp2_with fail
  go_ret2
  exact ⟨rfl, (by repeat (first | with_reducible exact Ext.refl _ | with_reducible assumption | (with_reducible refine Ext.drew ?_) | (with_reducible refine Ext.drewN ?_ _) | (with_reducible refine Ext.alloc ?_ _) | (with_reducible refine Ext.setCell ?_ ?_ _) | (with_reducible refine Ext.trans ?_ (by with_reducible assumption)) | omega | (focus (simp <;> omega))))⟩

set_option maxRecDepth 100000 in
set_option maxHeartbeats 2000000 in
theorem Torque36_ok (t : Tc) (iq : Int) (w : World) (h : TOk t) (hk : tck t = 0) (hw : TcAt w t) :
    Calls Try.prog 19 #[.agg #[.int .i64 t.most, .int .i64 t.per, .int .i64 t.mx, .slice t.c0.a t.c0.v.nx t.c0.k, .slice t.c0.b t.c0.v.ny t.c0.l, .slice t.c1.a t.c1.v.nx t.c1.k, .slice t.c1.b t.c1.v.ny t.c1.l, .slice t.c2.a t.c2.v.nx t.c2.k, .slice t.c2.b t.c2.v.ny t.c2.l, .slice t.c3.a t.c3.v.nx t.c3.k, .slice t.c3.b t.c3.v.ny t.c3.l], .int .i64 iq] w fun e w' => e = .returned (.tuple #[.int .i64 (tqq t iq), .int .i64 0]) ∧ Ext w w' := by
  have E0 : Ext w (w.alloc (.cells #[.int .i64 t.most, .int .i64 t.per, .int .i64 t.mx, .slice t.c0.a t.c0.v.nx t.c0.k, .slice t.c0.b t.c0.v.ny t.c0.l, .slice t.c1.a t.c1.v.nx t.c1.k, .slice t.c1.b t.c1.v.ny t.c1.l, .slice t.c2.a t.c2.v.nx t.c2.k, .slice t.c2.b t.c2.v.ny t.c2.l, .slice t.c3.a t.c3.v.nx t.c3.k, .slice t.c3.b t.c3.v.ny t.c3.l] 26)) := (Ext.refl w).alloc _
  have T0 := Blk.new w [.int .i64 t.most, .int .i64 t.per, .int .i64 t.mx, .slice t.c0.a t.c0.v.nx t.c0.k, .slice t.c0.b t.c0.v.ny t.c0.l, .slice t.c1.a t.c1.v.nx t.c1.k, .slice t.c1.b t.c1.v.ny t.c1.l, .slice t.c2.a t.c2.v.nx t.c2.k, .slice t.c2.b t.c2.v.ny t.c2.l, .slice t.c3.a t.c3.v.nx t.c3.k, .slice t.c3.b t.c3.v.ny t.c3.l] 26
  have hc := check36 t _ (hw.ext E0)
  rw [hk] at hc
  have ⟨f1, f2⟩ := tqq_facts t h.rg iq
  have hq : tqq t iq = clip ((clip iq (-1048576) 1048576 * t.per).tdiv 1024) (-16777216) 16777216 := rfl
  have td := Pl.td (clip iq (-1048576) 1048576 * t.per) 1024 (by omega)
  rw [hq]
  obtain ⟨z, hz⟩ : ∃ z, z = clip iq (-1048576) 1048576 := ⟨_, rfl⟩
  rw [← hz] at f1 f2 td ⊢
  obtain ⟨v, hv⟩ : ∃ v, v = clip ((z * t.per).tdiv 1024) (-16777216) 16777216 := ⟨_, rfl⟩
  rw [← hv]
  have w1 : IntKind.i64.wrap (z * t.per) = z * t.per := IntWalk.i64_in _ (by omega)
  have w2 : IntKind.i64.wrap ((z * t.per).tdiv 1024) = (z * t.per).tdiv 1024 := IntWalk.i64_in _ (by omega)
  have HZ := Lib.hid hz
  have HV := Lib.hid hv
  have HC := Lib.hid hc
  have HT := Lib.hid T0
  clear h hw hc T0 hk hz hv hq td E0
  go_enter Try.func19, Try.ntmps19
  go_wp2_with fail
  refine HC.out.mono ?_
  rintro e w1 ⟨rfl, hx1⟩
  have T1 := HT.out.ext hx1
  have k1 := T1.at 1 _ rfl
  go_wp2_with fail
  go_region_held3 (fun w' => w'.cell? ⟨w.heap.size, 1, none⟩ = some (.int .i64 t.per)) (assumption)
    (first | (go_at_call 22; (with_reducible refine (clip_any iq (-1048576) 1048576 _).mono ?_); rw [← HZ.out]; rintro e w9 ⟨rfl, rfl⟩) | (go_at_call 22; (with_reducible refine (clip_any ((z * t.per).tdiv 1024) (-16777216) 16777216 _).mono ?_); rw [← HV.out]; rintro e w9 ⟨rfl, rfl⟩))
  all_goals
    go_wp2_with fail
    go_ret2
    exact ⟨rfl, (by repeat (first | with_reducible exact Ext.refl _ | with_reducible assumption | (with_reducible refine Ext.drew ?_) | (with_reducible refine Ext.drewN ?_ _) | (with_reducible refine Ext.alloc ?_ _) | (with_reducible refine Ext.setCell ?_ ?_ _) | (with_reducible refine Ext.trans ?_ (by with_reducible assumption)) | omega | (focus (simp <;> omega))))⟩
theorem Torque36_bad (t : Tc) (iq : Int) (w : World) (hk : tck t ≠ 0) (hw : TcAt w t) :
    Calls Try.prog 19 #[.agg #[.int .i64 t.most, .int .i64 t.per, .int .i64 t.mx, .slice t.c0.a t.c0.v.nx t.c0.k, .slice t.c0.b t.c0.v.ny t.c0.l, .slice t.c1.a t.c1.v.nx t.c1.k, .slice t.c1.b t.c1.v.ny t.c1.l, .slice t.c2.a t.c2.v.nx t.c2.k, .slice t.c2.b t.c2.v.ny t.c2.l, .slice t.c3.a t.c3.v.nx t.c3.k, .slice t.c3.b t.c3.v.ny t.c3.l], .int .i64 iq] w fun e w' => e = .returned (.tuple #[.int .i64 0, .int .i64 (tck t)]) ∧ Ext w w' := by
  have E0 : Ext w (w.alloc (.cells #[.int .i64 t.most, .int .i64 t.per, .int .i64 t.mx, .slice t.c0.a t.c0.v.nx t.c0.k, .slice t.c0.b t.c0.v.ny t.c0.l, .slice t.c1.a t.c1.v.nx t.c1.k, .slice t.c1.b t.c1.v.ny t.c1.l, .slice t.c2.a t.c2.v.nx t.c2.k, .slice t.c2.b t.c2.v.ny t.c2.l, .slice t.c3.a t.c3.v.nx t.c3.k, .slice t.c3.b t.c3.v.ny t.c3.l] 26)) := (Ext.refl w).alloc _
  have hc := check36 t _ (hw.ext E0)
  have nz : (tck t != 0) = true := by simpa using hk
  have HC := Lib.hid hc
  clear hw hc hk E0
  generalize tck t = r at *
  go_enter Try.func19, Try.ntmps19
  go_wp2_with fail
  refine HC.out.mono ?_
  rintro e w1 ⟨rfl, hx1⟩
  go_wp2_with fail
  go_ret2
  exact ⟨rfl, (by repeat (first | with_reducible exact Ext.refl _ | with_reducible assumption | (with_reducible refine Ext.drew ?_) | (with_reducible refine Ext.drewN ?_ _) | (with_reducible refine Ext.alloc ?_ _) | (with_reducible refine Ext.setCell ?_ ?_ _) | (with_reducible refine Ext.trans ?_ (by with_reducible assumption)) | omega | (focus (simp <;> omega))))⟩

set_option maxRecDepth 100000 in
set_option maxHeartbeats 2000000 in
theorem rest36 (m d : Int) (w : World) (h : RestOK m d) (hm : m ≤ 1048576) :
    Calls Try.prog 31 #[.int .i64 m, .int .i64 d] w fun e w' => e = .returned (.int .i64 (rst m d)) ∧ Ext w w' := by
  have ⟨_, _, m0, d0, d1⟩ := h
  have rb := Pl.rest_bd m d m0 d1 d0
  have HU : Hid (∀ r : Int, 0 ≤ r → r * r + d * d ≤ m * m → m * m < (r + 1) * (r + 1) + d * d → r = rst m d) := Lib.hid (fun r h0 h1 h2 => Pl.isq_unique rb.1 h0 (by omega) (by omega))
  have dd := Pl.sq_nonneg d
  have mm : m * m ≤ 1099511627776 := by have := Pl.sq_mono m0 hm; omega
  have md := rb.1
  have s1 : (m + 1) * (m + 1) = m * m + 2 * m + 1 := by grind
  clear rb h
  generalize rst m d = rs at *
  go_enter Try.func31, Try.ntmps31
  go_wp2_with fail
  go_loopw [5, 6] (fun i j wr => ∃ lo hi : Int, i = .int .i64 lo ∧ j = .int .i64 hi ∧ 0 ≤ lo ∧ lo ≤ hi ∧ hi ≤ m ∧ Hid (lo * lo + d * d ≤ m * m ∧ m * m < (hi + 1) * (hi + 1) + d * d) ∧ Ext w wr) (fun i j _ => (intOf j - intOf i).toNat)
  case atStart => exact ⟨0, m, rfl, rfl, by omega, m0, by omega, Lib.hid ⟨by omega, by omega⟩, (by repeat (first | with_reducible exact Ext.refl _ | with_reducible assumption | (with_reducible refine Ext.drew ?_) | (with_reducible refine Ext.drewN ?_ _) | (with_reducible refine Ext.alloc ?_ _) | (with_reducible refine Ext.setCell ?_ ?_ _) | (with_reducible refine Ext.trans ?_ (by with_reducible assumption)) | omega | (focus (simp <;> omega))))⟩
  case round =>
    obtain ⟨lo, hi, rfl, rfl, hl0, hlh, hhm, I, hxr⟩ := hrel
    by_cases hlt : lo < hi
    · obtain ⟨r, hr⟩ : ∃ r, r = (lo + hi + 1) / 2 := ⟨_, rfl⟩
      have r0 : lo < r ∧ r ≤ hi := by omega
      obtain ⟨r0, r1⟩ := r0
      have e1 : (lo + hi + 1).tdiv 2 = r := by rw [hr]; exact Int.tdiv_eq_ediv_of_nonneg (by omega)
      have e2 : (lo + hi + 1) / 2 = r := hr.symm
      have rr : 0 ≤ r * r ∧ r * r ≤ 1099511627776 := by
        have := Pl.sq_mono (show 0 ≤ r by omega) (show r ≤ 1048576 by omega)
        exact ⟨Pl.sq_nonneg r, by omega⟩
      obtain ⟨rr0, rr1⟩ := rr
      clear hr
      by_cases ht : r * r + d * d ≤ m * m
      · have K : Hid (r * r + d * d ≤ m * m ∧ m * m < (hi + 1) * (hi + 1) + d * d) := Lib.hid ⟨ht, I.out.2⟩
        clear I
        go_wp2_with fail
        go_roundw
        case rel => exact ⟨r, hi, rfl, rfl, by omega, r1, by omega, K, (by repeat (first | with_reducible exact Ext.refl _ | with_reducible assumption | (with_reducible refine Ext.drew ?_) | (with_reducible refine Ext.drewN ?_ _) | (with_reducible refine Ext.alloc ?_ _) | (with_reducible refine Ext.setCell ?_ ?_ _) | (with_reducible refine Ext.trans ?_ (by with_reducible assumption)) | omega | (focus (simp <;> omega))))⟩
        case measure => simp [intOf]; omega
      · have ht' : m * m < r * r + d * d := by omega
        have r1e : r - 1 + 1 = r := by omega
        have K : Hid (lo * lo + d * d ≤ m * m ∧ m * m < (r - 1 + 1) * (r - 1 + 1) + d * d) := Lib.hid ⟨I.out.1, by rw [r1e]; exact ht'⟩
        clear I ht r1e
        go_wp2_with fail
        go_roundw
        case rel => exact ⟨lo, r - 1, rfl, rfl, hl0, by omega, by omega, K, (by repeat (first | with_reducible exact Ext.refl _ | with_reducible assumption | (with_reducible refine Ext.drew ?_) | (with_reducible refine Ext.drewN ?_ _) | (with_reducible refine Ext.alloc ?_ _) | (with_reducible refine Ext.setCell ?_ ?_ _) | (with_reducible refine Ext.trans ?_ (by with_reducible assumption)) | omega | (focus (simp <;> omega))))⟩
        case measure => simp [intOf]; omega
    · obtain rfl : lo = hi := by omega
      have hge : lo ≤ lo := by omega
      have hres := HU.out lo hl0 I.out.1 I.out.2
      have HR := Lib.hid hres
      clear hres I
      go_wp2_with fail
      go_ret
      exact ⟨by rw [HR.out]; rfl, (by repeat (first | with_reducible exact Ext.refl _ | with_reducible assumption | (with_reducible refine Ext.drew ?_) | (with_reducible refine Ext.drewN ?_ _) | (with_reducible refine Ext.alloc ?_ _) | (with_reducible refine Ext.setCell ?_ ?_ _) | (with_reducible refine Ext.trans ?_ (by with_reducible assumption)) | omega | (focus (simp <;> omega))))⟩

end Go.Proofs.Ytphfgljfjfpomaa
