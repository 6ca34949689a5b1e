/- The contracts of package torque's limit, Limit, Refs, Torque, each walked once.
   Conditions: the configuration is one that Check accepts, but for the errors. -/
import Derived.Test.YtphfgljfjfpomaaTorqueCheck
namespace Go.Proofs.Ytphfgljfjfpomaa
open Go.ChangeShapes Go.WideShapes Go.ChangeAt Go.RowKit

def clv (sp : Int) : Int := clip sp (-1073741824) 1073741824
/-- The speed in turns per tick, without its sign. -/
def tn (sp : Int) : Int := (max (clv sp) (-(clv sp))).tdiv 65536
theorem clv_bd (sp : Int) : -1073741824 ≤ clv sp ∧ clv sp ≤ 1073741824 := clip_bd _ _ _ (by omega)
theorem tn_bd (sp : Int) : 0 ≤ tn sp ∧ tn sp ≤ 16384 := by
  have := clv_bd sp
  have := Pl.td (max (clv sp) (-(clv sp))) 65536 (by omega)
  unfold tn; omega
/-- The greatest torque. -/
def lim (t : Tc) (sp tp : Int) : Int := max 0 (t.most - max 0 (max (Pl.atv t.c0.v (tn sp)) (Pl.atv t.c1.v tp)))
theorem lim_bd (t : Tc) (h : TRange t) (sp tp : Int) : 0 ≤ lim t sp tp ∧ lim t sp tp ≤ t.most ∧ lim t sp tp ≤ 16777216 := by
  have := h.1
  unfold lim; omega
theorem tq_bd (z per : Int) (hz : -16777216 ≤ z ∧ z ≤ 16777216) (hp : 1 ≤ per) : (-17179869184 ≤ (z * 1024).tdiv per ∧ (z * 1024).tdiv per ≤ 17179869184) := by
  have t := Pl.td (z * 1024) per (by omega)
  rcases t with ⟨a, b, e, f⟩ | ⟨a, b, e, f⟩
  · have := Int.mul_le_mul_of_nonneg_right hp b
    omega
  · have := Int.mul_le_mul_of_nonneg_right hp (show 0 ≤ -((z * 1024).tdiv per) by omega)
    rw [Int.one_mul, Int.mul_neg] at this
    omega
/-- The current that was asked for, within its bounds. -/
def txx (t : Tc) (tq l : Int) : Int := clip ((clip tq (-l) l * 1024).tdiv t.per) (-t.mx) t.mx
def tvl (lk : Int) : Int := max 1 ((clip lk 0 1048576).tdiv 1000)
theorem tvl_bd (lk : Int) : 1 ≤ tvl lk ∧ tvl lk ≤ 1048 := by
  have := clip_bd lk 0 1048576 (by omega)
  have := Pl.td (clip lk 0 1048576) 1000 (by omega)
  unfold tvl; omega
def tst (sp lk : Int) : Int := (tn sp * 1000).tdiv (tvl lk)
theorem tst_bd (sp lk : Int) : 0 ≤ tst sp lk ∧ tst sp lk ≤ 16384000 := by
  have a := tn_bd sp
  have b := tvl_bd lk
  have c := Pl.td_pos (a := tn sp * 1000) (d := tvl lk) (by omega) (by omega)
  have d := Int.mul_le_mul_of_nonneg_right b.1 c.1
  unfold tst; omega
/-- What works against the d current. -/
def tag (t : Tc) (x sp lk : Int) : Int := max 0 (Pl.atv t.c2.v (max x (-x))) + max 0 (Pl.atv t.c3.v (tst sp lk))
def tdd (t : Tc) (g : Int) : Int := clip (-g) (-t.mx) 0
/-- The currents of a torque. -/
def rfd (t : Tc) (tq sp tp lk : Int) : Int := tdd t (tag t (txx t tq (lim t sp tp)) sp lk)
def rfq (t : Tc) (tq sp tp lk : Int) : Int := clip (txx t tq (lim t sp tp)) (-(rst t.mx (rfd t tq sp tp lk))) (rst t.mx (rfd t tq sp tp lk))
/-- The torque of a current. -/
def tqq (t : Tc) (iq : Int) : Int := clip ((clip iq (-1048576) 1048576 * t.per).tdiv 1024) (-16777216) 16777216

theorem tclip_any (n lo hi : Int) (w : World) :
    Calls Try.prog 25 #[.int .i64 n, .int .i64 lo, .int .i64 hi] w fun e w' => e = .returned (.int .i64 (clip n lo hi)) ∧ w = w' := by
  unfold clip
  go_enter Try.func25, Try.ntmps25
  go_wp2
  go_ret
  exact ⟨rfl, rfl⟩
theorem tturn_any (sp tp lk : Int) (w : World) :
    Calls Try.prog 26 #[.agg #[.int .i64 sp, .int .i64 tp, .int .i64 lk]] w fun e w' => e = .returned (.int .i64 (tn sp)) ∧ Ext w w' := by
  have ⟨c1, c2⟩ := clv_bd sp
  have hc : clip sp (-1073741824) 1073741824 = clv sp := rfl
  have ht : (max (clv sp) (-(clv sp))).tdiv 65536 = tn sp := rfl
  have HC := Lib.hid hc
  have HT := Lib.hid ht
  clear hc ht
  generalize tn sp = v at *
  generalize clv sp = c at *
  go_enter Try.func26, Try.ntmps26
  go_wp2_with fail
  refine (tclip_any sp (-1073741824) 1073741824 _).mono ?_
  rw [HC.out]
  rintro e w1 ⟨rfl, rfl⟩
  have et : (max c (-c)) / 65536 = v := by rw [← HT.out, Int.tdiv_eq_ediv_of_nonneg (by omega)]
  have et2 := HT.out
  have m0 : 0 ≤ max c (-c) := by omega
  have w1 : IntKind.i64.wrap ((max c (-c)).tdiv 65536) = v := by rw [HT.out]; exact IntWalk.i64_in _ (by omega)
  go_wp2_with fail
  go_ret
  exact ⟨by first | rfl | (rw [← HT.out]; rfl), (by repeat (first | with_reducible exact Ext.refl _ | with_reducible assumption | (with_reducible refine Ext.drew ?_) | (with_reducible refine Ext.drewN ?_ _) | (with_reducible refine Ext.alloc ?_ _) | (with_reducible refine Ext.setCell ?_ ?_ _) | (with_reducible refine Ext.trans ?_ (by with_reducible assumption)) | omega | (focus (simp <;> omega))))⟩
theorem tat_any {w : World} (c : Cu) (q : Int) (hc : Pl.chk c.v = 0) (h : CuAt w c) :
    Calls Try.prog 27 #[.agg #[.slice c.a c.v.nx c.k, .slice c.b c.v.ny c.l], .int .i64 q] w fun e w' => e = .returned (.int .i64 (Pl.atv c.v q)) ∧ Ext w w' := by
  have E0 : Ext w (w.alloc (.cells #[.slice c.a c.v.nx c.k, .slice c.b c.v.ny c.l] 24)) := (Ext.refl w).alloc _
  have hv := cAt_any c q hc (h.ext E0)
  have HV := Lib.hid hv
  clear hv h hc E0
  generalize Pl.atv c.v q = v at *
  go_enter Try.func27, Try.ntmps27
  go_wp2_with fail
  refine HV.out.mono ?_
  rintro e w1 ⟨rfl, hx1⟩
  go_wp2_with fail
  go_ret
  exact ⟨rfl, (by repeat (first | with_reducible exact Ext.refl _ | with_reducible assumption | (with_reducible refine Ext.drew ?_) | (with_reducible refine Ext.drewN ?_ _) | (with_reducible refine Ext.alloc ?_ _) | (with_reducible refine Ext.setCell ?_ ?_ _) | (with_reducible refine Ext.trans ?_ (by with_reducible assumption)) | omega | (focus (simp <;> omega))))⟩

set_option maxRecDepth 100000 in
set_option maxHeartbeats 2000000 in
theorem tlimit_ok (t : Tc) (sp tp lk : Int) (w : World) (h : TOk t) (hw : TcAt w t) :
    Calls Try.prog 24 #[.agg #[.int .i64 t.most, .int .i64 t.per, .int .i64 t.mx, .slice t.c0.a t.c0.v.nx t.c0.k, .slice t.c0.b t.c0.v.ny t.c0.l, .slice t.c1.a t.c1.v.nx t.c1.k, .slice t.c1.b t.c1.v.ny t.c1.l, .slice t.c2.a t.c2.v.nx t.c2.k, .slice t.c2.b t.c2.v.ny t.c2.l, .slice t.c3.a t.c3.v.nx t.c3.k, .slice t.c3.b t.c3.v.ny t.c3.l], .agg #[.int .i64 sp, .int .i64 tp, .int .i64 lk]] w fun e w' => e = .returned (.int .i64 (lim t sp tp)) ∧ Ext w w' := by
  have E0 : Ext w ((w.alloc (.cells #[.int .i64 t.most, .int .i64 t.per, .int .i64 t.mx, .slice t.c0.a t.c0.v.nx t.c0.k, .slice t.c0.b t.c0.v.ny t.c0.l, .slice t.c1.a t.c1.v.nx t.c1.k, .slice t.c1.b t.c1.v.ny t.c1.l, .slice t.c2.a t.c2.v.nx t.c2.k, .slice t.c2.b t.c2.v.ny t.c2.l, .slice t.c3.a t.c3.v.nx t.c3.k, .slice t.c3.b t.c3.v.ny t.c3.l] 26)).alloc (.cells #[.int .i64 sp, .int .i64 tp, .int .i64 lk] 28)) := ((Ext.refl w).alloc _).alloc _
  have T0 := (Blk.new w [.int .i64 t.most, .int .i64 t.per, .int .i64 t.mx, .slice t.c0.a t.c0.v.nx t.c0.k, .slice t.c0.b t.c0.v.ny t.c0.l, .slice t.c1.a t.c1.v.nx t.c1.k, .slice t.c1.b t.c1.v.ny t.c1.l, .slice t.c2.a t.c2.v.nx t.c2.k, .slice t.c2.b t.c2.v.ny t.c2.l, .slice t.c3.a t.c3.v.nx t.c3.k, .slice t.c3.b t.c3.v.ny t.c3.l] 26).alloc (.cells #[.int .i64 sp, .int .i64 tp, .int .i64 lk] 28)
  have I0 := Blk.new1 w (.cells #[.int .i64 t.most, .int .i64 t.per, .int .i64 t.mx, .slice t.c0.a t.c0.v.nx t.c0.k, .slice t.c0.b t.c0.v.ny t.c0.l, .slice t.c1.a t.c1.v.nx t.c1.k, .slice t.c1.b t.c1.v.ny t.c1.l, .slice t.c2.a t.c2.v.nx t.c2.k, .slice t.c2.b t.c2.v.ny t.c2.l, .slice t.c3.a t.c3.v.nx t.c3.k, .slice t.c3.b t.c3.v.ny t.c3.l] 26) [.int .i64 sp, .int .i64 tp, .int .i64 lk] 28
  have ⟨⟨mo0, mo1⟩, ⟨pe0, pe1⟩, ⟨mx0, mx1⟩⟩ := h.rg
  have k0 := T0.at 0 _ rfl
  have k3 := T0.at 3 _ rfl
  have k4 := T0.at 4 _ rfl
  have k5 := T0.at 5 _ rfl
  have k6 := T0.at 6 _ rfl
  have j0 := I0.at 0 _ rfl
  have j1 := I0.at 1 _ rfl
  have j2 := I0.at 2 _ rfl
  have CT := Lib.hid (fun V (_ : Ext ((w.alloc (.cells #[.int .i64 t.most, .int .i64 t.per, .int .i64 t.mx, .slice t.c0.a t.c0.v.nx t.c0.k, .slice t.c0.b t.c0.v.ny t.c0.l, .slice t.c1.a t.c1.v.nx t.c1.k, .slice t.c1.b t.c1.v.ny t.c1.l, .slice t.c2.a t.c2.v.nx t.c2.k, .slice t.c2.b t.c2.v.ny t.c2.l, .slice t.c3.a t.c3.v.nx t.c3.k, .slice t.c3.b t.c3.v.ny t.c3.l] 26)).alloc (.cells #[.int .i64 sp, .int .i64 tp, .int .i64 lk] 28)) V) => tturn_any sp tp lk V)
  have CA := Lib.hid (fun V (hV : Ext ((w.alloc (.cells #[.int .i64 t.most, .int .i64 t.per, .int .i64 t.mx, .slice t.c0.a t.c0.v.nx t.c0.k, .slice t.c0.b t.c0.v.ny t.c0.l, .slice t.c1.a t.c1.v.nx t.c1.k, .slice t.c1.b t.c1.v.ny t.c1.l, .slice t.c2.a t.c2.v.nx t.c2.k, .slice t.c2.b t.c2.v.ny t.c2.l, .slice t.c3.a t.c3.v.nx t.c3.k, .slice t.c3.b t.c3.v.ny t.c3.l] 26)).alloc (.cells #[.int .i64 sp, .int .i64 tp, .int .i64 lk] 28)) V) => tat_any t.c0 (tn sp) h.k0 (hw.c0.ext (E0.trans hV)))
  have CB := Lib.hid (fun V (hV : Ext ((w.alloc (.cells #[.int .i64 t.most, .int .i64 t.per, .int .i64 t.mx, .slice t.c0.a t.c0.v.nx t.c0.k, .slice t.c0.b t.c0.v.ny t.c0.l, .slice t.c1.a t.c1.v.nx t.c1.k, .slice t.c1.b t.c1.v.ny t.c1.l, .slice t.c2.a t.c2.v.nx t.c2.k, .slice t.c2.b t.c2.v.ny t.c2.l, .slice t.c3.a t.c3.v.nx t.c3.k, .slice t.c3.b t.c3.v.ny t.c3.l] 26)).alloc (.cells #[.int .i64 sp, .int .i64 tp, .int .i64 lk] 28)) V) => tat_any t.c1 tp h.k1 (hw.c1.ext (E0.trans hV)))
  have a1 := Pl.atv_in (Pl.good_of _ h.k0) (tn sp)
  have a2 := Pl.atv_in (Pl.good_of _ h.k1) tp
  have hl : max 0 (t.most - max 0 (max (Pl.atv t.c0.v (tn sp)) (Pl.atv t.c1.v tp))) = lim t sp tp := rfl
  have HL := Lib.hid hl
  have HT := Lib.hid T0
  have HI := Lib.hid I0
  clear h hw hl T0 I0 E0
  generalize lim t sp tp = r at *
  generalize Pl.atv t.c0.v (tn sp) = v0 at *
  generalize Pl.atv t.c1.v tp = v1 at *
  generalize tn sp = q at *
  have w1 : IntKind.i64.wrap (t.most - max 0 (max v0 v1)) = t.most - max 0 (max v0 v1) := IntWalk.i64_in _ (by omega)
  go_enter Try.func24, Try.ntmps24
  go_wp2_with fail
  go_region_held3 (fun w' => w'.cell? ⟨w.heap.size, 0, none⟩ = some (.int .i64 t.most) ∧ w'.cell? ⟨w.heap.size, 3, none⟩ = some (.slice t.c0.a t.c0.v.nx t.c0.k) ∧ w'.cell? ⟨w.heap.size, 4, none⟩ = some (.slice t.c0.b t.c0.v.ny t.c0.l) ∧ w'.cell? ⟨w.heap.size, 5, none⟩ = some (.slice t.c1.a t.c1.v.nx t.c1.k) ∧ w'.cell? ⟨w.heap.size, 6, none⟩ = some (.slice t.c1.b t.c1.v.ny t.c1.l) ∧ w'.cell? ⟨w.heap.size + 1, 0, none⟩ = some (.int .i64 sp) ∧ w'.cell? ⟨w.heap.size + 1, 1, none⟩ = some (.int .i64 tp) ∧ w'.cell? ⟨w.heap.size + 1, 2, none⟩ = some (.int .i64 lk)) ((refine ⟨?_, ?_, ?_, ?_, ?_, ?_, ?_, ?_⟩ <;> assumption))
    (first | (go_at_call 26; (with_reducible refine (CT.out _ ?_).mono ?_); (exact (by repeat (first | with_reducible exact Ext.refl _ | with_reducible assumption | (with_reducible refine Ext.drew ?_) | (with_reducible refine Ext.drewN ?_ _) | (with_reducible refine Ext.alloc ?_ _) | (with_reducible refine Ext.setCell ?_ ?_ _) | (with_reducible refine Ext.trans ?_ (by with_reducible assumption)) | omega | (focus (simp <;> omega))))); rintro e w9 ⟨rfl, hx9⟩; have hx9' : Ext ((w.alloc (.cells #[.int .i64 t.most, .int .i64 t.per, .int .i64 t.mx, .slice t.c0.a t.c0.v.nx t.c0.k, .slice t.c0.b t.c0.v.ny t.c0.l, .slice t.c1.a t.c1.v.nx t.c1.k, .slice t.c1.b t.c1.v.ny t.c1.l, .slice t.c2.a t.c2.v.nx t.c2.k, .slice t.c2.b t.c2.v.ny t.c2.l, .slice t.c3.a t.c3.v.nx t.c3.k, .slice t.c3.b t.c3.v.ny t.c3.l] 26)).alloc (.cells #[.int .i64 sp, .int .i64 tp, .int .i64 lk] 28)) w9 := (by repeat (first | with_reducible exact Ext.refl _ | with_reducible assumption | (with_reducible refine Ext.drew ?_) | (with_reducible refine Ext.drewN ?_ _) | (with_reducible refine Ext.alloc ?_ _) | (with_reducible refine Ext.setCell ?_ ?_ _) | (with_reducible refine Ext.trans ?_ (by with_reducible assumption)) | omega | (focus (simp <;> omega)))); have k0 := (HT.out.ext hx9').at 0 _ rfl; have k3 := (HT.out.ext hx9').at 3 _ rfl; have k4 := (HT.out.ext hx9').at 4 _ rfl; have k5 := (HT.out.ext hx9').at 5 _ rfl; have k6 := (HT.out.ext hx9').at 6 _ rfl; have j0 := (HI.out.ext hx9').at 0 _ rfl; have j1 := (HI.out.ext hx9').at 1 _ rfl; have j2 := (HI.out.ext hx9').at 2 _ rfl) | (go_at_call 27; (with_reducible refine (CA.out _ ?_).mono ?_); (exact (by repeat (first | with_reducible exact Ext.refl _ | with_reducible assumption | (with_reducible refine Ext.drew ?_) | (with_reducible refine Ext.drewN ?_ _) | (with_reducible refine Ext.alloc ?_ _) | (with_reducible refine Ext.setCell ?_ ?_ _) | (with_reducible refine Ext.trans ?_ (by with_reducible assumption)) | omega | (focus (simp <;> omega))))); rintro e w9 ⟨rfl, hx9⟩; have hx9' : Ext ((w.alloc (.cells #[.int .i64 t.most, .int .i64 t.per, .int .i64 t.mx, .slice t.c0.a t.c0.v.nx t.c0.k, .slice t.c0.b t.c0.v.ny t.c0.l, .slice t.c1.a t.c1.v.nx t.c1.k, .slice t.c1.b t.c1.v.ny t.c1.l, .slice t.c2.a t.c2.v.nx t.c2.k, .slice t.c2.b t.c2.v.ny t.c2.l, .slice t.c3.a t.c3.v.nx t.c3.k, .slice t.c3.b t.c3.v.ny t.c3.l] 26)).alloc (.cells #[.int .i64 sp, .int .i64 tp, .int .i64 lk] 28)) w9 := (by repeat (first | with_reducible exact Ext.refl _ | with_reducible assumption | (with_reducible refine Ext.drew ?_) | (with_reducible refine Ext.drewN ?_ _) | (with_reducible refine Ext.alloc ?_ _) | (with_reducible refine Ext.setCell ?_ ?_ _) | (with_reducible refine Ext.trans ?_ (by with_reducible assumption)) | omega | (focus (simp <;> omega)))); have k0 := (HT.out.ext hx9').at 0 _ rfl; have k3 := (HT.out.ext hx9').at 3 _ rfl; have k4 := (HT.out.ext hx9').at 4 _ rfl; have k5 := (HT.out.ext hx9').at 5 _ rfl; have k6 := (HT.out.ext hx9').at 6 _ rfl; have j0 := (HI.out.ext hx9').at 0 _ rfl; have j1 := (HI.out.ext hx9').at 1 _ rfl; have j2 := (HI.out.ext hx9').at 2 _ rfl) | (go_at_call 27; (with_reducible refine (CB.out _ ?_).mono ?_); (exact (by repeat (first | with_reducible exact Ext.refl _ | with_reducible assumption | (with_reducible refine Ext.drew ?_) | (with_reducible refine Ext.drewN ?_ _) | (with_reducible refine Ext.alloc ?_ _) | (with_reducible refine Ext.setCell ?_ ?_ _) | (with_reducible refine Ext.trans ?_ (by with_reducible assumption)) | omega | (focus (simp <;> omega))))); rintro e w9 ⟨rfl, hx9⟩; have hx9' : Ext ((w.alloc (.cells #[.int .i64 t.most, .int .i64 t.per, .int .i64 t.mx, .slice t.c0.a t.c0.v.nx t.c0.k, .slice t.c0.b t.c0.v.ny t.c0.l, .slice t.c1.a t.c1.v.nx t.c1.k, .slice t.c1.b t.c1.v.ny t.c1.l, .slice t.c2.a t.c2.v.nx t.c2.k, .slice t.c2.b t.c2.v.ny t.c2.l, .slice t.c3.a t.c3.v.nx t.c3.k, .slice t.c3.b t.c3.v.ny t.c3.l] 26)).alloc (.cells #[.int .i64 sp, .int .i64 tp, .int .i64 lk] 28)) w9 := (by repeat (first | with_reducible exact Ext.refl _ | with_reducible assumption | (with_reducible refine Ext.drew ?_) | (with_reducible refine Ext.drewN ?_ _) | (with_reducible refine Ext.alloc ?_ _) | (with_reducible refine Ext.setCell ?_ ?_ _) | (with_reducible refine Ext.trans ?_ (by with_reducible assumption)) | omega | (focus (simp <;> omega)))); have k0 := (HT.out.ext hx9').at 0 _ rfl; have k3 := (HT.out.ext hx9').at 3 _ rfl; have k4 := (HT.out.ext hx9').at 4 _ rfl; have k5 := (HT.out.ext hx9').at 5 _ rfl; have k6 := (HT.out.ext hx9').at 6 _ rfl; have j0 := (HI.out.ext hx9').at 0 _ rfl; have j1 := (HI.out.ext hx9').at 1 _ rfl; have j2 := (HI.out.ext hx9').at 2 _ rfl))
  all_goals
    go_wp2_with fail
    go_ret
    exact ⟨by rw [← HL.out]; rfl, (by repeat (first | with_reducible exact Ext.refl _ | with_reducible assumption | (with_reducible refine Ext.drew ?_) | (with_reducible refine Ext.drewN ?_ _) | (with_reducible refine Ext.alloc ?_ _) | (with_reducible refine Ext.setCell ?_ ?_ _) | (with_reducible refine Ext.trans ?_ (by with_reducible assumption)) | omega | (focus (simp <;> omega))))⟩

end Go.Proofs.Ytphfgljfjfpomaa
