/- The torque laws' fixed calls (awake), their look at the size (few), equal currents.
   Conditions: none. -/
import Derived.Test.YtphfgljfjfpomaaRefTorqueRefs
import Derived.Test.YtphfgljfjfpomaaCalls
namespace Go.Proofs.Ytphfgljfjfpomaa
open Go.ChangeShapes Go.WideShapes Go.ChangeAt Go.RowKit

/-- A constant curve. -/
def fcv (n : Int) : Pl.Cv := ⟨2, 2, fun j => [-1, 1].getD j 0, fun j => [n, n].getD j 0⟩
theorem fcv_0 : Pl.chk (fcv 0) = 0 := by decide
theorem fcv_300 : Pl.chk (fcv 300) = 0 := by decide
theorem fcv_at {n : Int} (h : Pl.chk (fcv n) = 0) (q : Int) : Pl.atv (fcv n) q = n := by
  have b := Pl.atv_bd (Pl.good_of _ h) q
  have e0 : (fcv n).y 0 = n := rfl
  have e1 : (fcv n).y ((fcv n).nx - 1) = n := rfl
  rw [e0, e1] at b
  omega
/-- A constant curve as a result: where its slices lie. -/
def FlatRes (n : Int) (w : World) (e : Ending) (w' : World) : Prop := ∃ g1 g2 : Nat, e = .returned (.agg #[.slice (some ⟨g1, 0, none⟩) 2 2, .slice (some ⟨g2, 0, none⟩) 2 2]) ∧ CuAt w' ⟨some ⟨g1, 0, none⟩, some ⟨g2, 0, none⟩, 2, 2, fcv n⟩ ∧ Ext w w'
theorem lt2 {P : Nat → Prop} (h0 : P 0) (h1 : P 1) (j : Nat) (hj : j < 2) : P j := by
  match j, hj with
  | 0, _ => exact h0
  | 1, _ => exact h1
theorem flat_any (n : Int) (hn : I64 n) (w : World) : Calls Try.prog 13 #[.int .i64 n] w (FlatRes n w) := by
  have HN := Lib.hid hn
  clear hn
  go_enter Try.func13, Try.ntmps13
  go_wp2
  go_returns
  refine ⟨_, _, rfl, ⟨?_, ?_, lt2 ?_ ?_, lt2 ?_ ?_, ?_, ?_⟩, (by repeat (first | with_reducible exact Ext.refl _ | with_reducible assumption | (with_reducible refine Ext.drew ?_) | (with_reducible refine Ext.drewN ?_ _) | (with_reducible refine Ext.alloc ?_ _) | (with_reducible refine Ext.setCell ?_ ?_ _) | (with_reducible refine Ext.trans ?_ (by with_reducible assumption)) | omega | (focus (simp <;> omega))))⟩
  · refine fun _ => ⟨_, 0, rfl, (by simp <;> omega), lt2 ?_ ?_⟩ <;> (simp [go_sem, fcv] <;> omega)
  · refine fun _ => ⟨_, 0, rfl, (by simp <;> omega), lt2 ?_ ?_⟩ <;> (simp [go_sem, fcv] <;> omega)
  · exact (show I64 (-1) from ⟨by decide, by decide⟩)
  · exact (show I64 1 from ⟨by decide, by decide⟩)
  · exact HN.out
  · exact HN.out
  · show 2 ≤ maxLen; unfold maxLen; omega
  · show 2 ≤ maxLen; unfold maxLen; omega

theorem eql_dq (a b : Int) (w : World) : (Op.equalIn 10000 33 (.agg #[.int .i64 a, .int .i64 b]) (.agg #[.int .i64 a, .int .i64 b])).run Try.prog w = .ok true w := by
  simp [go_sem]

theorem few_any (t : Tc) (w : World) : Calls Try.prog 9 #[.agg #[.int .i64 t.most, .int .i64 t.per, .int .i64 t.mx, .slice t.c0.a t.c0.v.nx t.c0.k, .slice t.c0.b t.c0.v.ny t.c0.l, .slice t.c1.a t.c1.v.nx t.c1.k, .slice t.c1.b t.c1.v.ny t.c1.l, .slice t.c2.a t.c2.v.nx t.c2.k, .slice t.c2.b t.c2.v.ny t.c2.l, .slice t.c3.a t.c3.v.nx t.c3.k, .slice t.c3.b t.c3.v.ny t.c3.l]] w fun e w' => ∃ b : Bool, e = .returned (.bool b) ∧ Ext w w' := by
  go_enter Try.func9, Try.ntmps9
  go_wp2
  go_ret
  exact ⟨_, rfl, (by repeat (first | with_reducible exact Ext.refl _ | with_reducible assumption | (with_reducible refine Ext.drew ?_) | (with_reducible refine Ext.drewN ?_ _) | (with_reducible refine Ext.alloc ?_ _) | (with_reducible refine Ext.setCell ?_ ?_ _) | (with_reducible refine Ext.trans ?_ (by with_reducible assumption)) | omega | (focus (simp <;> omega))))⟩

def tex (g1 g2 g3 g4 g5 g6 g7 g8 : Nat) : Tc := ⟨1000, 1024, 500, ⟨some ⟨g1, 0, none⟩, some ⟨g2, 0, none⟩, 2, 2, fcv 0⟩, ⟨some ⟨g3, 0, none⟩, some ⟨g4, 0, none⟩, 2, 2, fcv 0⟩, ⟨some ⟨g5, 0, none⟩, some ⟨g6, 0, none⟩, 2, 2, fcv 0⟩, ⟨some ⟨g7, 0, none⟩, some ⟨g8, 0, none⟩, 2, 2, fcv 300⟩⟩
theorem tex_ok (g1 g2 g3 g4 g5 g6 g7 g8 : Nat) : TOk (tex g1 g2 g3 g4 g5 g6 g7 g8) := ⟨⟨(show (0 : Int) ≤ 1000 ∧ (1000 : Int) ≤ 16777216 from by decide), (show (1 : Int) ≤ 1024 ∧ (1024 : Int) ≤ 1048576 from by decide), (show (0 : Int) ≤ 500 ∧ (500 : Int) ≤ 1048576 from by decide)⟩, fcv_0, fcv_0, fcv_0, fcv_300⟩
theorem tck_ok {t : Tc} (h : TOk t) : tck t = 0 := by
  unfold tck
  rw [if_neg (fun hh => hh h.rg), if_neg (fun hh => hh h.k0), if_neg (fun hh => hh h.k1), if_neg (fun hh => hh h.k2)]
  exact h.k3
theorem tex_refs (g1 g2 g3 g4 g5 g6 g7 g8 : Nat) : rfd (tex g1 g2 g3 g4 g5 g6 g7 g8) 450 0 0 0 = -300 ∧ rfq (tex g1 g2 g3 g4 g5 g6 g7 g8) 450 0 0 0 = 400 := by
  have h := tex_ok g1 g2 g3 g4 g5 g6 g7 g8
  have a0 := fcv_at fcv_0
  have a3 := fcv_at fcv_300
  have l : lim (tex g1 g2 g3 g4 g5 g6 g7 g8) 0 0 = 1000 := by
    show max 0 (1000 - max 0 (max (Pl.atv (fcv 0) (tn 0)) (Pl.atv (fcv 0) 0))) = 1000
    rw [a0, a0]; decide
  have x : txx (tex g1 g2 g3 g4 g5 g6 g7 g8) 450 1000 = 450 := by
    show clip ((clip 450 (-1000) 1000 * 1024).tdiv 1024) (-500) 500 = 450
    decide
  have g : tag (tex g1 g2 g3 g4 g5 g6 g7 g8) 450 0 0 = 300 := by
    show max 0 (Pl.atv (fcv 0) (max 450 (-450))) + max 0 (Pl.atv (fcv 300) (tst 0 0)) = 300
    rw [a0, a3]; decide
  have d : rfd (tex g1 g2 g3 g4 g5 g6 g7 g8) 450 0 0 0 = -300 := by
    unfold rfd
    rw [l, x, g]
    show clip (-300) (-500) 0 = -300
    decide
  have r : rst 500 (-300) = 400 := (Pl.isq_unique (n := 500 * 500 - (-300) * (-300)) (r := 400) (by decide) (by decide) (by decide) (by decide)).symm
  refine ⟨d, ?_⟩
  unfold rfq
  rw [d, l, x]
  show clip 450 (-(rst 500 (-300))) (rst 500 (-300)) = 400
  rw [r]; decide
theorem tex_tq (g1 g2 g3 g4 g5 g6 g7 g8 : Nat) : tqq (tex g1 g2 g3 g4 g5 g6 g7 g8) 400 = 400 := by
  show clip ((clip 400 (-1048576) 1048576 * 1024).tdiv 1024) (-16777216) 16777216 = 400
  decide
set_option maxRecDepth 100000 in
set_option maxHeartbeats 2000000 in
theorem awake36 (w : World) : Calls Try.prog 11 #[] w fun e w' => e = .returned (.bool true) ∧ Ext w w' := by
  have heq := eql_dq (-300) 400
  go_enter Try.func11, Try.ntmps11
  go_wp2_with fail
  refine (flat_any 0 ⟨by decide, by decide⟩ _).mono ?_
  rintro e w1 ⟨g1, g2, rfl, u1, hx1⟩
  go_wp2_with fail
  refine (flat_any 0 ⟨by decide, by decide⟩ _).mono ?_
  rintro e w2 ⟨g3, g4, rfl, u2, hx2⟩
  go_wp2_with fail
  refine (flat_any 0 ⟨by decide, by decide⟩ _).mono ?_
  rintro e w3 ⟨g5, g6, rfl, u3, hx3⟩
  go_wp2_with fail
  refine (flat_any 300 ⟨by decide, by decide⟩ _).mono ?_
  rintro e w4 ⟨g7, g8, rfl, u4, hx4⟩
  go_wp2_with fail
  have E0 : Ext w4 (w4.alloc (.cells #[.int .i64 1000, .int .i64 1024, .int .i64 500, .slice (some ⟨g1, 0, none⟩) 2 2, .slice (some ⟨g2, 0, none⟩) 2 2, .slice (some ⟨g3, 0, none⟩) 2 2, .slice (some ⟨g4, 0, none⟩) 2 2, .slice (some ⟨g5, 0, none⟩) 2 2, .slice (some ⟨g6, 0, none⟩) 2 2, .slice (some ⟨g7, 0, none⟩) 2 2, .slice (some ⟨g8, 0, none⟩) 2 2] 26)) := (Ext.refl w4).alloc _
  have ta : TcAt w4 (tex g1 g2 g3 g4 g5 g6 g7 g8) := ⟨((u1.ext hx2).ext hx3).ext hx4, (u2.ext hx3).ext hx4, u3.ext hx4, u4⟩
  have tk := tex_ok g1 g2 g3 g4 g5 g6 g7 g8
  have tr := tex_refs g1 g2 g3 g4 g5 g6 g7 g8
  have R1 : Hid (∀ V, Ext w4 V → Calls Try.prog 12 #[.agg #[.int .i64 1000, .int .i64 1024, .int .i64 500, .slice (some ⟨g1, 0, none⟩) 2 2, .slice (some ⟨g2, 0, none⟩) 2 2, .slice (some ⟨g3, 0, none⟩) 2 2, .slice (some ⟨g4, 0, none⟩) 2 2, .slice (some ⟨g5, 0, none⟩) 2 2, .slice (some ⟨g6, 0, none⟩) 2 2, .slice (some ⟨g7, 0, none⟩) 2 2, .slice (some ⟨g8, 0, none⟩) 2 2], .int .i64 450, .agg #[.int .i64 0, .int .i64 0, .int .i64 0]] V fun e w' => e = .returned (.tuple #[.agg #[.int .i64 (-300), .int .i64 400], .nilIface]) ∧ Ext V w') :=
    Lib.hid (fun V hV => by
      have h := tRefs_ok (tex g1 g2 g3 g4 g5 g6 g7 g8) 450 0 0 0 V tk (tck_ok tk) (ta.ext hV)
      rw [tr.1, tr.2] at h
      exact h)
  have R2 : Hid (∀ V, Ext w4 V → Calls Try.prog 14 #[.agg #[.int .i64 1000, .int .i64 1024, .int .i64 500, .slice (some ⟨g1, 0, none⟩) 2 2, .slice (some ⟨g2, 0, none⟩) 2 2, .slice (some ⟨g3, 0, none⟩) 2 2, .slice (some ⟨g4, 0, none⟩) 2 2, .slice (some ⟨g5, 0, none⟩) 2 2, .slice (some ⟨g6, 0, none⟩) 2 2, .slice (some ⟨g7, 0, none⟩) 2 2, .slice (some ⟨g8, 0, none⟩) 2 2], .int .i64 400] V fun e w' => e = .returned (.tuple #[.int .i64 400, .nilIface]) ∧ Ext V w') :=
    Lib.hid (fun V hV => by
      have h := tTorque_ok (tex g1 g2 g3 g4 g5 g6 g7 g8) 400 V tk (tck_ok tk) (ta.ext hV)
      rw [tex_tq] at h
      exact h)
  clear ta tk tr u1 u2 u3 u4
  have B0 := Blk.new w4 [.int .i64 1000, .int .i64 1024, .int .i64 500, .slice (some ⟨g1, 0, none⟩) 2 2, .slice (some ⟨g2, 0, none⟩) 2 2, .slice (some ⟨g3, 0, none⟩) 2 2, .slice (some ⟨g4, 0, none⟩) 2 2, .slice (some ⟨g5, 0, none⟩) 2 2, .slice (some ⟨g6, 0, none⟩) 2 2, .slice (some ⟨g7, 0, none⟩) 2 2, .slice (some ⟨g8, 0, none⟩) 2 2] 26
  refine (R1.out _ E0).mono ?_
  rintro e w5 ⟨rfl, hx5⟩
  have E5 := E0.trans hx5
  have B5 := B0.ext hx5
  have k0 := B5.at 0 _ rfl
  have k1 := B5.at 1 _ rfl
  have k2 := B5.at 2 _ rfl
  have k3 := B5.at 3 _ rfl
  have k4 := B5.at 4 _ rfl
  have k5 := B5.at 5 _ rfl
  have k6 := B5.at 6 _ rfl
  have k7 := B5.at 7 _ rfl
  have k8 := B5.at 8 _ rfl
  have k9 := B5.at 9 _ rfl
  have k10 := B5.at 10 _ rfl
  have bn := B5.lt
  go_wp2_with fail
  refine (R2.out _ (E5.alloc _)).mono ?_
  rintro e w6 ⟨rfl, hx6⟩
  have D6 := (Blk.new w5 [.int .i64 (-300), .int .i64 400] 33).ext hx6
  have d0 := D6.at 0 _ rfl
  have d1 := D6.at 1 _ rfl
  go_wp2_with fail
  go_ret
  exact ⟨(by first | rfl | exact ret_true (by simp <;> omega)), (by repeat (first | with_reducible exact Ext.refl _ | with_reducible assumption | (with_reducible refine Ext.drew ?_) | (with_reducible refine Ext.drewN ?_ _) | (with_reducible refine Ext.alloc ?_ _) | (with_reducible refine Ext.setCell ?_ ?_ _) | (with_reducible refine Ext.trans ?_ (by with_reducible assumption)) | omega | (focus (simp <;> omega))))⟩

end Go.Proofs.Ytphfgljfjfpomaa
