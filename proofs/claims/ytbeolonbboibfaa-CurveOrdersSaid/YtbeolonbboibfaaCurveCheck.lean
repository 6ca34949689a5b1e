/- The contracts of package curve's functions Check, At (and of sort's searches), each walked once.
   Conditions: the bounds that each names. -/
import Derived.Test.YtbeolonbboibfaaRow
namespace Go.Proofs.Ytbeolonbboibfaa
open Go.ChangeShapes Go.WideShapes Go.ChangeAt Go.RowKit

set_option maxRecDepth 100000 in
set_option maxHeartbeats 1000000 in
theorem ccheck_eq (a b : Option Addr) (k l : Nat) (c : Pl.Cv) (w : World) (h1 : c.nx = c.ny) (hx : Row w a c.nx c.x) (hy : Row w b c.nx c.y) (lx : c.nx ≤ maxLen) :
    Calls Try.prog 17 #[.agg #[.slice a c.nx k, .slice b c.nx l]] w fun e w' => e = .returned (errv (Pl.chk c)) ∧ Ext w w' := by
  have lx' : c.nx ≤ 9223372036854775807 := lx
  have H1 := Lib.hid h1
  clear lx h1
  · by_cases h2 : 32 < c.nx
    · have hr : Pl.chk c = 4 := by unfold Pl.chk; rw [if_neg (by have := H1.out; omega), if_pos h2]
      rw [hr]
      have t2 : (32 : Int) < (c.nx : Int) := by omega
      clear hx hy
      go_enter Try.func17, Try.ntmps17
      go_wp2_with fail
      go_ret
      exact ⟨rfl, (by repeat (first | with_reducible exact Ext.refl _ | with_reducible assumption | (with_reducible refine Ext.drew ?_) | (with_reducible refine Ext.drewN ?_ _) | (with_reducible refine Ext.alloc ?_ _) | (with_reducible refine Ext.setCell ?_ ?_ _) | (with_reducible refine Ext.trans ?_ (by with_reducible assumption)) | omega | (focus (simp <;> omega))))⟩
    · by_cases h3 : c.nx < 2
      · have hr : Pl.chk c = 11 := by unfold Pl.chk; rw [if_neg (by have := H1.out; omega), if_neg h2, if_pos h3]
        rw [hr]
        have t2 : (c.nx : Int) ≤ 32 := by omega
        have t3 : (c.nx : Int) < 2 := by omega
        clear hx hy
        go_enter Try.func17, Try.ntmps17
        go_wp2_with fail
        go_ret
        exact ⟨rfl, (by repeat (first | with_reducible exact Ext.refl _ | with_reducible assumption | (with_reducible refine Ext.drew ?_) | (with_reducible refine Ext.drewN ?_ _) | (with_reducible refine Ext.alloc ?_ _) | (with_reducible refine Ext.setCell ?_ ?_ _) | (with_reducible refine Ext.trans ?_ (by with_reducible assumption)) | omega | (focus (simp <;> omega))))⟩
      · have hF0 : Pl.chkF c (c.nx - 0) 0 = Pl.chk c := by unfold Pl.chk; rw [if_neg (by have := H1.out; omega), if_neg h2, if_neg h3]; rfl
        obtain ⟨bx, ox, rfl, hbx, hcx⟩ := hx (by omega)
        obtain ⟨bY, oY, rfl, hby, hcy⟩ := hy (by omega)
        generalize Pl.chk c = r at hF0 ⊢
        have HF := Lib.hid hF0
        have HX := Lib.hid hcx
        have HY := Lib.hid hcy
        have t2 : (c.nx : Int) ≤ 32 := by omega
        have t3 : (2 : Int) ≤ (c.nx : Int) := by omega
        clear hF0 hcx hcy
        go_enter Try.func17, Try.ntmps17
        go_wp2_with fail
        go_loopw [28] (fun i wr => ∃ j : Nat, j ≤ c.nx ∧ i = .int .i64 j ∧ Pl.chkF c (c.nx - j) j = r ∧ Blk wr w.heap.size [.slice (some ⟨bx, ox, none⟩) c.nx k, .slice (some ⟨bY, oY, none⟩) c.nx l] ∧ Ext w wr) (fun i _ => c.nx - (intOf i).toNat)
        case atStart => exact ⟨0, by omega, rfl, HF.out, Blk.new _ _ _, (by repeat (first | with_reducible exact Ext.refl _ | with_reducible assumption | (with_reducible refine Ext.drew ?_) | (with_reducible refine Ext.drewN ?_ _) | (with_reducible refine Ext.alloc ?_ _) | (with_reducible refine Ext.setCell ?_ ?_ _) | (with_reducible refine Ext.trans ?_ (by with_reducible assumption)) | omega | (focus (simp <;> omega))))⟩
        case round =>
          obtain ⟨j, hj, rfl, hF, B, hxr⟩ := hrel
          have b0 := B.at 0 _ rfl
          have b1 := B.at 1 _ rfl
          have bn := B.lt
          by_cases hlt : j < c.nx
          · have hlt' : (j : Int) < (c.nx : Int) := by omega
            have cx := (hxr.cell hbx).trans (HX.out j hlt)
            have cy := (hxr.cell hby).trans (HY.out j hlt)
            have hbx' := Nat.lt_of_lt_of_le hbx hxr.size
            have hby' := Nat.lt_of_lt_of_le hby hxr.size
            have es : c.nx - j = (c.nx - (j + 1)) + 1 := by omega
            rw [es, Pl.chkF] at hF
            by_cases hb : (Pl.far (c.x j) || Pl.far (c.y j)) = true
            · rw [if_pos hb] at hF
              have HR := Lib.hid hF
              rw [Bool.or_eq_true] at hb
              unfold Pl.far at hb
              simp only [Bool.or_eq_true, decide_eq_true_eq] at hb
              clear HF HX HY hF es
              generalize c.x j = x at *
              generalize c.y j = y at *
              have hb' : x < -1073741824 ∨ (-1073741824 ≤ x ∧ 1073741824 < x) ∨ (-1073741824 ≤ x ∧ x ≤ 1073741824 ∧ y < -1073741824) ∨ (-1073741824 ≤ x ∧ x ≤ 1073741824 ∧ -1073741824 ≤ y ∧ 1073741824 < y) := by omega
              clear hb
              rcases hb' with q1 | ⟨q1, q2⟩ | ⟨q1, q2, q3⟩ | ⟨q1, q2, q3, q4⟩
              all_goals
                go_wp2_with fail
                go_ret
                exact ⟨by rw [← HR.out]; rfl, (by repeat (first | with_reducible exact Ext.refl _ | with_reducible assumption | (with_reducible refine Ext.drew ?_) | (with_reducible refine Ext.drewN ?_ _) | (with_reducible refine Ext.alloc ?_ _) | (with_reducible refine Ext.setCell ?_ ?_ _) | (with_reducible refine Ext.trans ?_ (by with_reducible assumption)) | omega | (focus (simp <;> omega))))⟩
            · rw [if_neg hb] at hF
              have hb2 : (Pl.far (c.x j) || Pl.far (c.y j)) = false := by simpa using hb
              rw [Bool.or_eq_false_iff] at hb2
              have ⟨q1, q2⟩ := Pl.far_false hb2.1
              have ⟨q3, q4⟩ := Pl.far_false hb2.2
              rcases Nat.eq_zero_or_pos j with e0 | e0
              · rw [if_neg (by simp [e0])] at hF
                subst e0
                rw [Nat.add_zero] at cx cy
                have HR := Lib.hid hF
                clear HF HX HY hF es hb hb2
                generalize c.x 0 = x at *
                generalize c.y 0 = y at *
                go_wp2_with fail
                skip
                go_roundw
                case rel => exact ⟨1, by omega, by go_num, HR.out, B, (by repeat (first | with_reducible exact Ext.refl _ | with_reducible assumption | (with_reducible refine Ext.drew ?_) | (with_reducible refine Ext.drewN ?_ _) | (with_reducible refine Ext.alloc ?_ _) | (with_reducible refine Ext.setCell ?_ ?_ _) | (with_reducible refine Ext.trans ?_ (by with_reducible assumption)) | omega | (focus (simp <;> omega))))⟩
                case measure => simp [intOf]; omega
              · have e0' : (0 : Int) < (j : Int) := by omega
                have ej : ((j : Int) - 1).toNat = j - 1 := by omega
                have ej2 : (0 : Int) ≤ (j : Int) - 1 := by omega
                have ej3 : (j : Int) - 1 < (c.nx : Int) := by omega
                have ej4 : IntKind.i64.wrap ((j : Int) - 1) = (j : Int) - 1 := IntWalk.i64_in _ (by omega)
                have px := (hxr.cell hbx).trans (HX.out (j - 1) (by omega))
                have py := (hxr.cell hby).trans (HY.out (j - 1) (by omega))
                rw [decide_eq_true e0, Bool.true_and] at hF
                by_cases ho : (decide (c.x j ≤ c.x (j - 1)) || decide (c.y j < c.y (j - 1))) = true
                · rw [if_pos ho] at hF
                  have HR := Lib.hid hF
                  simp only [Bool.or_eq_true, decide_eq_true_eq] at ho
                  clear HF HX HY hF es hb hb2
                  generalize c.x j = x at *
                  generalize c.y j = y at *
                  generalize c.x (j - 1) = xp at *
                  generalize c.y (j - 1) = yp at *
                  have ho' : x ≤ xp ∨ (xp < x ∧ y < yp) := by omega
                  clear ho
                  rcases ho' with p1 | ⟨p1, p2⟩
                  · skip
                    go_wp2_with fail
                    skip
                    go_ret
                    exact ⟨by rw [← HR.out]; rfl, (by repeat (first | with_reducible exact Ext.refl _ | with_reducible assumption | (with_reducible refine Ext.drew ?_) | (with_reducible refine Ext.drewN ?_ _) | (with_reducible refine Ext.alloc ?_ _) | (with_reducible refine Ext.setCell ?_ ?_ _) | (with_reducible refine Ext.trans ?_ (by with_reducible assumption)) | omega | (focus (simp <;> omega))))⟩
                  · skip
                    go_wp2_with fail
                    skip
                    go_ret
                    exact ⟨by rw [← HR.out]; rfl, (by repeat (first | with_reducible exact Ext.refl _ | with_reducible assumption | (with_reducible refine Ext.drew ?_) | (with_reducible refine Ext.drewN ?_ _) | (with_reducible refine Ext.alloc ?_ _) | (with_reducible refine Ext.setCell ?_ ?_ _) | (with_reducible refine Ext.trans ?_ (by with_reducible assumption)) | omega | (focus (simp <;> omega))))⟩
                · rw [if_neg ho] at hF
                  have ho2 : (decide (c.x j ≤ c.x (j - 1)) || decide (c.y j < c.y (j - 1))) = false := by simpa using ho
                  simp only [Bool.or_eq_false_iff, decide_eq_false_iff_not] at ho2
                  have p1 : c.x (j - 1) < c.x j := by omega
                  have p2 : c.y (j - 1) ≤ c.y j := by omega
                  have HR := Lib.hid hF
                  clear HF HX HY hF es hb hb2 ho ho2
                  generalize c.x j = x at *
                  generalize c.y j = y at *
                  generalize c.x (j - 1) = xp at *
                  generalize c.y (j - 1) = yp at *
                  skip
                  go_wp2_with fail
                  skip
                  go_roundw
                  case rel => exact ⟨j + 1, by omega, by go_num, HR.out, B, (by repeat (first | with_reducible exact Ext.refl _ | with_reducible assumption | (with_reducible refine Ext.drew ?_) | (with_reducible refine Ext.drewN ?_ _) | (with_reducible refine Ext.alloc ?_ _) | (with_reducible refine Ext.setCell ?_ ?_ _) | (with_reducible refine Ext.trans ?_ (by with_reducible assumption)) | omega | (focus (simp <;> omega))))⟩
                  case measure => simp [intOf]; omega
          · have e : c.nx - j = 0 := by omega
            rw [e] at hF
            have HR : Hid (0 = r) := Lib.hid hF
            have hge : (c.nx : Int) ≤ (j : Int) := by omega
            clear HF HX HY hF
            go_wp2_with fail
            go_ret
            exact ⟨by rw [← HR.out]; rfl, (by repeat (first | with_reducible exact Ext.refl _ | with_reducible assumption | (with_reducible refine Ext.drew ?_) | (with_reducible refine Ext.drewN ?_ _) | (with_reducible refine Ext.alloc ?_ _) | (with_reducible refine Ext.setCell ?_ ?_ _) | (with_reducible refine Ext.trans ?_ (by with_reducible assumption)) | omega | (focus (simp <;> omega))))⟩
set_option maxRecDepth 100000 in
set_option maxHeartbeats 1000000 in
theorem ccheck (a b : Option Addr) (k l : Nat) (c : Pl.Cv) (w : World) (hx : Row w a c.nx c.x) (hy : Row w b c.ny c.y) (lx : c.nx ≤ maxLen) (ly : c.ny ≤ maxLen) :
    Calls Try.prog 17 #[.agg #[.slice a c.nx k, .slice b c.ny l]] w fun e w' => e = .returned (errv (Pl.chk c)) ∧ Ext w w' := by
  by_cases h1 : c.nx = c.ny
  · rw [← h1] at hy ⊢
    exact ccheck_eq a b k l c w h1 hx hy lx
  · have hr : Pl.chk c = 11 := by unfold Pl.chk; rw [if_pos h1]
    rw [hr]
    have lx' : c.nx ≤ 9223372036854775807 := lx
    have ly' : c.ny ≤ 9223372036854775807 := ly
    have t1 : ((c.nx : Int) != (c.ny : Int)) = true := by simp; omega
    clear hx hy lx ly h1 hr
    generalize c.nx = n at *
    generalize c.ny = m at *
    go_enter Try.func17, Try.ntmps17
    go_wp2_with fail
    go_ret
    exact ⟨rfl, (by repeat (first | with_reducible exact Ext.refl _ | with_reducible assumption | (with_reducible refine Ext.drew ?_) | (with_reducible refine Ext.drewN ?_ _) | (with_reducible refine Ext.alloc ?_ _) | (with_reducible refine Ext.setCell ?_ ?_ _) | (with_reducible refine Ext.trans ?_ (by with_reducible assumption)) | omega | (focus (simp <;> omega))))⟩


end Go.Proofs.Ytbeolonbboibfaa
