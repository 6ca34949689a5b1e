/- The root laws' fixed calls: awake returns true.
   Conditions: none. -/
import Derived.Test.YtelmeebpnbhoiaaRoot
import Derived.Test.YtelmeebpnbhoiaaRefRoot
import Derived.Test.YtelmeebpnbhoiaaCalls
namespace Go.Proofs.Ytelmeebpnbhoiaa
open Go.ChangeShapes Go.WideShapes Go.ChangeAt Go.RowKit

theorem awake08 (w : World) :
    Calls Try.prog 11 #[] w fun e w' => e = .returned (.bool true) ∧ Ext w w' := by
  have q1 : rst 13 5 = 12 := (Pl.isq_unique (n := 13 * 13 - 5 * 5) (r := 12) (by decide) (by decide) (by decide) (by decide)).symm
  have q2 : Pl.isq 99 = 9 := (Pl.isq_unique (n := 99) (r := 9) (by decide) (by decide) (by decide) (by decide)).symm
  have q3 : Pl.upq 99 = 10 := by unfold Pl.upq; rw [q2]; decide
  have q5 : Pl.isq (300 * 300 + 400 * 400) = 500 := (Pl.isq_unique (n := 300 * 300 + 400 * 400) (r := 500) (by decide) (by decide) (by decide) (by decide)).symm
  have q4 : Pl.upq (300 * 300 + 400 * 400) = 500 := by unfold Pl.upq; rw [q5]; decide
  have ok1 : RestOK 13 5 := ⟨by decide, by decide, by decide, by decide, by decide⟩
  have ok2 : WithinOK 300 400 100 := ⟨by decide, by decide, by decide, by decide⟩
  have q6 : ((300 : Int) * 100).tdiv 500 = 60 := by decide
  have q7 : ((400 : Int) * 100).tdiv 500 = 80 := by decide
  have Q1 := Lib.hid q1
  have Q2 := Lib.hid q2
  have Q3 := Lib.hid q3
  have Q4 := Lib.hid q4
  have Q6 := Lib.hid q6
  have Q7 := Lib.hid q7
  clear q1 q2 q3 q4 q5 q6 q7
  go_enter Try.func11, Try.ntmps11
  go_wp2_with (first | (go_at_call 16; refine (rest_ok 13 5 _ ok1).mono ?_; rw [Q1.out]; rintro e w1 ⟨rfl, hx1⟩) | (go_at_call 20; refine (scale_cut 300 400 100 _ ok2 (by decide)).mono ?_; rw [Q4.out, Q6.out, Q7.out]; rintro e w2 ⟨rfl, hx2⟩) | (go_at_call 12; refine (sqrt_any 99 _ (i64_of (by decide) (by decide))).mono ?_; rw [Q2.out]; rintro e w3 ⟨rfl, rfl⟩) | (go_at_call 14; refine (up_any 99 _ (i64_of (by decide) (by decide))).mono ?_; rw [Q3.out]; rintro e w3 ⟨rfl, rfl⟩))
  go_ret
  exact ⟨rfl, (by repeat (first | exact Ext.refl _ | with_reducible assumption | (refine Ext.drew ?_) | (refine Ext.drewN ?_ _) | (refine Ext.alloc ?_ _) | (refine Ext.setCell ?_ (by simp <;> omega) _) | (refine Ext.trans ?_ (by with_reducible assumption))))⟩

end Go.Proofs.Ytelmeebpnbhoiaa
