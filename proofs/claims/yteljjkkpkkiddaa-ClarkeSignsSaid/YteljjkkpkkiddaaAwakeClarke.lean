/- The clarke laws' fixed calls: awake returns true; limit clips.
   Conditions: none. -/
import Derived.Test.YteljjkkpkkiddaaClarke
import Derived.Test.YteljjkkpkkiddaaRefClarke
import Derived.Test.YteljjkkpkkiddaaCalls
import Derived.Test.YteljjkkpkkiddaaFrame
namespace Go.Proofs.Yteljjkkpkkiddaa
open Go.ChangeShapes Go.WideShapes Go.ChangeAt Go.RowKit

theorem awake19 (w : World) :
    Calls Try.prog 11 #[] w fun e w' => e = .returned (.bool true) ∧ Ext w w' := by
  have e1 : Pl.fa 0 1000 (-1000) = 0 := by decide
  have e2 : Pl.fb 1000 (-1000) = 1154 := by decide
  have e3 : Pl.pb 0 1154 = 999 := by decide
  go_enter Try.func11, Try.ntmps11
  go_wp2_with (first | (go_at_call 13; refine (forward_ok 0 1000 (-1000) _ (by decide) (by decide) (by decide)).mono ?_; rw [e1, e2]; rintro e w1 ⟨rfl, hx1⟩) | (go_at_call 14; refine (back_ok 0 1154 _ (by decide) (by decide)).mono ?_; unfold phv; rw [e3]; rintro e w2 ⟨rfl, hx2⟩))
  go_ret
  exact ⟨rfl, (by repeat (first | exact Ext.refl _ | with_reducible assumption | (refine Ext.drew ?_) | (refine Ext.drewN ?_ _) | (refine Ext.alloc ?_ _) | (refine Ext.setCell ?_ (by simp <;> omega) _) | (refine Ext.trans ?_ (by with_reducible assumption))))⟩

theorem limit_2 (x : Int) (w : World) :
    Calls Try.prog 12 #[.int .i64 x, .int .i64 2] w fun e w' => e = .returned (.int .i64 (clip x (-536870912) 536870912)) ∧ Ext w w' := by
  go_enter Try.func12, Try.ntmps12
  go_wp2
  go_quiet ((go_at_call 24; exact quiet_left (clip_any x (-536870912) 536870912 _)))
  go_wp2
  go_ret
  exact ⟨rfl, (by repeat (first | exact Ext.refl _ | with_reducible assumption | (refine Ext.drew ?_) | (refine Ext.drewN ?_ _) | (refine Ext.alloc ?_ _) | (refine Ext.setCell ?_ (by simp <;> omega) _) | (refine Ext.trans ?_ (by with_reducible assumption))))⟩

theorem limit_4 (x : Int) (w : World) :
    Calls Try.prog 12 #[.int .i64 x, .int .i64 4] w fun e w' => e = .returned (.int .i64 (clip x (-268435456) 268435456)) ∧ Ext w w' := by
  go_enter Try.func12, Try.ntmps12
  go_wp2
  go_quiet ((go_at_call 24; exact quiet_left (clip_any x (-268435456) 268435456 _)))
  go_wp2
  go_ret
  exact ⟨rfl, (by repeat (first | exact Ext.refl _ | with_reducible assumption | (refine Ext.drew ?_) | (refine Ext.drewN ?_ _) | (refine Ext.alloc ?_ _) | (refine Ext.setCell ?_ (by simp <;> omega) _) | (refine Ext.trans ?_ (by with_reducible assumption))))⟩

theorem limit_8 (x : Int) (w : World) :
    Calls Try.prog 12 #[.int .i64 x, .int .i64 8] w fun e w' => e = .returned (.int .i64 (clip x (-134217728) 134217728)) ∧ Ext w w' := by
  go_enter Try.func12, Try.ntmps12
  go_wp2
  go_quiet ((go_at_call 24; exact quiet_left (clip_any x (-134217728) 134217728 _)))
  go_wp2
  go_ret
  exact ⟨rfl, (by repeat (first | exact Ext.refl _ | with_reducible assumption | (refine Ext.drew ?_) | (refine Ext.drewN ?_ _) | (refine Ext.alloc ?_ _) | (refine Ext.setCell ?_ (by simp <;> omega) _) | (refine Ext.trans ?_ (by with_reducible assumption))))⟩

end Go.Proofs.Yteljjkkpkkiddaa
