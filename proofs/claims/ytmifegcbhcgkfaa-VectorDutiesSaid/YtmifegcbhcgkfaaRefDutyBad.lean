/- The contract of the reference's Duty where it refuses.
   Conditions: that the arguments are not in their ranges. -/
import Derived.Test.YtmifegcbhcgkfaaRefDuty
namespace Go.Proofs.Ytmifegcbhcgkfaa
open Go.ChangeShapes Go.WideShapes Go.ChangeAt Go.RowKit

theorem duty21_bad (x y link period : Int) (w : World) (h : ¬ DutyOK x y link period) :
    Calls Try.prog 13 #[.int .i64 x, .int .i64 y, .int .i64 link, .int .i64 period] w fun e w' =>
      e = .returned (.tuple #[.agg #[.int .i64 0, .int .i64 0, .int .i64 0, .bool false], .int .i64 3]) ∧ Ext w w' := by
  by_cases hl : LinkOK link
  · by_cases hp : PerOK period
    · by_cases hx : VoltOK x
      · have H := Lib.hid (fun hy : VoltOK y => h ⟨hl, hp, hx, hy⟩)
        clear h
        go_enter Try.func13, Try.ntmps13
        go_wp2_with fail
        refine (link21_t _ _ hl).mono ?_
        rintro e w' ⟨rfl, rfl⟩
        go_wp2_with fail
        refine (per21_t _ _ hp).mono ?_
        rintro e w' ⟨rfl, rfl⟩
        go_wp2_with fail
        refine (volt21_t _ _ hx).mono ?_
        rintro e w' ⟨rfl, rfl⟩
        go_wp2_with fail
        refine (volt21_f _ _ H.out).mono ?_
        rintro e w' ⟨rfl, rfl⟩
        go_wp2_with fail
        go_returns
        exact ⟨rfl, (by repeat (first | with_reducible exact Ext.refl _ | with_reducible assumption | (with_reducible refine Ext.drew ?_) | (with_reducible refine Ext.drewN ?_ _) | (with_reducible refine Ext.alloc ?_ _) | (with_reducible refine Ext.setCell ?_ ?_ _) | (with_reducible refine Ext.trans ?_ (by with_reducible assumption)) | omega | (focus (simp <;> omega))))⟩
      · have H := Lib.hid hx
        clear h hx
        go_enter Try.func13, Try.ntmps13
        go_wp2_with fail
        refine (link21_t _ _ hl).mono ?_
        rintro e w' ⟨rfl, rfl⟩
        go_wp2_with fail
        refine (per21_t _ _ hp).mono ?_
        rintro e w' ⟨rfl, rfl⟩
        go_wp2_with fail
        refine (volt21_f _ _ H.out).mono ?_
        rintro e w' ⟨rfl, rfl⟩
        go_wp2_with fail
        go_returns
        exact ⟨rfl, (by repeat (first | with_reducible exact Ext.refl _ | with_reducible assumption | (with_reducible refine Ext.drew ?_) | (with_reducible refine Ext.drewN ?_ _) | (with_reducible refine Ext.alloc ?_ _) | (with_reducible refine Ext.setCell ?_ ?_ _) | (with_reducible refine Ext.trans ?_ (by with_reducible assumption)) | omega | (focus (simp <;> omega))))⟩
    · have H := Lib.hid hp
      clear h hp
      go_enter Try.func13, Try.ntmps13
      go_wp2_with fail
      refine (link21_t _ _ hl).mono ?_
      rintro e w' ⟨rfl, rfl⟩
      go_wp2_with fail
      refine (per21_f _ _ H.out).mono ?_
      rintro e w' ⟨rfl, rfl⟩
      go_wp2_with fail
      go_returns
      exact ⟨rfl, (by repeat (first | with_reducible exact Ext.refl _ | with_reducible assumption | (with_reducible refine Ext.drew ?_) | (with_reducible refine Ext.drewN ?_ _) | (with_reducible refine Ext.alloc ?_ _) | (with_reducible refine Ext.setCell ?_ ?_ _) | (with_reducible refine Ext.trans ?_ (by with_reducible assumption)) | omega | (focus (simp <;> omega))))⟩
  · have H := Lib.hid hl
    clear h hl
    go_enter Try.func13, Try.ntmps13
    go_wp2_with fail
    refine (link21_f _ _ H.out).mono ?_
    rintro e w' ⟨rfl, rfl⟩
    go_wp2_with fail
    go_returns
    exact ⟨rfl, (by repeat (first | with_reducible exact Ext.refl _ | with_reducible assumption | (with_reducible refine Ext.drew ?_) | (with_reducible refine Ext.drewN ?_ _) | (with_reducible refine Ext.alloc ?_ _) | (with_reducible refine Ext.setCell ?_ ?_ _) | (with_reducible refine Ext.trans ?_ (by with_reducible assumption)) | omega | (focus (simp <;> omega))))⟩

end Go.Proofs.Ytmifegcbhcgkfaa
