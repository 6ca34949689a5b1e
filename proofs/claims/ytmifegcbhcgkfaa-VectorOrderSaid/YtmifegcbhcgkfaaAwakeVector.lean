/- The vector laws' fixed calls: awake returns true; fit clips; equal duties are equal.
   Conditions: none. -/
import Derived.Test.YtmifegcbhcgkfaaDutyWalk
import Derived.Test.YtmifegcbhcgkfaaRefDuty
import Derived.Test.YtmifegcbhcgkfaaCalls
import Derived.Deep.RegionWith
namespace Go.Proofs.Ytmifegcbhcgkfaa
open Go.ChangeShapes Go.WideShapes Go.ChangeAt Go.RowKit

/-- Equal duties are equal. -/
theorem eql_duty (c0 c1 c2 : Int) (l : Bool) (w : World) :
    (Op.equalIn 10000 27 (.agg #[.int .i64 c0, .int .i64 c1, .int .i64 c2, .bool l]) (.agg #[.int .i64 c0, .int .i64 c1, .int .i64 c2, .bool l])).run Try.prog w = .ok true w := by
  obtain ⟨i, hi, hs⟩ := info_int
  have h := run_equalIn_arr3 (P := Try.prog) w 9997 c0 c1 c2 c0 c1 c2 Try.underlying25 Try.underlying3 hi hs
  simp [go_sem, h]

/-- fit moves a vector, a link and a period into their ranges. -/
theorem fit21 (x y link period : Int) (w : World) :
    Calls Try.prog 17 #[.agg #[.int .i64 x, .int .i64 y], .int .i64 link, .int .i64 period] w fun e w' =>
      e = .returned (.tuple #[.agg #[.int .i64 (clip x (-1048576) 1048576), .int .i64 (clip y (-1048576) 1048576)], .int .i64 (clip link 1 1048576), .int .i64 (clip period 64 4096)]) ∧ Ext w w' := by
  generalize hx : clip x (-1048576) 1048576 = X
  generalize hy : clip y (-1048576) 1048576 = Y
  generalize hl : clip link 1 1048576 = L
  generalize hp : clip period 64 4096 = T
  have HX := Lib.hid hx
  have HY := Lib.hid hy
  have HL := Lib.hid hl
  have HT := Lib.hid hp
  clear hx hy hl hp
  go_enter Try.func17, Try.ntmps17
  go_wp2_with fail
  refine (clip_any x (-1048576) 1048576 _).mono ?_
  rw [HX.out]
  rintro e w' ⟨rfl, rfl⟩
  go_wp2_with fail
  refine (clip_any y (-1048576) 1048576 _).mono ?_
  rw [HY.out]
  rintro e w' ⟨rfl, rfl⟩
  go_wp2_with fail
  go_region_with (first | (go_at_call 23; (with_reducible refine (clip_any link 1 1048576 _).mono ?_); rw [HL.out]; rintro e w' ⟨rfl, rfl⟩) | (go_at_call 23; (with_reducible refine (clip_any period 64 4096 _).mono ?_); rw [HT.out]; rintro e w' ⟨rfl, rfl⟩))
  all_goals
    go_wp2_with fail
    go_returns
    exact ⟨rfl, (by repeat (first | with_reducible exact Ext.refl _ | with_reducible assumption | (with_reducible refine Ext.drew ?_) | (with_reducible refine Ext.drewN ?_ _) | (with_reducible refine Ext.alloc ?_ _) | (with_reducible refine Ext.setCell ?_ ?_ _) | (with_reducible refine Ext.trans ?_ (by with_reducible assumption)) | omega | (focus (simp <;> omega))))⟩

theorem pb_awake : Pl.pb 500 0 = -250 := by decide
theorem duty_awake : dutyOf 500 0 1000 100 = dutyV 87 12 12 false := by
  kernel_rfl
theorem sp_awake : decide (Pl.sp 700 0 ≤ 1000) = false := by decide

theorem awake21 (w : World) :
    Calls Try.prog 11 #[] w fun e w' => e = .returned (.bool true) ∧ Ext w w' := by
  have ok : DutyOK 500 0 1000 100 := ⟨⟨by decide, by decide⟩, ⟨by decide, by decide⟩, ⟨by decide, by decide⟩, ⟨by decide, by decide⟩⟩
  go_enter Try.func11, Try.ntmps11
  go_wp2_with fail
  refine (duty_ok 500 0 1000 100 _ ok).mono ?_
  rw [duty_awake]
  unfold dutyV
  rintro e w1 ⟨rfl, hx1⟩
  go_wp2_with fail
  refine (inside_ok 700 0 1000 _ ⟨by decide, by decide⟩ ⟨by decide, by decide⟩ ⟨by decide, by decide⟩).mono ?_
  rw [sp_awake]
  rintro e w2 ⟨rfl, hx2⟩
  have A := (Blk.new w1 [.int .i64 87, .int .i64 12, .int .i64 12, .bool false] 27).ext hx2
  have a0 := A.at 0 _ rfl
  have a1 := A.at 1 _ rfl
  have a2 := A.at 2 _ rfl
  have a3 := A.at 3 _ rfl
  go_wp2_with fail
  go_ret
  exact ⟨(by first | rfl | exact ret_true (by simp <;> omega)), (by repeat (first | with_reducible exact Ext.refl _ | with_reducible assumption | (with_reducible refine Ext.drew ?_) | (with_reducible refine Ext.drewN ?_ _) | (with_reducible refine Ext.alloc ?_ _) | (with_reducible refine Ext.setCell ?_ ?_ _) | (with_reducible refine Ext.trans ?_ (by with_reducible assumption)) | omega | (focus (simp <;> omega))))⟩

end Go.Proofs.Ytmifegcbhcgkfaa
