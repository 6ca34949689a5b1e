/- The law's fixed call returns true.
   Conditions: none. -/
import Derived.Test.YtfignlcplkihpaaTimes
import Derived.Test.YtfignlcplkihpaaFrameOk
import Derived.Test.YtfignlcplkihpaaDutyWalk
import Derived.Test.YtfignlcplkihpaaMake
import Derived.Test.YtfignlcplkihpaaPlainLegs
import Derived.Test.YtfignlcplkihpaaSets
namespace Go.Proofs.Ytfignlcplkihpaa
open Go.ChangeShapes Go.WideShapes Go.ChangeAt Go.RowKit

def C0 : Pl.GC := ⟨fun _ => 25, fun _ => 75, 4, 100⟩
theorem run0_ok : RunOK C0 Pl.fresh 100 := ⟨Pl.fresh_beg, ⟨by decide, by decide⟩, ⟨by decide, by decide⟩, ⟨by decide, by decide⟩, fun i _ => by show (0 : Int) ≤ 25 ∧ (25 : Int) ≤ 75 ∧ (75 : Int) ≤ (100 : Nat); decide⟩
theorem duty0 (w : World) : Calls Try.prog 9 #[.int .i64 0, .int .i64 0, .int .i64 1000, .int .i64 100] w fun e w' => e = .returned (.tuple #[.agg #[.int .i64 50, .int .i64 50, .int .i64 50, .bool false], .nilIface]) ∧ Ext w w' := by
  have h := duty_ok 0 0 1000 100 w ⟨⟨by decide, by decide⟩, ⟨by decide, by decide⟩, ⟨by decide, by decide⟩, ⟨by decide, by decide⟩⟩
  have e : dutyOf 0 0 1000 100 = .agg #[.int .i64 50, .int .i64 50, .int .i64 50, .bool false] := by kernel_rfl
  rw [e] at h
  exact h
theorem make0 (w : World) : Calls Try.prog 10 #[.agg #[.int .i64 50, .int .i64 50, .int .i64 50], .int .i64 100, .int .i64 5] w fun e w' => e = .returned (.tuple #[.agg #[.int .i64 25, .int .i64 75, .int .i64 25, .int .i64 75, .int .i64 25, .int .i64 75], .nilIface]) ∧ Ext w w' := by
  have h := make_any 50 50 50 100 5 w ⟨by decide, by decide⟩ (by decide) (by decide) ⟨by decide, by decide⟩ ⟨by decide, by decide⟩ ⟨by decide, by decide⟩
  have e1 : pf 50 100 5 = 25 := by decide
  have e2 : pg 50 100 5 = 75 := by decide
  rw [e1, e2] at h
  exact h
/-- Run and Safe on the fresh state. -/
theorem runs0 : ∃ M : Pl.Sim, (∀ w, Calls Try.prog 11 #[.agg #[.int .i64 0, .int .i64 4096, .int .i64 0, .int .i64 4096, .int .i64 0, .int .i64 4096], .agg #[.int .i64 25, .int .i64 75, .int .i64 25, .int .i64 75, .int .i64 25, .int .i64 75], .int .i64 100, .int .i64 4, .int .i64 100] w fun e w' => ∃ a k, e = .returned (.tuple #[.agg #[.int .i64 100, .bool false, .bool false, .bool false, .bool false, .bool false, .bool false, .slice a M.es.length k], .agg #[.int .i64 (M.s 0), .int .i64 (M.d 0), .int .i64 (M.s 1), .int .i64 (M.d 1), .int .i64 (M.s 2), .int .i64 (M.d 2)], .nilIface]) ∧ RowE w' a M.es ∧ (∀ b, ab a = some b → w.heap.size ≤ b) ∧ Ext w w') ∧
    (∀ a k w, RowE w a M.es → Calls Try.prog 12 #[.agg #[.int .i64 0, .int .i64 4096, .int .i64 0, .int .i64 4096, .int .i64 0, .int .i64 4096], .agg #[.int .i64 100, .bool false, .bool false, .bool false, .bool false, .bool false, .bool false, .slice a M.es.length k], .int .i64 4] w fun e w' => e = .returned (.tuple #[.bool true, .agg #[.int .i64 (M.s 0), .int .i64 (M.d 0), .int .i64 (M.s 1), .int .i64 (M.d 1), .int .i64 (M.s 2), .int .i64 (M.d 2)], .nilIface]) ∧ Ext w w') := by
  obtain ⟨M, hM⟩ : ∃ M, M = Pl.sim C0 Pl.fresh (3 * 100) := ⟨_, rfl⟩
  refine ⟨M, fun w => ?_, fun a k w hr => ?_⟩
  · have h := run_any C0 Pl.fresh 100 w run0_ok
    rw [← hM] at h
    exact h
  · have h := safe_any C0 Pl.fresh 100 a k w run0_ok (by rw [← hM]; exact hr)
    rw [← hM] at h
    exact h

/-- Behind the two calls that draw. -/
def AfterRun (w W : World) (M : Pl.Sim) (p5 : Value) : Prop := ∃ b a k, p5 = .pointer (some ⟨b, 0, none⟩) ∧ Blk W b [.int .i64 100, .bool false, .bool false, .bool false, .bool false, .bool false, .bool false, .slice a M.es.length k] ∧ RowE W a M.es ∧ Ext w W
set_option linter.unusedSimpArgs false in
set_option maxRecDepth 100000 in
set_option maxHeartbeats 4000000 in
theorem centred_t (w : World) : Calls Try.prog 4 #[] w fun e w' => e = .returned (.bool true) ∧ Ext w w' := by
  obtain ⟨M, hR, hS⟩ := runs0
  have HR := Lib.hid hR
  have HS := Lib.hid hS
  clear hR hS
  go_enter Try.func4, Try.ntmps4
  go_wp2_with fail
  refine (duty0 _).mono ?_
  rintro e w1 ⟨rfl, hx1⟩
  have B1 := Blk.new w1 [.int .i64 50, .int .i64 50, .int .i64 50, .bool false] 40
  have o0 := B1.at 0 _ rfl
  have o1 := B1.at 1 _ rfl
  have o2 := B1.at 2 _ rfl
  go_wp2_with fail
  refine (make0 _).mono ?_
  rintro e w2 ⟨rfl, hx2⟩
  have P3 := Blk.new w2 [.int .i64 25, .int .i64 75, .int .i64 25, .int .i64 75, .int .i64 25, .int .i64 75] 45
  have B1 := (B1.ext hx2).alloc (.cells #[.int .i64 25, .int .i64 75, .int .i64 25, .int .i64 75, .int .i64 25, .int .i64 75] 45)
  have E3 : Ext w (w2.alloc (.cells #[.int .i64 25, .int .i64 75, .int .i64 25, .int .i64 75, .int .i64 25, .int .i64 75] 45)) := (by repeat (first | with_reducible exact Ext.refl _ | with_reducible assumption | (with_reducible refine Ext.drew ?_) | (with_reducible refine Ext.drewN ?_ _) | (with_reducible refine Ext.alloc ?_ _) | (with_reducible refine Ext.setCell ?_ ?_ _) | (with_reducible refine Ext.trans ?_ (by with_reducible assumption)) | omega | (focus (simp <;> omega))))
  clear o0 o1 o2
  have c0 := P3.at 0 _ rfl
  have c1 := P3.at 1 _ rfl
  have c2 := P3.at 2 _ rfl
  have c3 := P3.at 3 _ rfl
  have c4 := P3.at 4 _ rfl
  have c5 := P3.at 5 _ rfl
  have P3l := P3.lt
  have P3f := P3.fr
  go_upto_region 3 with fail
  go_cut [5, 7] (fun p5 p7 wx => p7 = .nilIface ∧ AfterRun (w2.alloc (.cells #[.int .i64 25, .int .i64 75, .int .i64 25, .int .i64 75, .int .i64 25, .int .i64 75] 45)) wx M p5)
  case first =>
    obtain ⟨W3, hW3⟩ : ∃ W, W = w2.alloc (.cells #[.int .i64 25, .int .i64 75, .int .i64 25, .int .i64 75, .int .i64 25, .int .i64 75] 45) := ⟨_, rfl⟩
    rw [← hW3] at P3 P3l c0 c1 c2 c3 c4 c5 ⊢
    have HL := Lib.hid P3l
    have HC0 := Lib.hid c0
    have HC1 := Lib.hid c1
    have HC2 := Lib.hid c2
    have HC3 := Lib.hid c3
    have HC4 := Lib.hid c4
    have HC5 := Lib.hid c5
    have HW3 := Lib.hid hW3
    clear hW3 P3l P3f c0 c1 c2 c3 c4 c5
    refine wp_region_B (fun V => Ext W3 V) [9] (by kernel_rfl) ?_
    have hS : Ext W3 W3.drew := (Ext.refl _).drew
    generalize W3.drew = v0 at hS ⊢
    refine wpAnyB_take (i := 1) (v := ?_) rfl (by kernel_rfl) (by kernel_rfl) (by kernel_rfl) (by kernel_rfl) (by kernel_rfl) (by kernel_rfl) (fun _ _ _ h => h) (Or.inl ⟨by rfl, ?_⟩) hS ?_
    rotate_left
    · (intro V hV; have e0 := (hV.cell HL.out).trans HC0.out; have e1 := (hV.cell HL.out).trans HC1.out; have e2 := (hV.cell HL.out).trans HC2.out; have e3 := (hV.cell HL.out).trans HC3.out; have e4 := (hV.cell HL.out).trans HC4.out; have e5 := (hV.cell HL.out).trans HC5.out; go_simp; (try with_reducible rfl))
    (try simp only [Act.put, List.setIfInBounds_toArray, List.set_cons_zero, List.set_cons_succ])
    refine wpAnyB_ready (rs := [0, 7, 8]) (by kernel_rfl) (by simp) ?_
    refine AllReadyB.cons rfl (fun K hK => ?_) ?_
    · skip
      go_simp
      refine (fresh_t _).mono ?_
      rintro e v1 ⟨rfl, hxv1⟩
      (try go_wp2_with fail)
      have hS := hS.trans hxv1
      refine hK.out _ _ (fun _ => hS) ?_
      clear hK K
      (try simp only [Act.put, List.setIfInBounds_toArray, List.set_cons_zero, List.set_cons_succ])
      refine wpAnyB_ready (rs := [2, 7, 8]) (by kernel_rfl) (by simp) ?_
      refine AllReadyB.cons rfl (fun K hK => ?_) ?_
      · skip
        go_simp
        refine (HR.out _).mono ?_
        rintro e v2 ⟨a, k, rfl, hrv2, hnv2, hxv2⟩
        (try go_wp2_with fail)
        have hS := hS.trans hxv2
        have hr := Lib.hid hrv2
        clear hrv2 hnv2
        refine hK.out _ _ (fun _ => hS) ?_
        clear hK K
        (try simp only [Act.put, List.setIfInBounds_toArray, List.set_cons_zero, List.set_cons_succ])
        refine wpAnyB_take0 (i := 3) (v := ?_) rfl (by kernel_rfl) (by kernel_rfl) (by kernel_rfl) (by kernel_rfl) (fun _ _ _ h => h) (Or.inl ⟨by rfl, ?_⟩) (fun _ => hS) ?_
        rotate_left
        · (intro V; go_simp; (try with_reducible rfl))
        (try simp only [Act.put, List.setIfInBounds_toArray, List.set_cons_zero, List.set_cons_succ])
        refine wpAnyB_take0 (i := 4) (v := ?_) rfl (by kernel_rfl) (by kernel_rfl) (by kernel_rfl) (by kernel_rfl) (fun _ _ _ h => h) (Or.inl ⟨by rfl, ?_⟩) (fun _ => hS) ?_
        rotate_left
        · (intro V; go_simp; (try with_reducible rfl))
        (try simp only [Act.put, List.setIfInBounds_toArray, List.set_cons_zero, List.set_cons_succ])
        refine wpAnyB_take0 (i := 5) (v := ?_) rfl (by kernel_rfl) (by kernel_rfl) (by kernel_rfl) (by kernel_rfl) (fun _ _ _ h => h) (Or.inl ⟨by rfl, ?_⟩) (fun _ => hS) ?_
        rotate_left
        · (intro V; go_simp; (try with_reducible rfl))
        (try simp only [Act.put, List.setIfInBounds_toArray, List.set_cons_zero, List.set_cons_succ])
        refine wpAnyB_take0 (i := 6) (v := ?_) rfl (by kernel_rfl) (by kernel_rfl) (by kernel_rfl) (by kernel_rfl) (fun _ _ _ h => h) (Or.inl ⟨by rfl, ?_⟩) (fun _ => hS) ?_
        rotate_left
        · (intro V; go_simp; (try with_reducible rfl))
        (try simp only [Act.put, List.setIfInBounds_toArray, List.set_cons_zero, List.set_cons_succ])
        refine wpAnyB_ready (rs := [7, 8]) (by kernel_rfl) (by simp) ?_
        refine AllReadyB.cons rfl (fun K hK => ?_) ?_
        · skip
          go_simp
          refine hK.out _ _ (fun _ => hS.alloc _) ?_
          clear hK K
          (try simp only [Act.put, List.setIfInBounds_toArray, List.set_cons_zero, List.set_cons_succ])
          obtain ⟨v3, hV⟩ : ∃ V, V = v2.alloc (.cells #[.int .i64 0, .bool false, .bool false, .bool false, .bool false, .bool false, .bool false, .slice none 0 0] 52) := ⟨_, rfl⟩
          rw [← hV]
          have hxv3 : Ext v2 v3 := by rw [hV]; exact (Ext.refl _).alloc _
          have B7 : Blk v3 v2.heap.size [.int .i64 0, .bool false, .bool false, .bool false, .bool false, .bool false, .bool false, .slice none 0 0] := by rw [hV]; exact Blk.new _ _ _
          clear hV
          obtain ⟨b7, hb⟩ : ∃ b, b = v2.heap.size := ⟨_, rfl⟩
          have QN7 : Hid (M.es ≠ [] → ∀ x, ab a = some x → x ≠ b7) := Lib.hid (by rw [hb]; exact RowE.new hr.out)
          rw [← hb] at B7 ⊢
          have gb7 : W3.heap.size ≤ b7 := by have := hS.size; omega
          have hr := Lib.hid (hr.out.ext hxv3)
          have hS := hS.trans hxv3
          clear hb
          refine wpAnyB_ready (rs := [8]) (by kernel_rfl) (by simp) ?_
          refine AllReadyB.cons rfl (fun K hK => ?_) ?_
          · skip
            go_simp
            refine hK.out _ _ (fun _ => hS.alloc _) ?_
            clear hK K
            (try simp only [Act.put, List.setIfInBounds_toArray, List.set_cons_zero, List.set_cons_succ])
            obtain ⟨v4, hV⟩ : ∃ V, V = v3.alloc (.cells #[.int .i64 0, .int .i64 0, .int .i64 0, .int .i64 0, .int .i64 0, .int .i64 0] 29) := ⟨_, rfl⟩
            rw [← hV]
            have hxv4 : Ext v3 v4 := by rw [hV]; exact (Ext.refl _).alloc _
            have B8 : Blk v4 v3.heap.size [.int .i64 0, .int .i64 0, .int .i64 0, .int .i64 0, .int .i64 0, .int .i64 0] := by rw [hV]; exact Blk.new _ _ _
            clear hV
            obtain ⟨b8, hb⟩ : ∃ b, b = v3.heap.size := ⟨_, rfl⟩
            have QN8 : Hid (M.es ≠ [] → ∀ x, ab a = some x → x ≠ b8) := Lib.hid (by rw [hb]; exact RowE.new hr.out)
            rw [← hb] at B8 ⊢
            have gb8 : W3.heap.size ≤ b8 := by have := hS.size; omega
            have ne78 : b7 ≠ b8 := by have := B7.lt; omega
            have ne87 : b8 ≠ b7 := fun h => ne78 h.symm
            have B7 := B7.ext hxv4
            have hr := Lib.hid (hr.out.ext hxv4)
            have hS := hS.trans hxv4
            clear hb
            have s7_0 := B7.at 0 _ rfl
            have s7_1 := B7.at 1 _ rfl
            have s7_2 := B7.at 2 _ rfl
            have s7_3 := B7.at 3 _ rfl
            have s7_4 := B7.at 4 _ rfl
            have s7_5 := B7.at 5 _ rfl
            have s7_6 := B7.at 6 _ rfl
            have s7_7 := B7.at 7 _ rfl
            have s7_l := B7.lt
            have s7_f := B7.fr
            have s8_0 := B8.at 0 _ rfl
            have s8_1 := B8.at 1 _ rfl
            have s8_2 := B8.at 2 _ rfl
            have s8_3 := B8.at 3 _ rfl
            have s8_4 := B8.at 4 _ rfl
            have s8_5 := B8.at 5 _ rfl
            have s8_l := B8.lt
            have s8_f := B8.fr
            refine wpAnyB_ready (rs := [9]) (by kernel_rfl) (by simp) ?_
            refine AllReadyB.cons rfl (fun K hK => ?_) AllReadyB.nil
            go_simp
            refine hK.out _ _ (fun h => absurd h (by decide)) ?_
            clear hK K
            (try simp only [Act.put, List.setIfInBounds_toArray, List.set_cons_zero, List.set_cons_succ])
            refine wpAnyB_ready (rs := [10]) (by kernel_rfl) (by simp) ?_
            refine AllReadyB.cons rfl (fun K hK => ?_) AllReadyB.nil
            go_simp
            refine hK.out _ _ (fun h => absurd h (by decide)) ?_
            clear hK K
            (try simp only [Act.put, List.setIfInBounds_toArray, List.set_cons_zero, List.set_cons_succ])
            refine wpAnyB_ready (rs := [11]) (by kernel_rfl) (by simp) ?_
            refine AllReadyB.cons rfl (fun K hK => ?_) AllReadyB.nil
            go_simp
            refine hK.out _ _ (fun h => absurd h (by decide)) ?_
            clear hK K
            (try simp only [Act.put, List.setIfInBounds_toArray, List.set_cons_zero, List.set_cons_succ])
            refine wpAnyB_done (by kernel_rfl) ?_ _
            go_wp2_with fail
            go_meet
            exact ⟨rfl, b7, a, k, rfl, far6 (set8 B7 (.int .i64 100) (.bool false) (.bool false) (.bool false) (.bool false) (.bool false) (.bool false) (.slice a M.es.length k)) ne87 (.int .i64 (M.s 0)) (.int .i64 (M.d 0)) (.int .i64 (M.s 1)) (.int .i64 (M.d 1)) (.int .i64 (M.s 2)) (.int .i64 (M.d 2)), row6 (row8 hr.out QN7.out (.int .i64 100) (.bool false) (.bool false) (.bool false) (.bool false) (.bool false) (.bool false) (.slice a M.es.length k)) QN8.out (.int .i64 (M.s 0)) (.int .i64 (M.d 0)) (.int .i64 (M.s 1)) (.int .i64 (M.d 1)) (.int .i64 (M.s 2)) (.int .i64 (M.d 2)), by rw [← HW3.out]; exact ext6 (ext8 hS gb7 (.int .i64 100) (.bool false) (.bool false) (.bool false) (.bool false) (.bool false) (.bool false) (.slice a M.es.length k)) gb8 (.int .i64 (M.s 0)) (.int .i64 (M.d 0)) (.int .i64 (M.s 1)) (.int .i64 (M.d 1)) (.int .i64 (M.s 2)) (.int .i64 (M.d 2))⟩
          exact AllReadyB.nil
        refine AllReadyB.cons rfl (fun K hK => ?_) ?_
        · skip
          go_simp
          refine hK.out _ _ (fun _ => hS.alloc _) ?_
          clear hK K
          (try simp only [Act.put, List.setIfInBounds_toArray, List.set_cons_zero, List.set_cons_succ])
          obtain ⟨v5, hV⟩ : ∃ V, V = v2.alloc (.cells #[.int .i64 0, .int .i64 0, .int .i64 0, .int .i64 0, .int .i64 0, .int .i64 0] 29) := ⟨_, rfl⟩
          rw [← hV]
          have hxv5 : Ext v2 v5 := by rw [hV]; exact (Ext.refl _).alloc _
          have B8 : Blk v5 v2.heap.size [.int .i64 0, .int .i64 0, .int .i64 0, .int .i64 0, .int .i64 0, .int .i64 0] := by rw [hV]; exact Blk.new _ _ _
          clear hV
          obtain ⟨b8, hb⟩ : ∃ b, b = v2.heap.size := ⟨_, rfl⟩
          have QN8 : Hid (M.es ≠ [] → ∀ x, ab a = some x → x ≠ b8) := Lib.hid (by rw [hb]; exact RowE.new hr.out)
          rw [← hb] at B8 ⊢
          have gb8 : W3.heap.size ≤ b8 := by have := hS.size; omega
          have hr := Lib.hid (hr.out.ext hxv5)
          have hS := hS.trans hxv5
          clear hb
          refine wpAnyB_ready (rs := [7]) (by kernel_rfl) (by simp) ?_
          refine AllReadyB.cons rfl (fun K hK => ?_) ?_
          · skip
            go_simp
            refine hK.out _ _ (fun _ => hS.alloc _) ?_
            clear hK K
            (try simp only [Act.put, List.setIfInBounds_toArray, List.set_cons_zero, List.set_cons_succ])
            obtain ⟨v6, hV⟩ : ∃ V, V = v5.alloc (.cells #[.int .i64 0, .bool false, .bool false, .bool false, .bool false, .bool false, .bool false, .slice none 0 0] 52) := ⟨_, rfl⟩
            rw [← hV]
            have hxv6 : Ext v5 v6 := by rw [hV]; exact (Ext.refl _).alloc _
            have B7 : Blk v6 v5.heap.size [.int .i64 0, .bool false, .bool false, .bool false, .bool false, .bool false, .bool false, .slice none 0 0] := by rw [hV]; exact Blk.new _ _ _
            clear hV
            obtain ⟨b7, hb⟩ : ∃ b, b = v5.heap.size := ⟨_, rfl⟩
            have QN7 : Hid (M.es ≠ [] → ∀ x, ab a = some x → x ≠ b7) := Lib.hid (by rw [hb]; exact RowE.new hr.out)
            rw [← hb] at B7 ⊢
            have gb7 : W3.heap.size ≤ b7 := by have := hS.size; omega
            have ne87 : b8 ≠ b7 := by have := B8.lt; omega
            have ne78 : b7 ≠ b8 := fun h => ne87 h.symm
            have B8 := B8.ext hxv6
            have hr := Lib.hid (hr.out.ext hxv6)
            have hS := hS.trans hxv6
            clear hb
            have s8_0 := B8.at 0 _ rfl
            have s8_1 := B8.at 1 _ rfl
            have s8_2 := B8.at 2 _ rfl
            have s8_3 := B8.at 3 _ rfl
            have s8_4 := B8.at 4 _ rfl
            have s8_5 := B8.at 5 _ rfl
            have s8_l := B8.lt
            have s8_f := B8.fr
            have s7_0 := B7.at 0 _ rfl
            have s7_1 := B7.at 1 _ rfl
            have s7_2 := B7.at 2 _ rfl
            have s7_3 := B7.at 3 _ rfl
            have s7_4 := B7.at 4 _ rfl
            have s7_5 := B7.at 5 _ rfl
            have s7_6 := B7.at 6 _ rfl
            have s7_7 := B7.at 7 _ rfl
            have s7_l := B7.lt
            have s7_f := B7.fr
            refine wpAnyB_ready (rs := [9]) (by kernel_rfl) (by simp) ?_
            refine AllReadyB.cons rfl (fun K hK => ?_) AllReadyB.nil
            go_simp
            refine hK.out _ _ (fun h => absurd h (by decide)) ?_
            clear hK K
            (try simp only [Act.put, List.setIfInBounds_toArray, List.set_cons_zero, List.set_cons_succ])
            refine wpAnyB_ready (rs := [10]) (by kernel_rfl) (by simp) ?_
            refine AllReadyB.cons rfl (fun K hK => ?_) AllReadyB.nil
            go_simp
            refine hK.out _ _ (fun h => absurd h (by decide)) ?_
            clear hK K
            (try simp only [Act.put, List.setIfInBounds_toArray, List.set_cons_zero, List.set_cons_succ])
            refine wpAnyB_ready (rs := [11]) (by kernel_rfl) (by simp) ?_
            refine AllReadyB.cons rfl (fun K hK => ?_) AllReadyB.nil
            go_simp
            refine hK.out _ _ (fun h => absurd h (by decide)) ?_
            clear hK K
            (try simp only [Act.put, List.setIfInBounds_toArray, List.set_cons_zero, List.set_cons_succ])
            refine wpAnyB_done (by kernel_rfl) ?_ _
            go_wp2_with fail
            go_meet
            exact ⟨rfl, b7, a, k, rfl, far6 (set8 B7 (.int .i64 100) (.bool false) (.bool false) (.bool false) (.bool false) (.bool false) (.bool false) (.slice a M.es.length k)) ne87 (.int .i64 (M.s 0)) (.int .i64 (M.d 0)) (.int .i64 (M.s 1)) (.int .i64 (M.d 1)) (.int .i64 (M.s 2)) (.int .i64 (M.d 2)), row6 (row8 hr.out QN7.out (.int .i64 100) (.bool false) (.bool false) (.bool false) (.bool false) (.bool false) (.bool false) (.slice a M.es.length k)) QN8.out (.int .i64 (M.s 0)) (.int .i64 (M.d 0)) (.int .i64 (M.s 1)) (.int .i64 (M.d 1)) (.int .i64 (M.s 2)) (.int .i64 (M.d 2)), by rw [← HW3.out]; exact ext6 (ext8 hS gb7 (.int .i64 100) (.bool false) (.bool false) (.bool false) (.bool false) (.bool false) (.bool false) (.slice a M.es.length k)) gb8 (.int .i64 (M.s 0)) (.int .i64 (M.d 0)) (.int .i64 (M.s 1)) (.int .i64 (M.d 1)) (.int .i64 (M.s 2)) (.int .i64 (M.d 2))⟩
          exact AllReadyB.nil
        exact AllReadyB.nil
      refine AllReadyB.cons rfl (fun K hK => ?_) ?_
      · skip
        go_simp
        refine hK.out _ _ (fun _ => hS.alloc _) ?_
        clear hK K
        (try simp only [Act.put, List.setIfInBounds_toArray, List.set_cons_zero, List.set_cons_succ])
        obtain ⟨v7, hV⟩ : ∃ V, V = v1.alloc (.cells #[.int .i64 0, .bool false, .bool false, .bool false, .bool false, .bool false, .bool false, .slice none 0 0] 52) := ⟨_, rfl⟩
        rw [← hV]
        have hxv7 : Ext v1 v7 := by rw [hV]; exact (Ext.refl _).alloc _
        have B7 : Blk v7 v1.heap.size [.int .i64 0, .bool false, .bool false, .bool false, .bool false, .bool false, .bool false, .slice none 0 0] := by rw [hV]; exact Blk.new _ _ _
        clear hV
        obtain ⟨b7, hb⟩ : ∃ b, b = v1.heap.size := ⟨_, rfl⟩
        rw [← hb] at B7 ⊢
        have gb7 : W3.heap.size ≤ b7 := by have := hS.size; omega
        have hS := hS.trans hxv7
        clear hb
        refine wpAnyB_ready (rs := [2, 8]) (by kernel_rfl) (by simp) ?_
        refine AllReadyB.cons rfl (fun K hK => ?_) ?_
        · skip
          go_simp
          refine (HR.out _).mono ?_
          rintro e v8 ⟨a, k, rfl, hrv8, hnv8, hxv8⟩
          (try go_wp2_with fail)
          have hS := hS.trans hxv8
          have QN7 : Hid (M.es ≠ [] → ∀ x, ab a = some x → x ≠ b7) := Lib.hid (fun _ x hx e => by have := hnv8 x hx; have := B7.lt; omega)
          have B7 := B7.ext hxv8
          have hr := Lib.hid hrv8
          clear hrv8 hnv8
          refine hK.out _ _ (fun _ => hS) ?_
          clear hK K
          (try simp only [Act.put, List.setIfInBounds_toArray, List.set_cons_zero, List.set_cons_succ])
          refine wpAnyB_take0 (i := 3) (v := ?_) rfl (by kernel_rfl) (by kernel_rfl) (by kernel_rfl) (by kernel_rfl) (fun _ _ _ h => h) (Or.inl ⟨by rfl, ?_⟩) (fun _ => hS) ?_
          rotate_left
          · (intro V; go_simp; (try with_reducible rfl))
          (try simp only [Act.put, List.setIfInBounds_toArray, List.set_cons_zero, List.set_cons_succ])
          refine wpAnyB_take0 (i := 4) (v := ?_) rfl (by kernel_rfl) (by kernel_rfl) (by kernel_rfl) (by kernel_rfl) (fun _ _ _ h => h) (Or.inl ⟨by rfl, ?_⟩) (fun _ => hS) ?_
          rotate_left
          · (intro V; go_simp; (try with_reducible rfl))
          (try simp only [Act.put, List.setIfInBounds_toArray, List.set_cons_zero, List.set_cons_succ])
          refine wpAnyB_take0 (i := 5) (v := ?_) rfl (by kernel_rfl) (by kernel_rfl) (by kernel_rfl) (by kernel_rfl) (fun _ _ _ h => h) (Or.inl ⟨by rfl, ?_⟩) (fun _ => hS) ?_
          rotate_left
          · (intro V; go_simp; (try with_reducible rfl))
          (try simp only [Act.put, List.setIfInBounds_toArray, List.set_cons_zero, List.set_cons_succ])
          refine wpAnyB_take0 (i := 6) (v := ?_) rfl (by kernel_rfl) (by kernel_rfl) (by kernel_rfl) (by kernel_rfl) (fun _ _ _ h => h) (Or.inl ⟨by rfl, ?_⟩) (fun _ => hS) ?_
          rotate_left
          · (intro V; go_simp; (try with_reducible rfl))
          (try simp only [Act.put, List.setIfInBounds_toArray, List.set_cons_zero, List.set_cons_succ])
          refine wpAnyB_ready (rs := [8]) (by kernel_rfl) (by simp) ?_
          refine AllReadyB.cons rfl (fun K hK => ?_) ?_
          · skip
            go_simp
            refine hK.out _ _ (fun _ => hS.alloc _) ?_
            clear hK K
            (try simp only [Act.put, List.setIfInBounds_toArray, List.set_cons_zero, List.set_cons_succ])
            obtain ⟨v9, hV⟩ : ∃ V, V = v8.alloc (.cells #[.int .i64 0, .int .i64 0, .int .i64 0, .int .i64 0, .int .i64 0, .int .i64 0] 29) := ⟨_, rfl⟩
            rw [← hV]
            have hxv9 : Ext v8 v9 := by rw [hV]; exact (Ext.refl _).alloc _
            have B8 : Blk v9 v8.heap.size [.int .i64 0, .int .i64 0, .int .i64 0, .int .i64 0, .int .i64 0, .int .i64 0] := by rw [hV]; exact Blk.new _ _ _
            clear hV
            obtain ⟨b8, hb⟩ : ∃ b, b = v8.heap.size := ⟨_, rfl⟩
            have QN8 : Hid (M.es ≠ [] → ∀ x, ab a = some x → x ≠ b8) := Lib.hid (by rw [hb]; exact RowE.new hr.out)
            rw [← hb] at B8 ⊢
            have gb8 : W3.heap.size ≤ b8 := by have := hS.size; omega
            have ne78 : b7 ≠ b8 := by have := B7.lt; omega
            have ne87 : b8 ≠ b7 := fun h => ne78 h.symm
            have B7 := B7.ext hxv9
            have hr := Lib.hid (hr.out.ext hxv9)
            have hS := hS.trans hxv9
            clear hb
            have s7_0 := B7.at 0 _ rfl
            have s7_1 := B7.at 1 _ rfl
            have s7_2 := B7.at 2 _ rfl
            have s7_3 := B7.at 3 _ rfl
            have s7_4 := B7.at 4 _ rfl
            have s7_5 := B7.at 5 _ rfl
            have s7_6 := B7.at 6 _ rfl
            have s7_7 := B7.at 7 _ rfl
            have s7_l := B7.lt
            have s7_f := B7.fr
            have s8_0 := B8.at 0 _ rfl
            have s8_1 := B8.at 1 _ rfl
            have s8_2 := B8.at 2 _ rfl
            have s8_3 := B8.at 3 _ rfl
            have s8_4 := B8.at 4 _ rfl
            have s8_5 := B8.at 5 _ rfl
            have s8_l := B8.lt
            have s8_f := B8.fr
            refine wpAnyB_ready (rs := [9]) (by kernel_rfl) (by simp) ?_
            refine AllReadyB.cons rfl (fun K hK => ?_) AllReadyB.nil
            go_simp
            refine hK.out _ _ (fun h => absurd h (by decide)) ?_
            clear hK K
            (try simp only [Act.put, List.setIfInBounds_toArray, List.set_cons_zero, List.set_cons_succ])
            refine wpAnyB_ready (rs := [10]) (by kernel_rfl) (by simp) ?_
            refine AllReadyB.cons rfl (fun K hK => ?_) AllReadyB.nil
            go_simp
            refine hK.out _ _ (fun h => absurd h (by decide)) ?_
            clear hK K
            (try simp only [Act.put, List.setIfInBounds_toArray, List.set_cons_zero, List.set_cons_succ])
            refine wpAnyB_ready (rs := [11]) (by kernel_rfl) (by simp) ?_
            refine AllReadyB.cons rfl (fun K hK => ?_) AllReadyB.nil
            go_simp
            refine hK.out _ _ (fun h => absurd h (by decide)) ?_
            clear hK K
            (try simp only [Act.put, List.setIfInBounds_toArray, List.set_cons_zero, List.set_cons_succ])
            refine wpAnyB_done (by kernel_rfl) ?_ _
            go_wp2_with fail
            go_meet
            exact ⟨rfl, b7, a, k, rfl, far6 (set8 B7 (.int .i64 100) (.bool false) (.bool false) (.bool false) (.bool false) (.bool false) (.bool false) (.slice a M.es.length k)) ne87 (.int .i64 (M.s 0)) (.int .i64 (M.d 0)) (.int .i64 (M.s 1)) (.int .i64 (M.d 1)) (.int .i64 (M.s 2)) (.int .i64 (M.d 2)), row6 (row8 hr.out QN7.out (.int .i64 100) (.bool false) (.bool false) (.bool false) (.bool false) (.bool false) (.bool false) (.slice a M.es.length k)) QN8.out (.int .i64 (M.s 0)) (.int .i64 (M.d 0)) (.int .i64 (M.s 1)) (.int .i64 (M.d 1)) (.int .i64 (M.s 2)) (.int .i64 (M.d 2)), by rw [← HW3.out]; exact ext6 (ext8 hS gb7 (.int .i64 100) (.bool false) (.bool false) (.bool false) (.bool false) (.bool false) (.bool false) (.slice a M.es.length k)) gb8 (.int .i64 (M.s 0)) (.int .i64 (M.d 0)) (.int .i64 (M.s 1)) (.int .i64 (M.d 1)) (.int .i64 (M.s 2)) (.int .i64 (M.d 2))⟩
          exact AllReadyB.nil
        refine AllReadyB.cons rfl (fun K hK => ?_) ?_
        · skip
          go_simp
          refine hK.out _ _ (fun _ => hS.alloc _) ?_
          clear hK K
          (try simp only [Act.put, List.setIfInBounds_toArray, List.set_cons_zero, List.set_cons_succ])
          obtain ⟨v10, hV⟩ : ∃ V, V = v7.alloc (.cells #[.int .i64 0, .int .i64 0, .int .i64 0, .int .i64 0, .int .i64 0, .int .i64 0] 29) := ⟨_, rfl⟩
          rw [← hV]
          have hxv10 : Ext v7 v10 := by rw [hV]; exact (Ext.refl _).alloc _
          have B8 : Blk v10 v7.heap.size [.int .i64 0, .int .i64 0, .int .i64 0, .int .i64 0, .int .i64 0, .int .i64 0] := by rw [hV]; exact Blk.new _ _ _
          clear hV
          obtain ⟨b8, hb⟩ : ∃ b, b = v7.heap.size := ⟨_, rfl⟩
          rw [← hb] at B8 ⊢
          have gb8 : W3.heap.size ≤ b8 := by have := hS.size; omega
          have ne78 : b7 ≠ b8 := by have := B7.lt; omega
          have ne87 : b8 ≠ b7 := fun h => ne78 h.symm
          have B7 := B7.ext hxv10
          have hS := hS.trans hxv10
          clear hb
          refine wpAnyB_ready (rs := [2]) (by kernel_rfl) (by simp) ?_
          refine AllReadyB.cons rfl (fun K hK => ?_) ?_
          · skip
            go_simp
            refine (HR.out _).mono ?_
            rintro e v11 ⟨a, k, rfl, hrv11, hnv11, hxv11⟩
            (try go_wp2_with fail)
            have hS := hS.trans hxv11
            have QN7 : Hid (M.es ≠ [] → ∀ x, ab a = some x → x ≠ b7) := Lib.hid (fun _ x hx e => by have := hnv11 x hx; have := B7.lt; omega)
            have QN8 : Hid (M.es ≠ [] → ∀ x, ab a = some x → x ≠ b8) := Lib.hid (fun _ x hx e => by have := hnv11 x hx; have := B8.lt; omega)
            have B7 := B7.ext hxv11
            have B8 := B8.ext hxv11
            have hr := Lib.hid hrv11
            clear hrv11 hnv11
            refine hK.out _ _ (fun _ => hS) ?_
            clear hK K
            (try simp only [Act.put, List.setIfInBounds_toArray, List.set_cons_zero, List.set_cons_succ])
            refine wpAnyB_take0 (i := 3) (v := ?_) rfl (by kernel_rfl) (by kernel_rfl) (by kernel_rfl) (by kernel_rfl) (fun _ _ _ h => h) (Or.inl ⟨by rfl, ?_⟩) (fun _ => hS) ?_
            rotate_left
            · (intro V; go_simp; (try with_reducible rfl))
            (try simp only [Act.put, List.setIfInBounds_toArray, List.set_cons_zero, List.set_cons_succ])
            refine wpAnyB_take0 (i := 4) (v := ?_) rfl (by kernel_rfl) (by kernel_rfl) (by kernel_rfl) (by kernel_rfl) (fun _ _ _ h => h) (Or.inl ⟨by rfl, ?_⟩) (fun _ => hS) ?_
            rotate_left
            · (intro V; go_simp; (try with_reducible rfl))
            (try simp only [Act.put, List.setIfInBounds_toArray, List.set_cons_zero, List.set_cons_succ])
            refine wpAnyB_take0 (i := 5) (v := ?_) rfl (by kernel_rfl) (by kernel_rfl) (by kernel_rfl) (by kernel_rfl) (fun _ _ _ h => h) (Or.inl ⟨by rfl, ?_⟩) (fun _ => hS) ?_
            rotate_left
            · (intro V; go_simp; (try with_reducible rfl))
            (try simp only [Act.put, List.setIfInBounds_toArray, List.set_cons_zero, List.set_cons_succ])
            refine wpAnyB_take0 (i := 6) (v := ?_) rfl (by kernel_rfl) (by kernel_rfl) (by kernel_rfl) (by kernel_rfl) (fun _ _ _ h => h) (Or.inl ⟨by rfl, ?_⟩) (fun _ => hS) ?_
            rotate_left
            · (intro V; go_simp; (try with_reducible rfl))
            (try simp only [Act.put, List.setIfInBounds_toArray, List.set_cons_zero, List.set_cons_succ])
            have s7_0 := B7.at 0 _ rfl
            have s7_1 := B7.at 1 _ rfl
            have s7_2 := B7.at 2 _ rfl
            have s7_3 := B7.at 3 _ rfl
            have s7_4 := B7.at 4 _ rfl
            have s7_5 := B7.at 5 _ rfl
            have s7_6 := B7.at 6 _ rfl
            have s7_7 := B7.at 7 _ rfl
            have s7_l := B7.lt
            have s7_f := B7.fr
            have s8_0 := B8.at 0 _ rfl
            have s8_1 := B8.at 1 _ rfl
            have s8_2 := B8.at 2 _ rfl
            have s8_3 := B8.at 3 _ rfl
            have s8_4 := B8.at 4 _ rfl
            have s8_5 := B8.at 5 _ rfl
            have s8_l := B8.lt
            have s8_f := B8.fr
            refine wpAnyB_ready (rs := [9]) (by kernel_rfl) (by simp) ?_
            refine AllReadyB.cons rfl (fun K hK => ?_) AllReadyB.nil
            go_simp
            refine hK.out _ _ (fun h => absurd h (by decide)) ?_
            clear hK K
            (try simp only [Act.put, List.setIfInBounds_toArray, List.set_cons_zero, List.set_cons_succ])
            refine wpAnyB_ready (rs := [10]) (by kernel_rfl) (by simp) ?_
            refine AllReadyB.cons rfl (fun K hK => ?_) AllReadyB.nil
            go_simp
            refine hK.out _ _ (fun h => absurd h (by decide)) ?_
            clear hK K
            (try simp only [Act.put, List.setIfInBounds_toArray, List.set_cons_zero, List.set_cons_succ])
            refine wpAnyB_ready (rs := [11]) (by kernel_rfl) (by simp) ?_
            refine AllReadyB.cons rfl (fun K hK => ?_) AllReadyB.nil
            go_simp
            refine hK.out _ _ (fun h => absurd h (by decide)) ?_
            clear hK K
            (try simp only [Act.put, List.setIfInBounds_toArray, List.set_cons_zero, List.set_cons_succ])
            refine wpAnyB_done (by kernel_rfl) ?_ _
            go_wp2_with fail
            go_meet
            exact ⟨rfl, b7, a, k, rfl, far6 (set8 B7 (.int .i64 100) (.bool false) (.bool false) (.bool false) (.bool false) (.bool false) (.bool false) (.slice a M.es.length k)) ne87 (.int .i64 (M.s 0)) (.int .i64 (M.d 0)) (.int .i64 (M.s 1)) (.int .i64 (M.d 1)) (.int .i64 (M.s 2)) (.int .i64 (M.d 2)), row6 (row8 hr.out QN7.out (.int .i64 100) (.bool false) (.bool false) (.bool false) (.bool false) (.bool false) (.bool false) (.slice a M.es.length k)) QN8.out (.int .i64 (M.s 0)) (.int .i64 (M.d 0)) (.int .i64 (M.s 1)) (.int .i64 (M.d 1)) (.int .i64 (M.s 2)) (.int .i64 (M.d 2)), by rw [← HW3.out]; exact ext6 (ext8 hS gb7 (.int .i64 100) (.bool false) (.bool false) (.bool false) (.bool false) (.bool false) (.bool false) (.slice a M.es.length k)) gb8 (.int .i64 (M.s 0)) (.int .i64 (M.d 0)) (.int .i64 (M.s 1)) (.int .i64 (M.d 1)) (.int .i64 (M.s 2)) (.int .i64 (M.d 2))⟩
          exact AllReadyB.nil
        exact AllReadyB.nil
      refine AllReadyB.cons rfl (fun K hK => ?_) ?_
      · skip
        go_simp
        refine hK.out _ _ (fun _ => hS.alloc _) ?_
        clear hK K
        (try simp only [Act.put, List.setIfInBounds_toArray, List.set_cons_zero, List.set_cons_succ])
        obtain ⟨v12, hV⟩ : ∃ V, V = v1.alloc (.cells #[.int .i64 0, .int .i64 0, .int .i64 0, .int .i64 0, .int .i64 0, .int .i64 0] 29) := ⟨_, rfl⟩
        rw [← hV]
        have hxv12 : Ext v1 v12 := by rw [hV]; exact (Ext.refl _).alloc _
        have B8 : Blk v12 v1.heap.size [.int .i64 0, .int .i64 0, .int .i64 0, .int .i64 0, .int .i64 0, .int .i64 0] := by rw [hV]; exact Blk.new _ _ _
        clear hV
        obtain ⟨b8, hb⟩ : ∃ b, b = v1.heap.size := ⟨_, rfl⟩
        rw [← hb] at B8 ⊢
        have gb8 : W3.heap.size ≤ b8 := by have := hS.size; omega
        have hS := hS.trans hxv12
        clear hb
        refine wpAnyB_ready (rs := [2, 7]) (by kernel_rfl) (by simp) ?_
        refine AllReadyB.cons rfl (fun K hK => ?_) ?_
        · skip
          go_simp
          refine (HR.out _).mono ?_
          rintro e v13 ⟨a, k, rfl, hrv13, hnv13, hxv13⟩
          (try go_wp2_with fail)
          have hS := hS.trans hxv13
          have QN8 : Hid (M.es ≠ [] → ∀ x, ab a = some x → x ≠ b8) := Lib.hid (fun _ x hx e => by have := hnv13 x hx; have := B8.lt; omega)
          have B8 := B8.ext hxv13
          have hr := Lib.hid hrv13
          clear hrv13 hnv13
          refine hK.out _ _ (fun _ => hS) ?_
          clear hK K
          (try simp only [Act.put, List.setIfInBounds_toArray, List.set_cons_zero, List.set_cons_succ])
          refine wpAnyB_take0 (i := 3) (v := ?_) rfl (by kernel_rfl) (by kernel_rfl) (by kernel_rfl) (by kernel_rfl) (fun _ _ _ h => h) (Or.inl ⟨by rfl, ?_⟩) (fun _ => hS) ?_
          rotate_left
          · (intro V; go_simp; (try with_reducible rfl))
          (try simp only [Act.put, List.setIfInBounds_toArray, List.set_cons_zero, List.set_cons_succ])
          refine wpAnyB_take0 (i := 4) (v := ?_) rfl (by kernel_rfl) (by kernel_rfl) (by kernel_rfl) (by kernel_rfl) (fun _ _ _ h => h) (Or.inl ⟨by rfl, ?_⟩) (fun _ => hS) ?_
          rotate_left
          · (intro V; go_simp; (try with_reducible rfl))
          (try simp only [Act.put, List.setIfInBounds_toArray, List.set_cons_zero, List.set_cons_succ])
          refine wpAnyB_take0 (i := 5) (v := ?_) rfl (by kernel_rfl) (by kernel_rfl) (by kernel_rfl) (by kernel_rfl) (fun _ _ _ h => h) (Or.inl ⟨by rfl, ?_⟩) (fun _ => hS) ?_
          rotate_left
          · (intro V; go_simp; (try with_reducible rfl))
          (try simp only [Act.put, List.setIfInBounds_toArray, List.set_cons_zero, List.set_cons_succ])
          refine wpAnyB_take0 (i := 6) (v := ?_) rfl (by kernel_rfl) (by kernel_rfl) (by kernel_rfl) (by kernel_rfl) (fun _ _ _ h => h) (Or.inl ⟨by rfl, ?_⟩) (fun _ => hS) ?_
          rotate_left
          · (intro V; go_simp; (try with_reducible rfl))
          (try simp only [Act.put, List.setIfInBounds_toArray, List.set_cons_zero, List.set_cons_succ])
          refine wpAnyB_ready (rs := [7]) (by kernel_rfl) (by simp) ?_
          refine AllReadyB.cons rfl (fun K hK => ?_) ?_
          · skip
            go_simp
            refine hK.out _ _ (fun _ => hS.alloc _) ?_
            clear hK K
            (try simp only [Act.put, List.setIfInBounds_toArray, List.set_cons_zero, List.set_cons_succ])
            obtain ⟨v14, hV⟩ : ∃ V, V = v13.alloc (.cells #[.int .i64 0, .bool false, .bool false, .bool false, .bool false, .bool false, .bool false, .slice none 0 0] 52) := ⟨_, rfl⟩
            rw [← hV]
            have hxv14 : Ext v13 v14 := by rw [hV]; exact (Ext.refl _).alloc _
            have B7 : Blk v14 v13.heap.size [.int .i64 0, .bool false, .bool false, .bool false, .bool false, .bool false, .bool false, .slice none 0 0] := by rw [hV]; exact Blk.new _ _ _
            clear hV
            obtain ⟨b7, hb⟩ : ∃ b, b = v13.heap.size := ⟨_, rfl⟩
            have QN7 : Hid (M.es ≠ [] → ∀ x, ab a = some x → x ≠ b7) := Lib.hid (by rw [hb]; exact RowE.new hr.out)
            rw [← hb] at B7 ⊢
            have gb7 : W3.heap.size ≤ b7 := by have := hS.size; omega
            have ne87 : b8 ≠ b7 := by have := B8.lt; omega
            have ne78 : b7 ≠ b8 := fun h => ne87 h.symm
            have B8 := B8.ext hxv14
            have hr := Lib.hid (hr.out.ext hxv14)
            have hS := hS.trans hxv14
            clear hb
            have s8_0 := B8.at 0 _ rfl
            have s8_1 := B8.at 1 _ rfl
            have s8_2 := B8.at 2 _ rfl
            have s8_3 := B8.at 3 _ rfl
            have s8_4 := B8.at 4 _ rfl
            have s8_5 := B8.at 5 _ rfl
            have s8_l := B8.lt
            have s8_f := B8.fr
            have s7_0 := B7.at 0 _ rfl
            have s7_1 := B7.at 1 _ rfl
            have s7_2 := B7.at 2 _ rfl
            have s7_3 := B7.at 3 _ rfl
            have s7_4 := B7.at 4 _ rfl
            have s7_5 := B7.at 5 _ rfl
            have s7_6 := B7.at 6 _ rfl
            have s7_7 := B7.at 7 _ rfl
            have s7_l := B7.lt
            have s7_f := B7.fr
            refine wpAnyB_ready (rs := [9]) (by kernel_rfl) (by simp) ?_
            refine AllReadyB.cons rfl (fun K hK => ?_) AllReadyB.nil
            go_simp
            refine hK.out _ _ (fun h => absurd h (by decide)) ?_
            clear hK K
            (try simp only [Act.put, List.setIfInBounds_toArray, List.set_cons_zero, List.set_cons_succ])
            refine wpAnyB_ready (rs := [10]) (by kernel_rfl) (by simp) ?_
            refine AllReadyB.cons rfl (fun K hK => ?_) AllReadyB.nil
            go_simp
            refine hK.out _ _ (fun h => absurd h (by decide)) ?_
            clear hK K
            (try simp only [Act.put, List.setIfInBounds_toArray, List.set_cons_zero, List.set_cons_succ])
            refine wpAnyB_ready (rs := [11]) (by kernel_rfl) (by simp) ?_
            refine AllReadyB.cons rfl (fun K hK => ?_) AllReadyB.nil
            go_simp
            refine hK.out _ _ (fun h => absurd h (by decide)) ?_
            clear hK K
            (try simp only [Act.put, List.setIfInBounds_toArray, List.set_cons_zero, List.set_cons_succ])
            refine wpAnyB_done (by kernel_rfl) ?_ _
            go_wp2_with fail
            go_meet
            exact ⟨rfl, b7, a, k, rfl, far6 (set8 B7 (.int .i64 100) (.bool false) (.bool false) (.bool false) (.bool false) (.bool false) (.bool false) (.slice a M.es.length k)) ne87 (.int .i64 (M.s 0)) (.int .i64 (M.d 0)) (.int .i64 (M.s 1)) (.int .i64 (M.d 1)) (.int .i64 (M.s 2)) (.int .i64 (M.d 2)), row6 (row8 hr.out QN7.out (.int .i64 100) (.bool false) (.bool false) (.bool false) (.bool false) (.bool false) (.bool false) (.slice a M.es.length k)) QN8.out (.int .i64 (M.s 0)) (.int .i64 (M.d 0)) (.int .i64 (M.s 1)) (.int .i64 (M.d 1)) (.int .i64 (M.s 2)) (.int .i64 (M.d 2)), by rw [← HW3.out]; exact ext6 (ext8 hS gb7 (.int .i64 100) (.bool false) (.bool false) (.bool false) (.bool false) (.bool false) (.bool false) (.slice a M.es.length k)) gb8 (.int .i64 (M.s 0)) (.int .i64 (M.d 0)) (.int .i64 (M.s 1)) (.int .i64 (M.d 1)) (.int .i64 (M.s 2)) (.int .i64 (M.d 2))⟩
          exact AllReadyB.nil
        refine AllReadyB.cons rfl (fun K hK => ?_) ?_
        · skip
          go_simp
          refine hK.out _ _ (fun _ => hS.alloc _) ?_
          clear hK K
          (try simp only [Act.put, List.setIfInBounds_toArray, List.set_cons_zero, List.set_cons_succ])
          obtain ⟨v15, hV⟩ : ∃ V, V = v12.alloc (.cells #[.int .i64 0, .bool false, .bool false, .bool false, .bool false, .bool false, .bool false, .slice none 0 0] 52) := ⟨_, rfl⟩
          rw [← hV]
          have hxv15 : Ext v12 v15 := by rw [hV]; exact (Ext.refl _).alloc _
          have B7 : Blk v15 v12.heap.size [.int .i64 0, .bool false, .bool false, .bool false, .bool false, .bool false, .bool false, .slice none 0 0] := by rw [hV]; exact Blk.new _ _ _
          clear hV
          obtain ⟨b7, hb⟩ : ∃ b, b = v12.heap.size := ⟨_, rfl⟩
          rw [← hb] at B7 ⊢
          have gb7 : W3.heap.size ≤ b7 := by have := hS.size; omega
          have ne87 : b8 ≠ b7 := by have := B8.lt; omega
          have ne78 : b7 ≠ b8 := fun h => ne87 h.symm
          have B8 := B8.ext hxv15
          have hS := hS.trans hxv15
          clear hb
          refine wpAnyB_ready (rs := [2]) (by kernel_rfl) (by simp) ?_
          refine AllReadyB.cons rfl (fun K hK => ?_) ?_
          · skip
            go_simp
            refine (HR.out _).mono ?_
            rintro e v16 ⟨a, k, rfl, hrv16, hnv16, hxv16⟩
            (try go_wp2_with fail)
            have hS := hS.trans hxv16
            have QN8 : Hid (M.es ≠ [] → ∀ x, ab a = some x → x ≠ b8) := Lib.hid (fun _ x hx e => by have := hnv16 x hx; have := B8.lt; omega)
            have QN7 : Hid (M.es ≠ [] → ∀ x, ab a = some x → x ≠ b7) := Lib.hid (fun _ x hx e => by have := hnv16 x hx; have := B7.lt; omega)
            have B8 := B8.ext hxv16
            have B7 := B7.ext hxv16
            have hr := Lib.hid hrv16
            clear hrv16 hnv16
            refine hK.out _ _ (fun _ => hS) ?_
            clear hK K
            (try simp only [Act.put, List.setIfInBounds_toArray, List.set_cons_zero, List.set_cons_succ])
            refine wpAnyB_take0 (i := 3) (v := ?_) rfl (by kernel_rfl) (by kernel_rfl) (by kernel_rfl) (by kernel_rfl) (fun _ _ _ h => h) (Or.inl ⟨by rfl, ?_⟩) (fun _ => hS) ?_
            rotate_left
            · (intro V; go_simp; (try with_reducible rfl))
            (try simp only [Act.put, List.setIfInBounds_toArray, List.set_cons_zero, List.set_cons_succ])
            refine wpAnyB_take0 (i := 4) (v := ?_) rfl (by kernel_rfl) (by kernel_rfl) (by kernel_rfl) (by kernel_rfl) (fun _ _ _ h => h) (Or.inl ⟨by rfl, ?_⟩) (fun _ => hS) ?_
            rotate_left
            · (intro V; go_simp; (try with_reducible rfl))
            (try simp only [Act.put, List.setIfInBounds_toArray, List.set_cons_zero, List.set_cons_succ])
            refine wpAnyB_take0 (i := 5) (v := ?_) rfl (by kernel_rfl) (by kernel_rfl) (by kernel_rfl) (by kernel_rfl) (fun _ _ _ h => h) (Or.inl ⟨by rfl, ?_⟩) (fun _ => hS) ?_
            rotate_left
            · (intro V; go_simp; (try with_reducible rfl))
            (try simp only [Act.put, List.setIfInBounds_toArray, List.set_cons_zero, List.set_cons_succ])
            refine wpAnyB_take0 (i := 6) (v := ?_) rfl (by kernel_rfl) (by kernel_rfl) (by kernel_rfl) (by kernel_rfl) (fun _ _ _ h => h) (Or.inl ⟨by rfl, ?_⟩) (fun _ => hS) ?_
            rotate_left
            · (intro V; go_simp; (try with_reducible rfl))
            (try simp only [Act.put, List.setIfInBounds_toArray, List.set_cons_zero, List.set_cons_succ])
            have s8_0 := B8.at 0 _ rfl
            have s8_1 := B8.at 1 _ rfl
            have s8_2 := B8.at 2 _ rfl
            have s8_3 := B8.at 3 _ rfl
            have s8_4 := B8.at 4 _ rfl
            have s8_5 := B8.at 5 _ rfl
            have s8_l := B8.lt
            have s8_f := B8.fr
            have s7_0 := B7.at 0 _ rfl
            have s7_1 := B7.at 1 _ rfl
            have s7_2 := B7.at 2 _ rfl
            have s7_3 := B7.at 3 _ rfl
            have s7_4 := B7.at 4 _ rfl
            have s7_5 := B7.at 5 _ rfl
            have s7_6 := B7.at 6 _ rfl
            have s7_7 := B7.at 7 _ rfl
            have s7_l := B7.lt
            have s7_f := B7.fr
            refine wpAnyB_ready (rs := [9]) (by kernel_rfl) (by simp) ?_
            refine AllReadyB.cons rfl (fun K hK => ?_) AllReadyB.nil
            go_simp
            refine hK.out _ _ (fun h => absurd h (by decide)) ?_
            clear hK K
            (try simp only [Act.put, List.setIfInBounds_toArray, List.set_cons_zero, List.set_cons_succ])
            refine wpAnyB_ready (rs := [10]) (by kernel_rfl) (by simp) ?_
            refine AllReadyB.cons rfl (fun K hK => ?_) AllReadyB.nil
            go_simp
            refine hK.out _ _ (fun h => absurd h (by decide)) ?_
            clear hK K
            (try simp only [Act.put, List.setIfInBounds_toArray, List.set_cons_zero, List.set_cons_succ])
            refine wpAnyB_ready (rs := [11]) (by kernel_rfl) (by simp) ?_
            refine AllReadyB.cons rfl (fun K hK => ?_) AllReadyB.nil
            go_simp
            refine hK.out _ _ (fun h => absurd h (by decide)) ?_
            clear hK K
            (try simp only [Act.put, List.setIfInBounds_toArray, List.set_cons_zero, List.set_cons_succ])
            refine wpAnyB_done (by kernel_rfl) ?_ _
            go_wp2_with fail
            go_meet
            exact ⟨rfl, b7, a, k, rfl, far6 (set8 B7 (.int .i64 100) (.bool false) (.bool false) (.bool false) (.bool false) (.bool false) (.bool false) (.slice a M.es.length k)) ne87 (.int .i64 (M.s 0)) (.int .i64 (M.d 0)) (.int .i64 (M.s 1)) (.int .i64 (M.d 1)) (.int .i64 (M.s 2)) (.int .i64 (M.d 2)), row6 (row8 hr.out QN7.out (.int .i64 100) (.bool false) (.bool false) (.bool false) (.bool false) (.bool false) (.bool false) (.slice a M.es.length k)) QN8.out (.int .i64 (M.s 0)) (.int .i64 (M.d 0)) (.int .i64 (M.s 1)) (.int .i64 (M.d 1)) (.int .i64 (M.s 2)) (.int .i64 (M.d 2)), by rw [← HW3.out]; exact ext6 (ext8 hS gb7 (.int .i64 100) (.bool false) (.bool false) (.bool false) (.bool false) (.bool false) (.bool false) (.slice a M.es.length k)) gb8 (.int .i64 (M.s 0)) (.int .i64 (M.d 0)) (.int .i64 (M.s 1)) (.int .i64 (M.d 1)) (.int .i64 (M.s 2)) (.int .i64 (M.d 2))⟩
          exact AllReadyB.nil
        exact AllReadyB.nil
      exact AllReadyB.nil
    refine AllReadyB.cons rfl (fun K hK => ?_) ?_
    · skip
      go_simp
      refine hK.out _ _ (fun _ => hS.alloc _) ?_
      clear hK K
      (try simp only [Act.put, List.setIfInBounds_toArray, List.set_cons_zero, List.set_cons_succ])
      obtain ⟨v17, hV⟩ : ∃ V, V = v0.alloc (.cells #[.int .i64 0, .bool false, .bool false, .bool false, .bool false, .bool false, .bool false, .slice none 0 0] 52) := ⟨_, rfl⟩
      rw [← hV]
      have hxv17 : Ext v0 v17 := by rw [hV]; exact (Ext.refl _).alloc _
      have B7 : Blk v17 v0.heap.size [.int .i64 0, .bool false, .bool false, .bool false, .bool false, .bool false, .bool false, .slice none 0 0] := by rw [hV]; exact Blk.new _ _ _
      clear hV
      obtain ⟨b7, hb⟩ : ∃ b, b = v0.heap.size := ⟨_, rfl⟩
      rw [← hb] at B7 ⊢
      have gb7 : W3.heap.size ≤ b7 := by have := hS.size; omega
      have hS := hS.trans hxv17
      clear hb
      refine wpAnyB_ready (rs := [0, 8]) (by kernel_rfl) (by simp) ?_
      refine AllReadyB.cons rfl (fun K hK => ?_) ?_
      · skip
        go_simp
        refine (fresh_t _).mono ?_
        rintro e v18 ⟨rfl, hxv18⟩
        (try go_wp2_with fail)
        have hS := hS.trans hxv18
        have B7 := B7.ext hxv18
        refine hK.out _ _ (fun _ => hS) ?_
        clear hK K
        (try simp only [Act.put, List.setIfInBounds_toArray, List.set_cons_zero, List.set_cons_succ])
        refine wpAnyB_ready (rs := [2, 8]) (by kernel_rfl) (by simp) ?_
        refine AllReadyB.cons rfl (fun K hK => ?_) ?_
        · skip
          go_simp
          refine (HR.out _).mono ?_
          rintro e v19 ⟨a, k, rfl, hrv19, hnv19, hxv19⟩
          (try go_wp2_with fail)
          have hS := hS.trans hxv19
          have QN7 : Hid (M.es ≠ [] → ∀ x, ab a = some x → x ≠ b7) := Lib.hid (fun _ x hx e => by have := hnv19 x hx; have := B7.lt; omega)
          have B7 := B7.ext hxv19
          have hr := Lib.hid hrv19
          clear hrv19 hnv19
          refine hK.out _ _ (fun _ => hS) ?_
          clear hK K
          (try simp only [Act.put, List.setIfInBounds_toArray, List.set_cons_zero, List.set_cons_succ])
          refine wpAnyB_take0 (i := 3) (v := ?_) rfl (by kernel_rfl) (by kernel_rfl) (by kernel_rfl) (by kernel_rfl) (fun _ _ _ h => h) (Or.inl ⟨by rfl, ?_⟩) (fun _ => hS) ?_
          rotate_left
          · (intro V; go_simp; (try with_reducible rfl))
          (try simp only [Act.put, List.setIfInBounds_toArray, List.set_cons_zero, List.set_cons_succ])
          refine wpAnyB_take0 (i := 4) (v := ?_) rfl (by kernel_rfl) (by kernel_rfl) (by kernel_rfl) (by kernel_rfl) (fun _ _ _ h => h) (Or.inl ⟨by rfl, ?_⟩) (fun _ => hS) ?_
          rotate_left
          · (intro V; go_simp; (try with_reducible rfl))
          (try simp only [Act.put, List.setIfInBounds_toArray, List.set_cons_zero, List.set_cons_succ])
          refine wpAnyB_take0 (i := 5) (v := ?_) rfl (by kernel_rfl) (by kernel_rfl) (by kernel_rfl) (by kernel_rfl) (fun _ _ _ h => h) (Or.inl ⟨by rfl, ?_⟩) (fun _ => hS) ?_
          rotate_left
          · (intro V; go_simp; (try with_reducible rfl))
          (try simp only [Act.put, List.setIfInBounds_toArray, List.set_cons_zero, List.set_cons_succ])
          refine wpAnyB_take0 (i := 6) (v := ?_) rfl (by kernel_rfl) (by kernel_rfl) (by kernel_rfl) (by kernel_rfl) (fun _ _ _ h => h) (Or.inl ⟨by rfl, ?_⟩) (fun _ => hS) ?_
          rotate_left
          · (intro V; go_simp; (try with_reducible rfl))
          (try simp only [Act.put, List.setIfInBounds_toArray, List.set_cons_zero, List.set_cons_succ])
          refine wpAnyB_ready (rs := [8]) (by kernel_rfl) (by simp) ?_
          refine AllReadyB.cons rfl (fun K hK => ?_) ?_
          · skip
            go_simp
            refine hK.out _ _ (fun _ => hS.alloc _) ?_
            clear hK K
            (try simp only [Act.put, List.setIfInBounds_toArray, List.set_cons_zero, List.set_cons_succ])
            obtain ⟨v20, hV⟩ : ∃ V, V = v19.alloc (.cells #[.int .i64 0, .int .i64 0, .int .i64 0, .int .i64 0, .int .i64 0, .int .i64 0] 29) := ⟨_, rfl⟩
            rw [← hV]
            have hxv20 : Ext v19 v20 := by rw [hV]; exact (Ext.refl _).alloc _
            have B8 : Blk v20 v19.heap.size [.int .i64 0, .int .i64 0, .int .i64 0, .int .i64 0, .int .i64 0, .int .i64 0] := by rw [hV]; exact Blk.new _ _ _
            clear hV
            obtain ⟨b8, hb⟩ : ∃ b, b = v19.heap.size := ⟨_, rfl⟩
            have QN8 : Hid (M.es ≠ [] → ∀ x, ab a = some x → x ≠ b8) := Lib.hid (by rw [hb]; exact RowE.new hr.out)
            rw [← hb] at B8 ⊢
            have gb8 : W3.heap.size ≤ b8 := by have := hS.size; omega
            have ne78 : b7 ≠ b8 := by have := B7.lt; omega
            have ne87 : b8 ≠ b7 := fun h => ne78 h.symm
            have B7 := B7.ext hxv20
            have hr := Lib.hid (hr.out.ext hxv20)
            have hS := hS.trans hxv20
            clear hb
            have s7_0 := B7.at 0 _ rfl
            have s7_1 := B7.at 1 _ rfl
            have s7_2 := B7.at 2 _ rfl
            have s7_3 := B7.at 3 _ rfl
            have s7_4 := B7.at 4 _ rfl
            have s7_5 := B7.at 5 _ rfl
            have s7_6 := B7.at 6 _ rfl
            have s7_7 := B7.at 7 _ rfl
            have s7_l := B7.lt
            have s7_f := B7.fr
            have s8_0 := B8.at 0 _ rfl
            have s8_1 := B8.at 1 _ rfl
            have s8_2 := B8.at 2 _ rfl
            have s8_3 := B8.at 3 _ rfl
            have s8_4 := B8.at 4 _ rfl
            have s8_5 := B8.at 5 _ rfl
            have s8_l := B8.lt
            have s8_f := B8.fr
            refine wpAnyB_ready (rs := [9]) (by kernel_rfl) (by simp) ?_
            refine AllReadyB.cons rfl (fun K hK => ?_) AllReadyB.nil
            go_simp
            refine hK.out _ _ (fun h => absurd h (by decide)) ?_
            clear hK K
            (try simp only [Act.put, List.setIfInBounds_toArray, List.set_cons_zero, List.set_cons_succ])
            refine wpAnyB_ready (rs := [10]) (by kernel_rfl) (by simp) ?_
            refine AllReadyB.cons rfl (fun K hK => ?_) AllReadyB.nil
            go_simp
            refine hK.out _ _ (fun h => absurd h (by decide)) ?_
            clear hK K
            (try simp only [Act.put, List.setIfInBounds_toArray, List.set_cons_zero, List.set_cons_succ])
            refine wpAnyB_ready (rs := [11]) (by kernel_rfl) (by simp) ?_
            refine AllReadyB.cons rfl (fun K hK => ?_) AllReadyB.nil
            go_simp
            refine hK.out _ _ (fun h => absurd h (by decide)) ?_
            clear hK K
            (try simp only [Act.put, List.setIfInBounds_toArray, List.set_cons_zero, List.set_cons_succ])
            refine wpAnyB_done (by kernel_rfl) ?_ _
            go_wp2_with fail
            go_meet
            exact ⟨rfl, b7, a, k, rfl, far6 (set8 B7 (.int .i64 100) (.bool false) (.bool false) (.bool false) (.bool false) (.bool false) (.bool false) (.slice a M.es.length k)) ne87 (.int .i64 (M.s 0)) (.int .i64 (M.d 0)) (.int .i64 (M.s 1)) (.int .i64 (M.d 1)) (.int .i64 (M.s 2)) (.int .i64 (M.d 2)), row6 (row8 hr.out QN7.out (.int .i64 100) (.bool false) (.bool false) (.bool false) (.bool false) (.bool false) (.bool false) (.slice a M.es.length k)) QN8.out (.int .i64 (M.s 0)) (.int .i64 (M.d 0)) (.int .i64 (M.s 1)) (.int .i64 (M.d 1)) (.int .i64 (M.s 2)) (.int .i64 (M.d 2)), by rw [← HW3.out]; exact ext6 (ext8 hS gb7 (.int .i64 100) (.bool false) (.bool false) (.bool false) (.bool false) (.bool false) (.bool false) (.slice a M.es.length k)) gb8 (.int .i64 (M.s 0)) (.int .i64 (M.d 0)) (.int .i64 (M.s 1)) (.int .i64 (M.d 1)) (.int .i64 (M.s 2)) (.int .i64 (M.d 2))⟩
          exact AllReadyB.nil
        refine AllReadyB.cons rfl (fun K hK => ?_) ?_
        · skip
          go_simp
          refine hK.out _ _ (fun _ => hS.alloc _) ?_
          clear hK K
          (try simp only [Act.put, List.setIfInBounds_toArray, List.set_cons_zero, List.set_cons_succ])
          obtain ⟨v21, hV⟩ : ∃ V, V = v18.alloc (.cells #[.int .i64 0, .int .i64 0, .int .i64 0, .int .i64 0, .int .i64 0, .int .i64 0] 29) := ⟨_, rfl⟩
          rw [← hV]
          have hxv21 : Ext v18 v21 := by rw [hV]; exact (Ext.refl _).alloc _
          have B8 : Blk v21 v18.heap.size [.int .i64 0, .int .i64 0, .int .i64 0, .int .i64 0, .int .i64 0, .int .i64 0] := by rw [hV]; exact Blk.new _ _ _
          clear hV
          obtain ⟨b8, hb⟩ : ∃ b, b = v18.heap.size := ⟨_, rfl⟩
          rw [← hb] at B8 ⊢
          have gb8 : W3.heap.size ≤ b8 := by have := hS.size; omega
          have ne78 : b7 ≠ b8 := by have := B7.lt; omega
          have ne87 : b8 ≠ b7 := fun h => ne78 h.symm
          have B7 := B7.ext hxv21
          have hS := hS.trans hxv21
          clear hb
          refine wpAnyB_ready (rs := [2]) (by kernel_rfl) (by simp) ?_
          refine AllReadyB.cons rfl (fun K hK => ?_) ?_
          · skip
            go_simp
            refine (HR.out _).mono ?_
            rintro e v22 ⟨a, k, rfl, hrv22, hnv22, hxv22⟩
            (try go_wp2_with fail)
            have hS := hS.trans hxv22
            have QN7 : Hid (M.es ≠ [] → ∀ x, ab a = some x → x ≠ b7) := Lib.hid (fun _ x hx e => by have := hnv22 x hx; have := B7.lt; omega)
            have QN8 : Hid (M.es ≠ [] → ∀ x, ab a = some x → x ≠ b8) := Lib.hid (fun _ x hx e => by have := hnv22 x hx; have := B8.lt; omega)
            have B7 := B7.ext hxv22
            have B8 := B8.ext hxv22
            have hr := Lib.hid hrv22
            clear hrv22 hnv22
            refine hK.out _ _ (fun _ => hS) ?_
            clear hK K
            (try simp only [Act.put, List.setIfInBounds_toArray, List.set_cons_zero, List.set_cons_succ])
            refine wpAnyB_take0 (i := 3) (v := ?_) rfl (by kernel_rfl) (by kernel_rfl) (by kernel_rfl) (by kernel_rfl) (fun _ _ _ h => h) (Or.inl ⟨by rfl, ?_⟩) (fun _ => hS) ?_
            rotate_left
            · (intro V; go_simp; (try with_reducible rfl))
            (try simp only [Act.put, List.setIfInBounds_toArray, List.set_cons_zero, List.set_cons_succ])
            refine wpAnyB_take0 (i := 4) (v := ?_) rfl (by kernel_rfl) (by kernel_rfl) (by kernel_rfl) (by kernel_rfl) (fun _ _ _ h => h) (Or.inl ⟨by rfl, ?_⟩) (fun _ => hS) ?_
            rotate_left
            · (intro V; go_simp; (try with_reducible rfl))
            (try simp only [Act.put, List.setIfInBounds_toArray, List.set_cons_zero, List.set_cons_succ])
            refine wpAnyB_take0 (i := 5) (v := ?_) rfl (by kernel_rfl) (by kernel_rfl) (by kernel_rfl) (by kernel_rfl) (fun _ _ _ h => h) (Or.inl ⟨by rfl, ?_⟩) (fun _ => hS) ?_
            rotate_left
            · (intro V; go_simp; (try with_reducible rfl))
            (try simp only [Act.put, List.setIfInBounds_toArray, List.set_cons_zero, List.set_cons_succ])
            refine wpAnyB_take0 (i := 6) (v := ?_) rfl (by kernel_rfl) (by kernel_rfl) (by kernel_rfl) (by kernel_rfl) (fun _ _ _ h => h) (Or.inl ⟨by rfl, ?_⟩) (fun _ => hS) ?_
            rotate_left
            · (intro V; go_simp; (try with_reducible rfl))
            (try simp only [Act.put, List.setIfInBounds_toArray, List.set_cons_zero, List.set_cons_succ])
            have s7_0 := B7.at 0 _ rfl
            have s7_1 := B7.at 1 _ rfl
            have s7_2 := B7.at 2 _ rfl
            have s7_3 := B7.at 3 _ rfl
            have s7_4 := B7.at 4 _ rfl
            have s7_5 := B7.at 5 _ rfl
            have s7_6 := B7.at 6 _ rfl
            have s7_7 := B7.at 7 _ rfl
            have s7_l := B7.lt
            have s7_f := B7.fr
            have s8_0 := B8.at 0 _ rfl
            have s8_1 := B8.at 1 _ rfl
            have s8_2 := B8.at 2 _ rfl
            have s8_3 := B8.at 3 _ rfl
            have s8_4 := B8.at 4 _ rfl
            have s8_5 := B8.at 5 _ rfl
            have s8_l := B8.lt
            have s8_f := B8.fr
            refine wpAnyB_ready (rs := [9]) (by kernel_rfl) (by simp) ?_
            refine AllReadyB.cons rfl (fun K hK => ?_) AllReadyB.nil
            go_simp
            refine hK.out _ _ (fun h => absurd h (by decide)) ?_
            clear hK K
            (try simp only [Act.put, List.setIfInBounds_toArray, List.set_cons_zero, List.set_cons_succ])
            refine wpAnyB_ready (rs := [10]) (by kernel_rfl) (by simp) ?_
            refine AllReadyB.cons rfl (fun K hK => ?_) AllReadyB.nil
            go_simp
            refine hK.out _ _ (fun h => absurd h (by decide)) ?_
            clear hK K
            (try simp only [Act.put, List.setIfInBounds_toArray, List.set_cons_zero, List.set_cons_succ])
            refine wpAnyB_ready (rs := [11]) (by kernel_rfl) (by simp) ?_
            refine AllReadyB.cons rfl (fun K hK => ?_) AllReadyB.nil
            go_simp
            refine hK.out _ _ (fun h => absurd h (by decide)) ?_
            clear hK K
            (try simp only [Act.put, List.setIfInBounds_toArray, List.set_cons_zero, List.set_cons_succ])
            refine wpAnyB_done (by kernel_rfl) ?_ _
            go_wp2_with fail
            go_meet
            exact ⟨rfl, b7, a, k, rfl, far6 (set8 B7 (.int .i64 100) (.bool false) (.bool false) (.bool false) (.bool false) (.bool false) (.bool false) (.slice a M.es.length k)) ne87 (.int .i64 (M.s 0)) (.int .i64 (M.d 0)) (.int .i64 (M.s 1)) (.int .i64 (M.d 1)) (.int .i64 (M.s 2)) (.int .i64 (M.d 2)), row6 (row8 hr.out QN7.out (.int .i64 100) (.bool false) (.bool false) (.bool false) (.bool false) (.bool false) (.bool false) (.slice a M.es.length k)) QN8.out (.int .i64 (M.s 0)) (.int .i64 (M.d 0)) (.int .i64 (M.s 1)) (.int .i64 (M.d 1)) (.int .i64 (M.s 2)) (.int .i64 (M.d 2)), by rw [← HW3.out]; exact ext6 (ext8 hS gb7 (.int .i64 100) (.bool false) (.bool false) (.bool false) (.bool false) (.bool false) (.bool false) (.slice a M.es.length k)) gb8 (.int .i64 (M.s 0)) (.int .i64 (M.d 0)) (.int .i64 (M.s 1)) (.int .i64 (M.d 1)) (.int .i64 (M.s 2)) (.int .i64 (M.d 2))⟩
          exact AllReadyB.nil
        exact AllReadyB.nil
      refine AllReadyB.cons rfl (fun K hK => ?_) ?_
      · skip
        go_simp
        refine hK.out _ _ (fun _ => hS.alloc _) ?_
        clear hK K
        (try simp only [Act.put, List.setIfInBounds_toArray, List.set_cons_zero, List.set_cons_succ])
        obtain ⟨v23, hV⟩ : ∃ V, V = v17.alloc (.cells #[.int .i64 0, .int .i64 0, .int .i64 0, .int .i64 0, .int .i64 0, .int .i64 0] 29) := ⟨_, rfl⟩
        rw [← hV]
        have hxv23 : Ext v17 v23 := by rw [hV]; exact (Ext.refl _).alloc _
        have B8 : Blk v23 v17.heap.size [.int .i64 0, .int .i64 0, .int .i64 0, .int .i64 0, .int .i64 0, .int .i64 0] := by rw [hV]; exact Blk.new _ _ _
        clear hV
        obtain ⟨b8, hb⟩ : ∃ b, b = v17.heap.size := ⟨_, rfl⟩
        rw [← hb] at B8 ⊢
        have gb8 : W3.heap.size ≤ b8 := by have := hS.size; omega
        have ne78 : b7 ≠ b8 := by have := B7.lt; omega
        have ne87 : b8 ≠ b7 := fun h => ne78 h.symm
        have B7 := B7.ext hxv23
        have hS := hS.trans hxv23
        clear hb
        refine wpAnyB_ready (rs := [0]) (by kernel_rfl) (by simp) ?_
        refine AllReadyB.cons rfl (fun K hK => ?_) ?_
        · skip
          go_simp
          refine (fresh_t _).mono ?_
          rintro e v24 ⟨rfl, hxv24⟩
          (try go_wp2_with fail)
          have hS := hS.trans hxv24
          have B7 := B7.ext hxv24
          have B8 := B8.ext hxv24
          refine hK.out _ _ (fun _ => hS) ?_
          clear hK K
          (try simp only [Act.put, List.setIfInBounds_toArray, List.set_cons_zero, List.set_cons_succ])
          refine wpAnyB_ready (rs := [2]) (by kernel_rfl) (by simp) ?_
          refine AllReadyB.cons rfl (fun K hK => ?_) ?_
          · skip
            go_simp
            refine (HR.out _).mono ?_
            rintro e v25 ⟨a, k, rfl, hrv25, hnv25, hxv25⟩
            (try go_wp2_with fail)
            have hS := hS.trans hxv25
            have QN7 : Hid (M.es ≠ [] → ∀ x, ab a = some x → x ≠ b7) := Lib.hid (fun _ x hx e => by have := hnv25 x hx; have := B7.lt; omega)
            have QN8 : Hid (M.es ≠ [] → ∀ x, ab a = some x → x ≠ b8) := Lib.hid (fun _ x hx e => by have := hnv25 x hx; have := B8.lt; omega)
            have B7 := B7.ext hxv25
            have B8 := B8.ext hxv25
            have hr := Lib.hid hrv25
            clear hrv25 hnv25
            refine hK.out _ _ (fun _ => hS) ?_
            clear hK K
            (try simp only [Act.put, List.setIfInBounds_toArray, List.set_cons_zero, List.set_cons_succ])
            refine wpAnyB_take0 (i := 3) (v := ?_) rfl (by kernel_rfl) (by kernel_rfl) (by kernel_rfl) (by kernel_rfl) (fun _ _ _ h => h) (Or.inl ⟨by rfl, ?_⟩) (fun _ => hS) ?_
            rotate_left
            · (intro V; go_simp; (try with_reducible rfl))
            (try simp only [Act.put, List.setIfInBounds_toArray, List.set_cons_zero, List.set_cons_succ])
            refine wpAnyB_take0 (i := 4) (v := ?_) rfl (by kernel_rfl) (by kernel_rfl) (by kernel_rfl) (by kernel_rfl) (fun _ _ _ h => h) (Or.inl ⟨by rfl, ?_⟩) (fun _ => hS) ?_
            rotate_left
            · (intro V; go_simp; (try with_reducible rfl))
            (try simp only [Act.put, List.setIfInBounds_toArray, List.set_cons_zero, List.set_cons_succ])
            refine wpAnyB_take0 (i := 5) (v := ?_) rfl (by kernel_rfl) (by kernel_rfl) (by kernel_rfl) (by kernel_rfl) (fun _ _ _ h => h) (Or.inl ⟨by rfl, ?_⟩) (fun _ => hS) ?_
            rotate_left
            · (intro V; go_simp; (try with_reducible rfl))
            (try simp only [Act.put, List.setIfInBounds_toArray, List.set_cons_zero, List.set_cons_succ])
            refine wpAnyB_take0 (i := 6) (v := ?_) rfl (by kernel_rfl) (by kernel_rfl) (by kernel_rfl) (by kernel_rfl) (fun _ _ _ h => h) (Or.inl ⟨by rfl, ?_⟩) (fun _ => hS) ?_
            rotate_left
            · (intro V; go_simp; (try with_reducible rfl))
            (try simp only [Act.put, List.setIfInBounds_toArray, List.set_cons_zero, List.set_cons_succ])
            have s7_0 := B7.at 0 _ rfl
            have s7_1 := B7.at 1 _ rfl
            have s7_2 := B7.at 2 _ rfl
            have s7_3 := B7.at 3 _ rfl
            have s7_4 := B7.at 4 _ rfl
            have s7_5 := B7.at 5 _ rfl
            have s7_6 := B7.at 6 _ rfl
            have s7_7 := B7.at 7 _ rfl
            have s7_l := B7.lt
            have s7_f := B7.fr
            have s8_0 := B8.at 0 _ rfl
            have s8_1 := B8.at 1 _ rfl
            have s8_2 := B8.at 2 _ rfl
            have s8_3 := B8.at 3 _ rfl
            have s8_4 := B8.at 4 _ rfl
            have s8_5 := B8.at 5 _ rfl
            have s8_l := B8.lt
            have s8_f := B8.fr
            refine wpAnyB_ready (rs := [9]) (by kernel_rfl) (by simp) ?_
            refine AllReadyB.cons rfl (fun K hK => ?_) AllReadyB.nil
            go_simp
            refine hK.out _ _ (fun h => absurd h (by decide)) ?_
            clear hK K
            (try simp only [Act.put, List.setIfInBounds_toArray, List.set_cons_zero, List.set_cons_succ])
            refine wpAnyB_ready (rs := [10]) (by kernel_rfl) (by simp) ?_
            refine AllReadyB.cons rfl (fun K hK => ?_) AllReadyB.nil
            go_simp
            refine hK.out _ _ (fun h => absurd h (by decide)) ?_
            clear hK K
            (try simp only [Act.put, List.setIfInBounds_toArray, List.set_cons_zero, List.set_cons_succ])
            refine wpAnyB_ready (rs := [11]) (by kernel_rfl) (by simp) ?_
            refine AllReadyB.cons rfl (fun K hK => ?_) AllReadyB.nil
            go_simp
            refine hK.out _ _ (fun h => absurd h (by decide)) ?_
            clear hK K
            (try simp only [Act.put, List.setIfInBounds_toArray, List.set_cons_zero, List.set_cons_succ])
            refine wpAnyB_done (by kernel_rfl) ?_ _
            go_wp2_with fail
            go_meet
            exact ⟨rfl, b7, a, k, rfl, far6 (set8 B7 (.int .i64 100) (.bool false) (.bool false) (.bool false) (.bool false) (.bool false) (.bool false) (.slice a M.es.length k)) ne87 (.int .i64 (M.s 0)) (.int .i64 (M.d 0)) (.int .i64 (M.s 1)) (.int .i64 (M.d 1)) (.int .i64 (M.s 2)) (.int .i64 (M.d 2)), row6 (row8 hr.out QN7.out (.int .i64 100) (.bool false) (.bool false) (.bool false) (.bool false) (.bool false) (.bool false) (.slice a M.es.length k)) QN8.out (.int .i64 (M.s 0)) (.int .i64 (M.d 0)) (.int .i64 (M.s 1)) (.int .i64 (M.d 1)) (.int .i64 (M.s 2)) (.int .i64 (M.d 2)), by rw [← HW3.out]; exact ext6 (ext8 hS gb7 (.int .i64 100) (.bool false) (.bool false) (.bool false) (.bool false) (.bool false) (.bool false) (.slice a M.es.length k)) gb8 (.int .i64 (M.s 0)) (.int .i64 (M.d 0)) (.int .i64 (M.s 1)) (.int .i64 (M.d 1)) (.int .i64 (M.s 2)) (.int .i64 (M.d 2))⟩
          exact AllReadyB.nil
        exact AllReadyB.nil
      exact AllReadyB.nil
    refine AllReadyB.cons rfl (fun K hK => ?_) ?_
    · skip
      go_simp
      refine hK.out _ _ (fun _ => hS.alloc _) ?_
      clear hK K
      (try simp only [Act.put, List.setIfInBounds_toArray, List.set_cons_zero, List.set_cons_succ])
      obtain ⟨v26, hV⟩ : ∃ V, V = v0.alloc (.cells #[.int .i64 0, .int .i64 0, .int .i64 0, .int .i64 0, .int .i64 0, .int .i64 0] 29) := ⟨_, rfl⟩
      rw [← hV]
      have hxv26 : Ext v0 v26 := by rw [hV]; exact (Ext.refl _).alloc _
      have B8 : Blk v26 v0.heap.size [.int .i64 0, .int .i64 0, .int .i64 0, .int .i64 0, .int .i64 0, .int .i64 0] := by rw [hV]; exact Blk.new _ _ _
      clear hV
      obtain ⟨b8, hb⟩ : ∃ b, b = v0.heap.size := ⟨_, rfl⟩
      rw [← hb] at B8 ⊢
      have gb8 : W3.heap.size ≤ b8 := by have := hS.size; omega
      have hS := hS.trans hxv26
      clear hb
      refine wpAnyB_ready (rs := [0, 7]) (by kernel_rfl) (by simp) ?_
      refine AllReadyB.cons rfl (fun K hK => ?_) ?_
      · skip
        go_simp
        refine (fresh_t _).mono ?_
        rintro e v27 ⟨rfl, hxv27⟩
        (try go_wp2_with fail)
        have hS := hS.trans hxv27
        have B8 := B8.ext hxv27
        refine hK.out _ _ (fun _ => hS) ?_
        clear hK K
        (try simp only [Act.put, List.setIfInBounds_toArray, List.set_cons_zero, List.set_cons_succ])
        refine wpAnyB_ready (rs := [2, 7]) (by kernel_rfl) (by simp) ?_
        refine AllReadyB.cons rfl (fun K hK => ?_) ?_
        · skip
          go_simp
          refine (HR.out _).mono ?_
          rintro e v28 ⟨a, k, rfl, hrv28, hnv28, hxv28⟩
          (try go_wp2_with fail)
          have hS := hS.trans hxv28
          have QN8 : Hid (M.es ≠ [] → ∀ x, ab a = some x → x ≠ b8) := Lib.hid (fun _ x hx e => by have := hnv28 x hx; have := B8.lt; omega)
          have B8 := B8.ext hxv28
          have hr := Lib.hid hrv28
          clear hrv28 hnv28
          refine hK.out _ _ (fun _ => hS) ?_
          clear hK K
          (try simp only [Act.put, List.setIfInBounds_toArray, List.set_cons_zero, List.set_cons_succ])
          refine wpAnyB_take0 (i := 3) (v := ?_) rfl (by kernel_rfl) (by kernel_rfl) (by kernel_rfl) (by kernel_rfl) (fun _ _ _ h => h) (Or.inl ⟨by rfl, ?_⟩) (fun _ => hS) ?_
          rotate_left
          · (intro V; go_simp; (try with_reducible rfl))
          (try simp only [Act.put, List.setIfInBounds_toArray, List.set_cons_zero, List.set_cons_succ])
          refine wpAnyB_take0 (i := 4) (v := ?_) rfl (by kernel_rfl) (by kernel_rfl) (by kernel_rfl) (by kernel_rfl) (fun _ _ _ h => h) (Or.inl ⟨by rfl, ?_⟩) (fun _ => hS) ?_
          rotate_left
          · (intro V; go_simp; (try with_reducible rfl))
          (try simp only [Act.put, List.setIfInBounds_toArray, List.set_cons_zero, List.set_cons_succ])
          refine wpAnyB_take0 (i := 5) (v := ?_) rfl (by kernel_rfl) (by kernel_rfl) (by kernel_rfl) (by kernel_rfl) (fun _ _ _ h => h) (Or.inl ⟨by rfl, ?_⟩) (fun _ => hS) ?_
          rotate_left
          · (intro V; go_simp; (try with_reducible rfl))
          (try simp only [Act.put, List.setIfInBounds_toArray, List.set_cons_zero, List.set_cons_succ])
          refine wpAnyB_take0 (i := 6) (v := ?_) rfl (by kernel_rfl) (by kernel_rfl) (by kernel_rfl) (by kernel_rfl) (fun _ _ _ h => h) (Or.inl ⟨by rfl, ?_⟩) (fun _ => hS) ?_
          rotate_left
          · (intro V; go_simp; (try with_reducible rfl))
          (try simp only [Act.put, List.setIfInBounds_toArray, List.set_cons_zero, List.set_cons_succ])
          refine wpAnyB_ready (rs := [7]) (by kernel_rfl) (by simp) ?_
          refine AllReadyB.cons rfl (fun K hK => ?_) ?_
          · skip
            go_simp
            refine hK.out _ _ (fun _ => hS.alloc _) ?_
            clear hK K
            (try simp only [Act.put, List.setIfInBounds_toArray, List.set_cons_zero, List.set_cons_succ])
            obtain ⟨v29, hV⟩ : ∃ V, V = v28.alloc (.cells #[.int .i64 0, .bool false, .bool false, .bool false, .bool false, .bool false, .bool false, .slice none 0 0] 52) := ⟨_, rfl⟩
            rw [← hV]
            have hxv29 : Ext v28 v29 := by rw [hV]; exact (Ext.refl _).alloc _
            have B7 : Blk v29 v28.heap.size [.int .i64 0, .bool false, .bool false, .bool false, .bool false, .bool false, .bool false, .slice none 0 0] := by rw [hV]; exact Blk.new _ _ _
            clear hV
            obtain ⟨b7, hb⟩ : ∃ b, b = v28.heap.size := ⟨_, rfl⟩
            have QN7 : Hid (M.es ≠ [] → ∀ x, ab a = some x → x ≠ b7) := Lib.hid (by rw [hb]; exact RowE.new hr.out)
            rw [← hb] at B7 ⊢
            have gb7 : W3.heap.size ≤ b7 := by have := hS.size; omega
            have ne87 : b8 ≠ b7 := by have := B8.lt; omega
            have ne78 : b7 ≠ b8 := fun h => ne87 h.symm
            have B8 := B8.ext hxv29
            have hr := Lib.hid (hr.out.ext hxv29)
            have hS := hS.trans hxv29
            clear hb
            have s8_0 := B8.at 0 _ rfl
            have s8_1 := B8.at 1 _ rfl
            have s8_2 := B8.at 2 _ rfl
            have s8_3 := B8.at 3 _ rfl
            have s8_4 := B8.at 4 _ rfl
            have s8_5 := B8.at 5 _ rfl
            have s8_l := B8.lt
            have s8_f := B8.fr
            have s7_0 := B7.at 0 _ rfl
            have s7_1 := B7.at 1 _ rfl
            have s7_2 := B7.at 2 _ rfl
            have s7_3 := B7.at 3 _ rfl
            have s7_4 := B7.at 4 _ rfl
            have s7_5 := B7.at 5 _ rfl
            have s7_6 := B7.at 6 _ rfl
            have s7_7 := B7.at 7 _ rfl
            have s7_l := B7.lt
            have s7_f := B7.fr
            refine wpAnyB_ready (rs := [9]) (by kernel_rfl) (by simp) ?_
            refine AllReadyB.cons rfl (fun K hK => ?_) AllReadyB.nil
            go_simp
            refine hK.out _ _ (fun h => absurd h (by decide)) ?_
            clear hK K
            (try simp only [Act.put, List.setIfInBounds_toArray, List.set_cons_zero, List.set_cons_succ])
            refine wpAnyB_ready (rs := [10]) (by kernel_rfl) (by simp) ?_
            refine AllReadyB.cons rfl (fun K hK => ?_) AllReadyB.nil
            go_simp
            refine hK.out _ _ (fun h => absurd h (by decide)) ?_
            clear hK K
            (try simp only [Act.put, List.setIfInBounds_toArray, List.set_cons_zero, List.set_cons_succ])
            refine wpAnyB_ready (rs := [11]) (by kernel_rfl) (by simp) ?_
            refine AllReadyB.cons rfl (fun K hK => ?_) AllReadyB.nil
            go_simp
            refine hK.out _ _ (fun h => absurd h (by decide)) ?_
            clear hK K
            (try simp only [Act.put, List.setIfInBounds_toArray, List.set_cons_zero, List.set_cons_succ])
            refine wpAnyB_done (by kernel_rfl) ?_ _
            go_wp2_with fail
            go_meet
            exact ⟨rfl, b7, a, k, rfl, far6 (set8 B7 (.int .i64 100) (.bool false) (.bool false) (.bool false) (.bool false) (.bool false) (.bool false) (.slice a M.es.length k)) ne87 (.int .i64 (M.s 0)) (.int .i64 (M.d 0)) (.int .i64 (M.s 1)) (.int .i64 (M.d 1)) (.int .i64 (M.s 2)) (.int .i64 (M.d 2)), row6 (row8 hr.out QN7.out (.int .i64 100) (.bool false) (.bool false) (.bool false) (.bool false) (.bool false) (.bool false) (.slice a M.es.length k)) QN8.out (.int .i64 (M.s 0)) (.int .i64 (M.d 0)) (.int .i64 (M.s 1)) (.int .i64 (M.d 1)) (.int .i64 (M.s 2)) (.int .i64 (M.d 2)), by rw [← HW3.out]; exact ext6 (ext8 hS gb7 (.int .i64 100) (.bool false) (.bool false) (.bool false) (.bool false) (.bool false) (.bool false) (.slice a M.es.length k)) gb8 (.int .i64 (M.s 0)) (.int .i64 (M.d 0)) (.int .i64 (M.s 1)) (.int .i64 (M.d 1)) (.int .i64 (M.s 2)) (.int .i64 (M.d 2))⟩
          exact AllReadyB.nil
        refine AllReadyB.cons rfl (fun K hK => ?_) ?_
        · skip
          go_simp
          refine hK.out _ _ (fun _ => hS.alloc _) ?_
          clear hK K
          (try simp only [Act.put, List.setIfInBounds_toArray, List.set_cons_zero, List.set_cons_succ])
          obtain ⟨v30, hV⟩ : ∃ V, V = v27.alloc (.cells #[.int .i64 0, .bool false, .bool false, .bool false, .bool false, .bool false, .bool false, .slice none 0 0] 52) := ⟨_, rfl⟩
          rw [← hV]
          have hxv30 : Ext v27 v30 := by rw [hV]; exact (Ext.refl _).alloc _
          have B7 : Blk v30 v27.heap.size [.int .i64 0, .bool false, .bool false, .bool false, .bool false, .bool false, .bool false, .slice none 0 0] := by rw [hV]; exact Blk.new _ _ _
          clear hV
          obtain ⟨b7, hb⟩ : ∃ b, b = v27.heap.size := ⟨_, rfl⟩
          rw [← hb] at B7 ⊢
          have gb7 : W3.heap.size ≤ b7 := by have := hS.size; omega
          have ne87 : b8 ≠ b7 := by have := B8.lt; omega
          have ne78 : b7 ≠ b8 := fun h => ne87 h.symm
          have B8 := B8.ext hxv30
          have hS := hS.trans hxv30
          clear hb
          refine wpAnyB_ready (rs := [2]) (by kernel_rfl) (by simp) ?_
          refine AllReadyB.cons rfl (fun K hK => ?_) ?_
          · skip
            go_simp
            refine (HR.out _).mono ?_
            rintro e v31 ⟨a, k, rfl, hrv31, hnv31, hxv31⟩
            (try go_wp2_with fail)
            have hS := hS.trans hxv31
            have QN8 : Hid (M.es ≠ [] → ∀ x, ab a = some x → x ≠ b8) := Lib.hid (fun _ x hx e => by have := hnv31 x hx; have := B8.lt; omega)
            have QN7 : Hid (M.es ≠ [] → ∀ x, ab a = some x → x ≠ b7) := Lib.hid (fun _ x hx e => by have := hnv31 x hx; have := B7.lt; omega)
            have B8 := B8.ext hxv31
            have B7 := B7.ext hxv31
            have hr := Lib.hid hrv31
            clear hrv31 hnv31
            refine hK.out _ _ (fun _ => hS) ?_
            clear hK K
            (try simp only [Act.put, List.setIfInBounds_toArray, List.set_cons_zero, List.set_cons_succ])
            refine wpAnyB_take0 (i := 3) (v := ?_) rfl (by kernel_rfl) (by kernel_rfl) (by kernel_rfl) (by kernel_rfl) (fun _ _ _ h => h) (Or.inl ⟨by rfl, ?_⟩) (fun _ => hS) ?_
            rotate_left
            · (intro V; go_simp; (try with_reducible rfl))
            (try simp only [Act.put, List.setIfInBounds_toArray, List.set_cons_zero, List.set_cons_succ])
            refine wpAnyB_take0 (i := 4) (v := ?_) rfl (by kernel_rfl) (by kernel_rfl) (by kernel_rfl) (by kernel_rfl) (fun _ _ _ h => h) (Or.inl ⟨by rfl, ?_⟩) (fun _ => hS) ?_
            rotate_left
            · (intro V; go_simp; (try with_reducible rfl))
            (try simp only [Act.put, List.setIfInBounds_toArray, List.set_cons_zero, List.set_cons_succ])
            refine wpAnyB_take0 (i := 5) (v := ?_) rfl (by kernel_rfl) (by kernel_rfl) (by kernel_rfl) (by kernel_rfl) (fun _ _ _ h => h) (Or.inl ⟨by rfl, ?_⟩) (fun _ => hS) ?_
            rotate_left
            · (intro V; go_simp; (try with_reducible rfl))
            (try simp only [Act.put, List.setIfInBounds_toArray, List.set_cons_zero, List.set_cons_succ])
            refine wpAnyB_take0 (i := 6) (v := ?_) rfl (by kernel_rfl) (by kernel_rfl) (by kernel_rfl) (by kernel_rfl) (fun _ _ _ h => h) (Or.inl ⟨by rfl, ?_⟩) (fun _ => hS) ?_
            rotate_left
            · (intro V; go_simp; (try with_reducible rfl))
            (try simp only [Act.put, List.setIfInBounds_toArray, List.set_cons_zero, List.set_cons_succ])
            have s8_0 := B8.at 0 _ rfl
            have s8_1 := B8.at 1 _ rfl
            have s8_2 := B8.at 2 _ rfl
            have s8_3 := B8.at 3 _ rfl
            have s8_4 := B8.at 4 _ rfl
            have s8_5 := B8.at 5 _ rfl
            have s8_l := B8.lt
            have s8_f := B8.fr
            have s7_0 := B7.at 0 _ rfl
            have s7_1 := B7.at 1 _ rfl
            have s7_2 := B7.at 2 _ rfl
            have s7_3 := B7.at 3 _ rfl
            have s7_4 := B7.at 4 _ rfl
            have s7_5 := B7.at 5 _ rfl
            have s7_6 := B7.at 6 _ rfl
            have s7_7 := B7.at 7 _ rfl
            have s7_l := B7.lt
            have s7_f := B7.fr
            refine wpAnyB_ready (rs := [9]) (by kernel_rfl) (by simp) ?_
            refine AllReadyB.cons rfl (fun K hK => ?_) AllReadyB.nil
            go_simp
            refine hK.out _ _ (fun h => absurd h (by decide)) ?_
            clear hK K
            (try simp only [Act.put, List.setIfInBounds_toArray, List.set_cons_zero, List.set_cons_succ])
            refine wpAnyB_ready (rs := [10]) (by kernel_rfl) (by simp) ?_
            refine AllReadyB.cons rfl (fun K hK => ?_) AllReadyB.nil
            go_simp
            refine hK.out _ _ (fun h => absurd h (by decide)) ?_
            clear hK K
            (try simp only [Act.put, List.setIfInBounds_toArray, List.set_cons_zero, List.set_cons_succ])
            refine wpAnyB_ready (rs := [11]) (by kernel_rfl) (by simp) ?_
            refine AllReadyB.cons rfl (fun K hK => ?_) AllReadyB.nil
            go_simp
            refine hK.out _ _ (fun h => absurd h (by decide)) ?_
            clear hK K
            (try simp only [Act.put, List.setIfInBounds_toArray, List.set_cons_zero, List.set_cons_succ])
            refine wpAnyB_done (by kernel_rfl) ?_ _
            go_wp2_with fail
            go_meet
            exact ⟨rfl, b7, a, k, rfl, far6 (set8 B7 (.int .i64 100) (.bool false) (.bool false) (.bool false) (.bool false) (.bool false) (.bool false) (.slice a M.es.length k)) ne87 (.int .i64 (M.s 0)) (.int .i64 (M.d 0)) (.int .i64 (M.s 1)) (.int .i64 (M.d 1)) (.int .i64 (M.s 2)) (.int .i64 (M.d 2)), row6 (row8 hr.out QN7.out (.int .i64 100) (.bool false) (.bool false) (.bool false) (.bool false) (.bool false) (.bool false) (.slice a M.es.length k)) QN8.out (.int .i64 (M.s 0)) (.int .i64 (M.d 0)) (.int .i64 (M.s 1)) (.int .i64 (M.d 1)) (.int .i64 (M.s 2)) (.int .i64 (M.d 2)), by rw [← HW3.out]; exact ext6 (ext8 hS gb7 (.int .i64 100) (.bool false) (.bool false) (.bool false) (.bool false) (.bool false) (.bool false) (.slice a M.es.length k)) gb8 (.int .i64 (M.s 0)) (.int .i64 (M.d 0)) (.int .i64 (M.s 1)) (.int .i64 (M.d 1)) (.int .i64 (M.s 2)) (.int .i64 (M.d 2))⟩
          exact AllReadyB.nil
        exact AllReadyB.nil
      refine AllReadyB.cons rfl (fun K hK => ?_) ?_
      · skip
        go_simp
        refine hK.out _ _ (fun _ => hS.alloc _) ?_
        clear hK K
        (try simp only [Act.put, List.setIfInBounds_toArray, List.set_cons_zero, List.set_cons_succ])
        obtain ⟨v32, hV⟩ : ∃ V, V = v26.alloc (.cells #[.int .i64 0, .bool false, .bool false, .bool false, .bool false, .bool false, .bool false, .slice none 0 0] 52) := ⟨_, rfl⟩
        rw [← hV]
        have hxv32 : Ext v26 v32 := by rw [hV]; exact (Ext.refl _).alloc _
        have B7 : Blk v32 v26.heap.size [.int .i64 0, .bool false, .bool false, .bool false, .bool false, .bool false, .bool false, .slice none 0 0] := by rw [hV]; exact Blk.new _ _ _
        clear hV
        obtain ⟨b7, hb⟩ : ∃ b, b = v26.heap.size := ⟨_, rfl⟩
        rw [← hb] at B7 ⊢
        have gb7 : W3.heap.size ≤ b7 := by have := hS.size; omega
        have ne87 : b8 ≠ b7 := by have := B8.lt; omega
        have ne78 : b7 ≠ b8 := fun h => ne87 h.symm
        have B8 := B8.ext hxv32
        have hS := hS.trans hxv32
        clear hb
        refine wpAnyB_ready (rs := [0]) (by kernel_rfl) (by simp) ?_
        refine AllReadyB.cons rfl (fun K hK => ?_) ?_
        · skip
          go_simp
          refine (fresh_t _).mono ?_
          rintro e v33 ⟨rfl, hxv33⟩
          (try go_wp2_with fail)
          have hS := hS.trans hxv33
          have B8 := B8.ext hxv33
          have B7 := B7.ext hxv33
          refine hK.out _ _ (fun _ => hS) ?_
          clear hK K
          (try simp only [Act.put, List.setIfInBounds_toArray, List.set_cons_zero, List.set_cons_succ])
          refine wpAnyB_ready (rs := [2]) (by kernel_rfl) (by simp) ?_
          refine AllReadyB.cons rfl (fun K hK => ?_) ?_
          · skip
            go_simp
            refine (HR.out _).mono ?_
            rintro e v34 ⟨a, k, rfl, hrv34, hnv34, hxv34⟩
            (try go_wp2_with fail)
            have hS := hS.trans hxv34
            have QN8 : Hid (M.es ≠ [] → ∀ x, ab a = some x → x ≠ b8) := Lib.hid (fun _ x hx e => by have := hnv34 x hx; have := B8.lt; omega)
            have QN7 : Hid (M.es ≠ [] → ∀ x, ab a = some x → x ≠ b7) := Lib.hid (fun _ x hx e => by have := hnv34 x hx; have := B7.lt; omega)
            have B8 := B8.ext hxv34
            have B7 := B7.ext hxv34
            have hr := Lib.hid hrv34
            clear hrv34 hnv34
            refine hK.out _ _ (fun _ => hS) ?_
            clear hK K
            (try simp only [Act.put, List.setIfInBounds_toArray, List.set_cons_zero, List.set_cons_succ])
            refine wpAnyB_take0 (i := 3) (v := ?_) rfl (by kernel_rfl) (by kernel_rfl) (by kernel_rfl) (by kernel_rfl) (fun _ _ _ h => h) (Or.inl ⟨by rfl, ?_⟩) (fun _ => hS) ?_
            rotate_left
            · (intro V; go_simp; (try with_reducible rfl))
            (try simp only [Act.put, List.setIfInBounds_toArray, List.set_cons_zero, List.set_cons_succ])
            refine wpAnyB_take0 (i := 4) (v := ?_) rfl (by kernel_rfl) (by kernel_rfl) (by kernel_rfl) (by kernel_rfl) (fun _ _ _ h => h) (Or.inl ⟨by rfl, ?_⟩) (fun _ => hS) ?_
            rotate_left
            · (intro V; go_simp; (try with_reducible rfl))
            (try simp only [Act.put, List.setIfInBounds_toArray, List.set_cons_zero, List.set_cons_succ])
            refine wpAnyB_take0 (i := 5) (v := ?_) rfl (by kernel_rfl) (by kernel_rfl) (by kernel_rfl) (by kernel_rfl) (fun _ _ _ h => h) (Or.inl ⟨by rfl, ?_⟩) (fun _ => hS) ?_
            rotate_left
            · (intro V; go_simp; (try with_reducible rfl))
            (try simp only [Act.put, List.setIfInBounds_toArray, List.set_cons_zero, List.set_cons_succ])
            refine wpAnyB_take0 (i := 6) (v := ?_) rfl (by kernel_rfl) (by kernel_rfl) (by kernel_rfl) (by kernel_rfl) (fun _ _ _ h => h) (Or.inl ⟨by rfl, ?_⟩) (fun _ => hS) ?_
            rotate_left
            · (intro V; go_simp; (try with_reducible rfl))
            (try simp only [Act.put, List.setIfInBounds_toArray, List.set_cons_zero, List.set_cons_succ])
            have s8_0 := B8.at 0 _ rfl
            have s8_1 := B8.at 1 _ rfl
            have s8_2 := B8.at 2 _ rfl
            have s8_3 := B8.at 3 _ rfl
            have s8_4 := B8.at 4 _ rfl
            have s8_5 := B8.at 5 _ rfl
            have s8_l := B8.lt
            have s8_f := B8.fr
            have s7_0 := B7.at 0 _ rfl
            have s7_1 := B7.at 1 _ rfl
            have s7_2 := B7.at 2 _ rfl
            have s7_3 := B7.at 3 _ rfl
            have s7_4 := B7.at 4 _ rfl
            have s7_5 := B7.at 5 _ rfl
            have s7_6 := B7.at 6 _ rfl
            have s7_7 := B7.at 7 _ rfl
            have s7_l := B7.lt
            have s7_f := B7.fr
            refine wpAnyB_ready (rs := [9]) (by kernel_rfl) (by simp) ?_
            refine AllReadyB.cons rfl (fun K hK => ?_) AllReadyB.nil
            go_simp
            refine hK.out _ _ (fun h => absurd h (by decide)) ?_
            clear hK K
            (try simp only [Act.put, List.setIfInBounds_toArray, List.set_cons_zero, List.set_cons_succ])
            refine wpAnyB_ready (rs := [10]) (by kernel_rfl) (by simp) ?_
            refine AllReadyB.cons rfl (fun K hK => ?_) AllReadyB.nil
            go_simp
            refine hK.out _ _ (fun h => absurd h (by decide)) ?_
            clear hK K
            (try simp only [Act.put, List.setIfInBounds_toArray, List.set_cons_zero, List.set_cons_succ])
            refine wpAnyB_ready (rs := [11]) (by kernel_rfl) (by simp) ?_
            refine AllReadyB.cons rfl (fun K hK => ?_) AllReadyB.nil
            go_simp
            refine hK.out _ _ (fun h => absurd h (by decide)) ?_
            clear hK K
            (try simp only [Act.put, List.setIfInBounds_toArray, List.set_cons_zero, List.set_cons_succ])
            refine wpAnyB_done (by kernel_rfl) ?_ _
            go_wp2_with fail
            go_meet
            exact ⟨rfl, b7, a, k, rfl, far6 (set8 B7 (.int .i64 100) (.bool false) (.bool false) (.bool false) (.bool false) (.bool false) (.bool false) (.slice a M.es.length k)) ne87 (.int .i64 (M.s 0)) (.int .i64 (M.d 0)) (.int .i64 (M.s 1)) (.int .i64 (M.d 1)) (.int .i64 (M.s 2)) (.int .i64 (M.d 2)), row6 (row8 hr.out QN7.out (.int .i64 100) (.bool false) (.bool false) (.bool false) (.bool false) (.bool false) (.bool false) (.slice a M.es.length k)) QN8.out (.int .i64 (M.s 0)) (.int .i64 (M.d 0)) (.int .i64 (M.s 1)) (.int .i64 (M.d 1)) (.int .i64 (M.s 2)) (.int .i64 (M.d 2)), by rw [← HW3.out]; exact ext6 (ext8 hS gb7 (.int .i64 100) (.bool false) (.bool false) (.bool false) (.bool false) (.bool false) (.bool false) (.slice a M.es.length k)) gb8 (.int .i64 (M.s 0)) (.int .i64 (M.d 0)) (.int .i64 (M.s 1)) (.int .i64 (M.d 1)) (.int .i64 (M.s 2)) (.int .i64 (M.d 2))⟩
          exact AllReadyB.nil
        exact AllReadyB.nil
      exact AllReadyB.nil
    exact AllReadyB.nil
  case rest =>
    obtain ⟨rfl, b5, a, k, rfl, G5, R5, E5⟩ := hcut
    have P3 := P3.ext E5
    have B1 := B1.ext E5
    have E5 := E3.trans E5
    clear E3 c0 c1 c2 c3 c4 c5 P3l P3f
    have c0 := G5.at 0 _ rfl
    have c1 := G5.at 1 _ rfl
    have c2 := G5.at 2 _ rfl
    have c3 := G5.at 3 _ rfl
    have c4 := G5.at 4 _ rfl
    have c5 := G5.at 5 _ rfl
    have c6 := G5.at 6 _ rfl
    have c7 := G5.at 7 _ rfl
    have cl := G5.lt
    have cf := G5.fr
    have HP3 := Lib.hid P3
    have HB1 := Lib.hid B1
    have HE5 := Lib.hid E5
    clear P3 B1 E5
    go_upto_region 4 with fail
    go_cut [8, 10] (fun p8 p10 wx => p8 = .bool true ∧ p10 = .nilIface ∧ Ext wc wx)
    case first =>
      obtain ⟨W4, hW4⟩ : ∃ W, W = wc := ⟨_, rfl⟩
      subst hW4
      have HL := Lib.hid G5.lt
      have HC0 := Lib.hid c0
      have HC1 := Lib.hid c1
      have HC2 := Lib.hid c2
      have HC3 := Lib.hid c3
      have HC4 := Lib.hid c4
      have HC5 := Lib.hid c5
      have HC6 := Lib.hid c6
      have HC7 := Lib.hid c7
      have HR4 := Lib.hid R5
      clear G5 R5 cl cf c0 c1 c2 c3 c4 c5 c6 c7
      refine wp_region_B (fun V => Ext W4 V) [8, 9] (by kernel_rfl) ?_
      have hS : Ext W4 W4.drew := (Ext.refl _).drew
      generalize W4.drew = v0 at hS ⊢
      refine wpAnyB_take (i := 1) (v := ?_) rfl (by kernel_rfl) (by kernel_rfl) (by kernel_rfl) (by kernel_rfl) (by kernel_rfl) (by kernel_rfl) (fun _ _ _ h => h) (Or.inl ⟨by rfl, ?_⟩) hS ?_
      rotate_left
      · (intro V hV; have e0 := (hV.cell HL.out).trans HC0.out; have e1 := (hV.cell HL.out).trans HC1.out; have e2 := (hV.cell HL.out).trans HC2.out; have e3 := (hV.cell HL.out).trans HC3.out; have e4 := (hV.cell HL.out).trans HC4.out; have e5 := (hV.cell HL.out).trans HC5.out; have e6 := (hV.cell HL.out).trans HC6.out; have e7 := (hV.cell HL.out).trans HC7.out; go_simp; (try with_reducible rfl))
      (try simp only [Act.put, List.setIfInBounds_toArray, List.set_cons_zero, List.set_cons_succ])
      refine wpAnyB_ready (rs := [0, 7]) (by kernel_rfl) (by simp) ?_
      refine AllReadyB.cons rfl (fun K hK => ?_) ?_
      · skip
        go_simp
        refine (fresh_t _).mono ?_
        rintro e v1 ⟨rfl, hxv1⟩
        (try go_wp2_with fail)
        have hS := hS.trans hxv1
        refine hK.out _ _ (fun _ => hS) ?_
        clear hK K
        (try simp only [Act.put, List.setIfInBounds_toArray, List.set_cons_zero, List.set_cons_succ])
        refine wpAnyB_ready (rs := [2, 7]) (by kernel_rfl) (by simp) ?_
        refine AllReadyB.cons rfl (fun K hK => ?_) ?_
        · skip
          go_simp
          refine (HS.out _ _ _ (HR4.out.ext hS)).mono ?_
          rintro e v2 ⟨rfl, hxv2⟩
          (try go_wp2_with fail)
          have hS := hS.trans hxv2
          refine hK.out _ _ (fun _ => hS) ?_
          clear hK K
          (try simp only [Act.put, List.setIfInBounds_toArray, List.set_cons_zero, List.set_cons_succ])
          refine wpAnyB_take0 (i := 3) (v := ?_) rfl (by kernel_rfl) (by kernel_rfl) (by kernel_rfl) (by kernel_rfl) (fun _ _ _ h => h) (Or.inl ⟨by rfl, ?_⟩) (fun _ => hS) ?_
          rotate_left
          · (intro V; go_simp; (try with_reducible rfl))
          (try simp only [Act.put, List.setIfInBounds_toArray, List.set_cons_zero, List.set_cons_succ])
          refine wpAnyB_take0 (i := 4) (v := ?_) rfl (by kernel_rfl) (by kernel_rfl) (by kernel_rfl) (by kernel_rfl) (fun _ _ _ h => h) (Or.inl ⟨by rfl, ?_⟩) (fun _ => hS) ?_
          rotate_left
          · (intro V; go_simp; (try with_reducible rfl))
          (try simp only [Act.put, List.setIfInBounds_toArray, List.set_cons_zero, List.set_cons_succ])
          refine wpAnyB_take0 (i := 5) (v := ?_) rfl (by kernel_rfl) (by kernel_rfl) (by kernel_rfl) (by kernel_rfl) (fun _ _ _ h => h) (Or.inl ⟨by rfl, ?_⟩) (fun _ => hS) ?_
          rotate_left
          · (intro V; go_simp; (try with_reducible rfl))
          (try simp only [Act.put, List.setIfInBounds_toArray, List.set_cons_zero, List.set_cons_succ])
          refine wpAnyB_take0 (i := 6) (v := ?_) rfl (by kernel_rfl) (by kernel_rfl) (by kernel_rfl) (by kernel_rfl) (fun _ _ _ h => h) (Or.inl ⟨by rfl, ?_⟩) (fun _ => hS) ?_
          rotate_left
          · (intro V; go_simp; (try with_reducible rfl))
          (try simp only [Act.put, List.setIfInBounds_toArray, List.set_cons_zero, List.set_cons_succ])
          refine wpAnyB_ready (rs := [7]) (by kernel_rfl) (by simp) ?_
          refine AllReadyB.cons rfl (fun K hK => ?_) ?_
          · skip
            go_simp
            refine hK.out _ _ (fun _ => hS.alloc _) ?_
            clear hK K
            (try simp only [Act.put, List.setIfInBounds_toArray, List.set_cons_zero, List.set_cons_succ])
            obtain ⟨v3, hV⟩ : ∃ V, V = v2.alloc (.cells #[.int .i64 0, .int .i64 0, .int .i64 0, .int .i64 0, .int .i64 0, .int .i64 0] 29) := ⟨_, rfl⟩
            rw [← hV]
            have hxv3 : Ext v2 v3 := by rw [hV]; exact (Ext.refl _).alloc _
            have B7 : Blk v3 v2.heap.size [.int .i64 0, .int .i64 0, .int .i64 0, .int .i64 0, .int .i64 0, .int .i64 0] := by rw [hV]; exact Blk.new _ _ _
            clear hV
            obtain ⟨b7, hb⟩ : ∃ b, b = v2.heap.size := ⟨_, rfl⟩
            rw [← hb] at B7 ⊢
            have gb7 : W4.heap.size ≤ b7 := by have := hS.size; omega
            have hS := hS.trans hxv3
            clear hb
            have s7_0 := B7.at 0 _ rfl
            have s7_1 := B7.at 1 _ rfl
            have s7_2 := B7.at 2 _ rfl
            have s7_3 := B7.at 3 _ rfl
            have s7_4 := B7.at 4 _ rfl
            have s7_5 := B7.at 5 _ rfl
            have s7_l := B7.lt
            have s7_f := B7.fr
            refine wpAnyB_ready (rs := [8]) (by kernel_rfl) (by simp) ?_
            refine AllReadyB.cons rfl (fun K hK => ?_) AllReadyB.nil
            go_simp
            refine hK.out _ _ (fun h => absurd h (by decide)) ?_
            clear hK K
            (try simp only [Act.put, List.setIfInBounds_toArray, List.set_cons_zero, List.set_cons_succ])
            refine wpAnyB_ready (rs := [9]) (by kernel_rfl) (by simp) ?_
            refine AllReadyB.cons rfl (fun K hK => ?_) AllReadyB.nil
            go_simp
            refine hK.out _ _ (fun h => absurd h (by decide)) ?_
            clear hK K
            (try simp only [Act.put, List.setIfInBounds_toArray, List.set_cons_zero, List.set_cons_succ])
            refine wpAnyB_ready (rs := [10]) (by kernel_rfl) (by simp) ?_
            refine AllReadyB.cons rfl (fun K hK => ?_) AllReadyB.nil
            go_simp
            refine hK.out _ _ (fun h => absurd h (by decide)) ?_
            clear hK K
            (try simp only [Act.put, List.setIfInBounds_toArray, List.set_cons_zero, List.set_cons_succ])
            refine wpAnyB_done (by kernel_rfl) ?_ _
            go_wp2_with fail
            go_meet
            exact ⟨rfl, rfl, ext6 hS gb7 (.int .i64 (M.s 0)) (.int .i64 (M.d 0)) (.int .i64 (M.s 1)) (.int .i64 (M.d 1)) (.int .i64 (M.s 2)) (.int .i64 (M.d 2))⟩
          exact AllReadyB.nil
        refine AllReadyB.cons rfl (fun K hK => ?_) ?_
        · skip
          go_simp
          refine hK.out _ _ (fun _ => hS.alloc _) ?_
          clear hK K
          (try simp only [Act.put, List.setIfInBounds_toArray, List.set_cons_zero, List.set_cons_succ])
          obtain ⟨v4, hV⟩ : ∃ V, V = v1.alloc (.cells #[.int .i64 0, .int .i64 0, .int .i64 0, .int .i64 0, .int .i64 0, .int .i64 0] 29) := ⟨_, rfl⟩
          rw [← hV]
          have hxv4 : Ext v1 v4 := by rw [hV]; exact (Ext.refl _).alloc _
          have B7 : Blk v4 v1.heap.size [.int .i64 0, .int .i64 0, .int .i64 0, .int .i64 0, .int .i64 0, .int .i64 0] := by rw [hV]; exact Blk.new _ _ _
          clear hV
          obtain ⟨b7, hb⟩ : ∃ b, b = v1.heap.size := ⟨_, rfl⟩
          rw [← hb] at B7 ⊢
          have gb7 : W4.heap.size ≤ b7 := by have := hS.size; omega
          have hS := hS.trans hxv4
          clear hb
          refine wpAnyB_ready (rs := [2]) (by kernel_rfl) (by simp) ?_
          refine AllReadyB.cons rfl (fun K hK => ?_) ?_
          · skip
            go_simp
            refine (HS.out _ _ _ (HR4.out.ext hS)).mono ?_
            rintro e v5 ⟨rfl, hxv5⟩
            (try go_wp2_with fail)
            have hS := hS.trans hxv5
            have B7 := B7.ext hxv5
            refine hK.out _ _ (fun _ => hS) ?_
            clear hK K
            (try simp only [Act.put, List.setIfInBounds_toArray, List.set_cons_zero, List.set_cons_succ])
            refine wpAnyB_take0 (i := 3) (v := ?_) rfl (by kernel_rfl) (by kernel_rfl) (by kernel_rfl) (by kernel_rfl) (fun _ _ _ h => h) (Or.inl ⟨by rfl, ?_⟩) (fun _ => hS) ?_
            rotate_left
            · (intro V; go_simp; (try with_reducible rfl))
            (try simp only [Act.put, List.setIfInBounds_toArray, List.set_cons_zero, List.set_cons_succ])
            refine wpAnyB_take0 (i := 4) (v := ?_) rfl (by kernel_rfl) (by kernel_rfl) (by kernel_rfl) (by kernel_rfl) (fun _ _ _ h => h) (Or.inl ⟨by rfl, ?_⟩) (fun _ => hS) ?_
            rotate_left
            · (intro V; go_simp; (try with_reducible rfl))
            (try simp only [Act.put, List.setIfInBounds_toArray, List.set_cons_zero, List.set_cons_succ])
            refine wpAnyB_take0 (i := 5) (v := ?_) rfl (by kernel_rfl) (by kernel_rfl) (by kernel_rfl) (by kernel_rfl) (fun _ _ _ h => h) (Or.inl ⟨by rfl, ?_⟩) (fun _ => hS) ?_
            rotate_left
            · (intro V; go_simp; (try with_reducible rfl))
            (try simp only [Act.put, List.setIfInBounds_toArray, List.set_cons_zero, List.set_cons_succ])
            refine wpAnyB_take0 (i := 6) (v := ?_) rfl (by kernel_rfl) (by kernel_rfl) (by kernel_rfl) (by kernel_rfl) (fun _ _ _ h => h) (Or.inl ⟨by rfl, ?_⟩) (fun _ => hS) ?_
            rotate_left
            · (intro V; go_simp; (try with_reducible rfl))
            (try simp only [Act.put, List.setIfInBounds_toArray, List.set_cons_zero, List.set_cons_succ])
            have s7_0 := B7.at 0 _ rfl
            have s7_1 := B7.at 1 _ rfl
            have s7_2 := B7.at 2 _ rfl
            have s7_3 := B7.at 3 _ rfl
            have s7_4 := B7.at 4 _ rfl
            have s7_5 := B7.at 5 _ rfl
            have s7_l := B7.lt
            have s7_f := B7.fr
            refine wpAnyB_ready (rs := [8]) (by kernel_rfl) (by simp) ?_
            refine AllReadyB.cons rfl (fun K hK => ?_) AllReadyB.nil
            go_simp
            refine hK.out _ _ (fun h => absurd h (by decide)) ?_
            clear hK K
            (try simp only [Act.put, List.setIfInBounds_toArray, List.set_cons_zero, List.set_cons_succ])
            refine wpAnyB_ready (rs := [9]) (by kernel_rfl) (by simp) ?_
            refine AllReadyB.cons rfl (fun K hK => ?_) AllReadyB.nil
            go_simp
            refine hK.out _ _ (fun h => absurd h (by decide)) ?_
            clear hK K
            (try simp only [Act.put, List.setIfInBounds_toArray, List.set_cons_zero, List.set_cons_succ])
            refine wpAnyB_ready (rs := [10]) (by kernel_rfl) (by simp) ?_
            refine AllReadyB.cons rfl (fun K hK => ?_) AllReadyB.nil
            go_simp
            refine hK.out _ _ (fun h => absurd h (by decide)) ?_
            clear hK K
            (try simp only [Act.put, List.setIfInBounds_toArray, List.set_cons_zero, List.set_cons_succ])
            refine wpAnyB_done (by kernel_rfl) ?_ _
            go_wp2_with fail
            go_meet
            exact ⟨rfl, rfl, ext6 hS gb7 (.int .i64 (M.s 0)) (.int .i64 (M.d 0)) (.int .i64 (M.s 1)) (.int .i64 (M.d 1)) (.int .i64 (M.s 2)) (.int .i64 (M.d 2))⟩
          exact AllReadyB.nil
        exact AllReadyB.nil
      refine AllReadyB.cons rfl (fun K hK => ?_) ?_
      · skip
        go_simp
        refine hK.out _ _ (fun _ => hS.alloc _) ?_
        clear hK K
        (try simp only [Act.put, List.setIfInBounds_toArray, List.set_cons_zero, List.set_cons_succ])
        obtain ⟨v6, hV⟩ : ∃ V, V = v0.alloc (.cells #[.int .i64 0, .int .i64 0, .int .i64 0, .int .i64 0, .int .i64 0, .int .i64 0] 29) := ⟨_, rfl⟩
        rw [← hV]
        have hxv6 : Ext v0 v6 := by rw [hV]; exact (Ext.refl _).alloc _
        have B7 : Blk v6 v0.heap.size [.int .i64 0, .int .i64 0, .int .i64 0, .int .i64 0, .int .i64 0, .int .i64 0] := by rw [hV]; exact Blk.new _ _ _
        clear hV
        obtain ⟨b7, hb⟩ : ∃ b, b = v0.heap.size := ⟨_, rfl⟩
        rw [← hb] at B7 ⊢
        have gb7 : W4.heap.size ≤ b7 := by have := hS.size; omega
        have hS := hS.trans hxv6
        clear hb
        refine wpAnyB_ready (rs := [0]) (by kernel_rfl) (by simp) ?_
        refine AllReadyB.cons rfl (fun K hK => ?_) ?_
        · skip
          go_simp
          refine (fresh_t _).mono ?_
          rintro e v7 ⟨rfl, hxv7⟩
          (try go_wp2_with fail)
          have hS := hS.trans hxv7
          have B7 := B7.ext hxv7
          refine hK.out _ _ (fun _ => hS) ?_
          clear hK K
          (try simp only [Act.put, List.setIfInBounds_toArray, List.set_cons_zero, List.set_cons_succ])
          refine wpAnyB_ready (rs := [2]) (by kernel_rfl) (by simp) ?_
          refine AllReadyB.cons rfl (fun K hK => ?_) ?_
          · skip
            go_simp
            refine (HS.out _ _ _ (HR4.out.ext hS)).mono ?_
            rintro e v8 ⟨rfl, hxv8⟩
            (try go_wp2_with fail)
            have hS := hS.trans hxv8
            have B7 := B7.ext hxv8
            refine hK.out _ _ (fun _ => hS) ?_
            clear hK K
            (try simp only [Act.put, List.setIfInBounds_toArray, List.set_cons_zero, List.set_cons_succ])
            refine wpAnyB_take0 (i := 3) (v := ?_) rfl (by kernel_rfl) (by kernel_rfl) (by kernel_rfl) (by kernel_rfl) (fun _ _ _ h => h) (Or.inl ⟨by rfl, ?_⟩) (fun _ => hS) ?_
            rotate_left
            · (intro V; go_simp; (try with_reducible rfl))
            (try simp only [Act.put, List.setIfInBounds_toArray, List.set_cons_zero, List.set_cons_succ])
            refine wpAnyB_take0 (i := 4) (v := ?_) rfl (by kernel_rfl) (by kernel_rfl) (by kernel_rfl) (by kernel_rfl) (fun _ _ _ h => h) (Or.inl ⟨by rfl, ?_⟩) (fun _ => hS) ?_
            rotate_left
            · (intro V; go_simp; (try with_reducible rfl))
            (try simp only [Act.put, List.setIfInBounds_toArray, List.set_cons_zero, List.set_cons_succ])
            refine wpAnyB_take0 (i := 5) (v := ?_) rfl (by kernel_rfl) (by kernel_rfl) (by kernel_rfl) (by kernel_rfl) (fun _ _ _ h => h) (Or.inl ⟨by rfl, ?_⟩) (fun _ => hS) ?_
            rotate_left
            · (intro V; go_simp; (try with_reducible rfl))
            (try simp only [Act.put, List.setIfInBounds_toArray, List.set_cons_zero, List.set_cons_succ])
            refine wpAnyB_take0 (i := 6) (v := ?_) rfl (by kernel_rfl) (by kernel_rfl) (by kernel_rfl) (by kernel_rfl) (fun _ _ _ h => h) (Or.inl ⟨by rfl, ?_⟩) (fun _ => hS) ?_
            rotate_left
            · (intro V; go_simp; (try with_reducible rfl))
            (try simp only [Act.put, List.setIfInBounds_toArray, List.set_cons_zero, List.set_cons_succ])
            have s7_0 := B7.at 0 _ rfl
            have s7_1 := B7.at 1 _ rfl
            have s7_2 := B7.at 2 _ rfl
            have s7_3 := B7.at 3 _ rfl
            have s7_4 := B7.at 4 _ rfl
            have s7_5 := B7.at 5 _ rfl
            have s7_l := B7.lt
            have s7_f := B7.fr
            refine wpAnyB_ready (rs := [8]) (by kernel_rfl) (by simp) ?_
            refine AllReadyB.cons rfl (fun K hK => ?_) AllReadyB.nil
            go_simp
            refine hK.out _ _ (fun h => absurd h (by decide)) ?_
            clear hK K
            (try simp only [Act.put, List.setIfInBounds_toArray, List.set_cons_zero, List.set_cons_succ])
            refine wpAnyB_ready (rs := [9]) (by kernel_rfl) (by simp) ?_
            refine AllReadyB.cons rfl (fun K hK => ?_) AllReadyB.nil
            go_simp
            refine hK.out _ _ (fun h => absurd h (by decide)) ?_
            clear hK K
            (try simp only [Act.put, List.setIfInBounds_toArray, List.set_cons_zero, List.set_cons_succ])
            refine wpAnyB_ready (rs := [10]) (by kernel_rfl) (by simp) ?_
            refine AllReadyB.cons rfl (fun K hK => ?_) AllReadyB.nil
            go_simp
            refine hK.out _ _ (fun h => absurd h (by decide)) ?_
            clear hK K
            (try simp only [Act.put, List.setIfInBounds_toArray, List.set_cons_zero, List.set_cons_succ])
            refine wpAnyB_done (by kernel_rfl) ?_ _
            go_wp2_with fail
            go_meet
            exact ⟨rfl, rfl, ext6 hS gb7 (.int .i64 (M.s 0)) (.int .i64 (M.d 0)) (.int .i64 (M.s 1)) (.int .i64 (M.d 1)) (.int .i64 (M.s 2)) (.int .i64 (M.d 2))⟩
          exact AllReadyB.nil
        exact AllReadyB.nil
      exact AllReadyB.nil
    case rest =>
      obtain ⟨rfl, rfl, E6⟩ := hcut
      have B1 := HB1.out.ext E6
      have P3 := HP3.out.ext E6
      clear G5 R5 cl cf c0 c1 c2 c3 c4 c5 c6 c7
      have o0 := B1.at 0 _ rfl
      have o1 := B1.at 1 _ rfl
      have o2 := B1.at 2 _ rfl
      have o3 := B1.at 3 _ rfl
      have ol := B1.lt
      have of := B1.fr
      have c0 := P3.at 0 _ rfl
      have c1 := P3.at 1 _ rfl
      have c2 := P3.at 2 _ rfl
      have c3 := P3.at 3 _ rfl
      have c4 := P3.at 4 _ rfl
      have c5 := P3.at 5 _ rfl
      have cl := P3.lt
      have cf := P3.fr
      have q1 : ∀ w, (binOp .eql 38 (.agg #[.int .i64 50, .int .i64 50, .int .i64 50]) (.agg #[.int .i64 50, .int .i64 50, .int .i64 50])).run Try.prog w = .ok (.bool true) w := fun _ => by kernel_rfl
      have q2 : ∀ w, (binOp .eql 44 (.agg #[.int .i64 25, .int .i64 75]) (.agg #[.int .i64 25, .int .i64 75])).run Try.prog w = .ok (.bool true) w := fun _ => by kernel_rfl
      go_wp2_with fail
      go_ret
      exact ⟨(by first | rfl | exact ret_true (by simp <;> omega)), HE5.out.trans (by repeat (first | with_reducible exact Ext.refl _ | with_reducible assumption | (with_reducible refine Ext.drew ?_) | (with_reducible refine Ext.drewN ?_ _) | (with_reducible refine Ext.alloc ?_ _) | (with_reducible refine Ext.setCell ?_ ?_ _) | (with_reducible refine Ext.trans ?_ (by with_reducible assumption)) | omega | (focus (simp <;> omega))))⟩

end Go.Proofs.Ytfignlcplkihpaa
