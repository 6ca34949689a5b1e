/- The contracts of the reference's Odd.
   Conditions: the bounds that each names. -/
import Derived.Test.YtbeolonbboibfaaOdd
import Derived.Test.YtbeolonbboibfaaRefCurveCheck
namespace Go.Proofs.Ytbeolonbboibfaa
open Go.ChangeShapes Go.WideShapes Go.ChangeAt Go.RowKit

theorem rodd_ret {W : World} {n : Nat} {u0 u1 e : Value} {tmps : Array Value} (Z : Blk W n [u0, u1]) (h : tmps[4]? = some (.pointer (some ⟨n, 0, none⟩))) (h9 : tmps[5]? = some e) :
    (results Try.f28 tmps).run Try.prog W = .ok (.tuple #[.agg #[u0, u1], e]) W := by
  have z0 := Z.at 0 _ rfl
  have z1 := Z.at 1 _ rfl
  simp [results, Try.results28, go_sem, z0, z1, h, h9]
set_option linter.unusedSimpArgs false in
set_option maxRecDepth 100000 in
set_option maxHeartbeats 1000000 in
theorem rodd_len (a b : Option Addr) (k l : Nat) (n m : Nat) (h : n ≠ m) (w : World) :
    Calls Try.prog 28 #[.slice a n k, .slice b m l] w fun e w' => e = .returned (.tuple #[.agg #[.slice none 0 0, .slice none 0 0], .int .i64 11]) ∧ Ext w w' := by
  have E0 : Ext w (w.alloc (.cells #[.slice none 0 0, .slice none 0 0] 24)) := (Ext.refl w).alloc _
  have Z0 := Blk.new w [.slice none 0 0, .slice none 0 0] 24
  have z0 := Z0.at 0 _ rfl
  have z1 := Z0.at 1 _ rfl
  have zl := Z0.lt
  have zf := Z0.fr
  have HZ := Lib.hid Z0
  have HE := Lib.hid E0
  clear Z0 E0
  have h1 : ¬ (n : Int) = (m : Int) := by omega
  go_enter Try.func28, Try.ntmps28
  go_wp2_with fail
  exact bodyPost_ret (rodd_ret (n := w.heap.size) HZ.out rfl rfl) rfl ⟨rfl, HE.out⟩
set_option linter.unusedSimpArgs false in
set_option maxRecDepth 100000 in
set_option maxHeartbeats 1000000 in
theorem rodd_nil (a b : Option Addr) (k l : Nat)  (w : World) :
    Calls Try.prog 28 #[.slice a 0 k, .slice b 0 l] w fun e w' => e = .returned (.tuple #[.agg #[.slice none 0 0, .slice none 0 0], .int .i64 11]) ∧ Ext w w' := by
  have E0 : Ext w (w.alloc (.cells #[.slice none 0 0, .slice none 0 0] 24)) := (Ext.refl w).alloc _
  have Z0 := Blk.new w [.slice none 0 0, .slice none 0 0] 24
  have z0 := Z0.at 0 _ rfl
  have z1 := Z0.at 1 _ rfl
  have zl := Z0.lt
  have zf := Z0.fr
  have HZ := Lib.hid Z0
  have HE := Lib.hid E0
  clear Z0 E0
  go_enter Try.func28, Try.ntmps28
  go_wp2_with fail
  exact bodyPost_ret (rodd_ret (n := w.heap.size) HZ.out rfl rfl) rfl ⟨rfl, HE.out⟩
set_option linter.unusedSimpArgs false in
set_option maxRecDepth 100000 in
set_option maxHeartbeats 1000000 in
theorem rodd_large (a b : Option Addr) (k l : Nat) (n : Nat) (h : 15 < n) (w : World) :
    Calls Try.prog 28 #[.slice a n k, .slice b n l] w fun e w' => e = .returned (.tuple #[.agg #[.slice none 0 0, .slice none 0 0], .int .i64 4]) ∧ Ext w w' := by
  have E0 : Ext w (w.alloc (.cells #[.slice none 0 0, .slice none 0 0] 24)) := (Ext.refl w).alloc _
  have Z0 := Blk.new w [.slice none 0 0, .slice none 0 0] 24
  have z0 := Z0.at 0 _ rfl
  have z1 := Z0.at 1 _ rfl
  have zl := Z0.lt
  have zf := Z0.fr
  have HZ := Lib.hid Z0
  have HE := Lib.hid E0
  clear Z0 E0
  have h1 : (15 : Int) < (n : Int) := by omega
  have h2 : ¬ (n : Int) = 0 := by omega
  go_enter Try.func28, Try.ntmps28
  go_wp2_with fail
  exact bodyPost_ret (rodd_ret (n := w.heap.size) HZ.out rfl rfl) rfl ⟨rfl, HE.out⟩
set_option linter.unusedSimpArgs false in
set_option maxRecDepth 100000 in
set_option maxHeartbeats 1000000 in
theorem rodd_form (a b : Option Addr) (k l n : Nat) (z1 z2 : Nat → Int) (w : World) (n0 : 0 < n) (n15 : n ≤ 15) (J : Nat) (hJ : J < n) (hg : ∀ j, J < j → j < n → PtIn (z1 j) (z2 j)) (hb : z1 J ≤ 0 ∨ z2 J < 0) (hi1 : ∀ j, j < n → I64 (z1 j)) (hi2 : ∀ j, j < n → I64 (z2 j)) (hx : Row w a n z1) (hy : Row w b n z2) :
    Calls Try.prog 28 #[.slice a n k, .slice b n l] w fun e w' => e = .returned (.tuple #[.agg #[.slice none 0 0, .slice none 0 0], .int .i64 2]) ∧ Ext w w' := by
  obtain ⟨bx, ox, rfl, hbx, hcx⟩ := hx n0
  obtain ⟨bY, oY, rfl, hby, hcy⟩ := hy n0
  have E0 : Ext w (w.alloc (.cells #[.slice none 0 0, .slice none 0 0] 24)) := (Ext.refl w).alloc _
  have Z0 := Blk.new w [.slice none 0 0, .slice none 0 0] 24
  have T0 := Two.start (w.alloc (.cells #[.slice none 0 0, .slice none 0 0] 24)) (.slice none 0 0) (.slice none 0 0) 24 (Pl.mir n z1) (Pl.mir n z2)
  have hsz : (w.alloc (.cells #[.slice none 0 0, .slice none 0 0] 24)).heap.size = w.heap.size + 1 := by simp
  rw [hsz] at T0
  have HT := Lib.hid T0
  have HZ0 := Lib.hid Z0
  have HE := Lib.hid E0
  have HX := Lib.hid hcx
  have HY := Lib.hid hcy
  have m0 : (1 : Int) ≤ (n : Int) := by omega
  have m00 : ((n : Int) == 0) = false := by simp; omega
  have m15 : (n : Int) ≤ 15 := by omega
  have wn : IntKind.i64.wrap ((n : Int) - 1) = (n : Int) - 1 := IntWalk.i64_in _ (by omega)
  have z0 := Z0.at 0 _ rfl
  have z1' := Z0.at 1 _ rfl
  have zl := Z0.lt
  have zf := Z0.fr
  clear hx hy hcx hcy hsz E0 Z0 T0
  have HG := Lib.hid hg
  have HB := Lib.hid hb
  have HI1 := Lib.hid hi1
  have HI2 := Lib.hid hi2
  clear hg hb hi1 hi2
  go_enter Try.func28, Try.ntmps28
  go_wp2_with fail
  go_loopw [7] (fun i wr => ∃ (p : Nat) (v : Int) (a1 : Option Addr) (k1 : Nat) (a2 : Option Addr) (k2 : Nat), p ≤ (n - 1 - J) ∧ i = .int .i64 v ∧ DownAt n p v ∧ Two (w.alloc (.cells #[.slice none 0 0, .slice none 0 0] 24)) wr (w.heap.size + 1) ((w.heap.size + 1) + 1) [.slice a1 p k1, .slice a2 p k2] a1 p k1 (Pl.mir n z1) a2 p k2 (Pl.mir n z2)) (fun i _ => (intOf i + 1).toNat)
  case atStart => exact ⟨0, (n : Int) - 1, none, 0, none, 0, by omega, rfl, by unfold DownAt; omega, HT.out⟩
  case round =>
    obtain ⟨p, v, a1, k1, a2, k2, hp', rfl, hv, T⟩ := hrel
    unfold DownAt at hv
    by_cases hp : p < (n - 1 - J)
    · skip
      obtain ⟨q, hq⟩ : ∃ q : Nat, q + p + 1 = n := ⟨n - 1 - p, by omega⟩
      obtain rfl : v = (q : Int) := by omega
      clear hv
      have cx := ((HE.out.trans T.ext).cell hbx).trans (HX.out q (by omega))
      have cy := ((HE.out.trans T.ext).cell hby).trans (HY.out q (by omega))
      have ⟨g1, g2⟩ := HG.out q (by omega) (by omega)
      have i1 : z1 q ≤ 9223372036854775807 := (I64_le (HI1.out q (by omega)))
      have i2 : z2 q ≤ 9223372036854775807 := (I64_le (HI2.out q (by omega)))
      have q0 : (0 : Int) ≤ (q : Int) := by omega
      have qn : (q : Int) < (n : Int) := by omega
      have qn' : q < n := by omega
      have wq : IntKind.i64.wrap ((q : Int) - 1) = (q : Int) - 1 := IntWalk.i64_in _ (by omega)
      obtain ⟨x, hxx⟩ : ∃ x, x = z1 q := ⟨_, rfl⟩
      obtain ⟨y, hyy⟩ : ∃ y, y = z2 q := ⟨_, rfl⟩
      rw [← hxx] at cx g1 i1
      rw [← hyy] at cy g2 i2
      have HXX := Lib.hid hxx
      have HYY := Lib.hid hyy
      clear hxx hyy
      have wx : IntKind.i64.wrap (-x) = -x := IntWalk.i64_in _ (by omega)
      have wy : IntKind.i64.wrap (-y) = -y := IntWalk.i64_in _ (by omega)
      go_upto_region 11 with fail
      refine wp_region_B (fun V => Ext (w.alloc (.cells #[.slice none 0 0, .slice none 0 0] 24)) V ∧ Blk V (w.heap.size + 1) [.slice a1 p k1, .slice a2 p k2]) [19, 21] (by kernel_rfl) ?_
      have T := T.drew
      have hS := And.intro T.ext T.blk
      refine wpAnyB_take0 (i := 0) (v := ?_) rfl (by kernel_rfl) (by kernel_rfl) (by kernel_rfl) (by kernel_rfl) (fun _ _ _ h => h) (Or.inl ⟨by rfl, ?_⟩) (fun _ => hS) ?_
      rotate_left
      · (intro V; go_simp; (try with_reducible rfl))
      (try simp only [Act.put, List.setIfInBounds_toArray, List.set_cons_zero, List.set_cons_succ])
      refine wpAnyB_take (i := 1) (v := ?_) rfl (by kernel_rfl) (by kernel_rfl) (by kernel_rfl) (by kernel_rfl) (by kernel_rfl) (by kernel_rfl) (fun _ _ _ h => h) (Or.inl ⟨by rfl, ?_⟩) hS ?_
      rotate_left
      · (intro V hV; obtain ⟨hE, hB⟩ := hV; have c0 := hB.at 0 _ rfl; have c1 := hB.at 1 _ rfl; have c2 := ((HE.out.trans hE).cell hbx).trans (HX.out q (by omega)); rw [← HXX.out] at c2; have c3 := ((HE.out.trans hE).cell hby).trans (HY.out q (by omega)); rw [← HYY.out] at c3; go_simp; (try with_reducible rfl))
      (try simp only [Act.put, List.setIfInBounds_toArray, List.set_cons_zero, List.set_cons_succ])
      refine wpAnyB_take0 (i := 2) (v := ?_) rfl (by kernel_rfl) (by kernel_rfl) (by kernel_rfl) (by kernel_rfl) (fun _ _ _ h => h) (Or.inl ⟨by rfl, ?_⟩) (fun _ => hS) ?_
      rotate_left
      · (intro V; go_simp; (try with_reducible rfl))
      (try simp only [Act.put, List.setIfInBounds_toArray, List.set_cons_zero, List.set_cons_succ])
      refine wpAnyB_take0 (i := 3) (v := ?_) rfl (by kernel_rfl) (by kernel_rfl) (by kernel_rfl) (by kernel_rfl) (fun _ _ _ h => h) (Or.inl ⟨by rfl, ?_⟩) (fun _ => hS) ?_
      rotate_left
      · (intro V; go_simp; (try with_reducible rfl))
      (try simp only [Act.put, List.setIfInBounds_toArray, List.set_cons_zero, List.set_cons_succ])
      refine wpAnyB_take0 (i := 4) (v := ?_) rfl (by kernel_rfl) (by kernel_rfl) (by kernel_rfl) (by kernel_rfl) (fun _ _ _ h => h) (Or.inl ⟨by rfl, ?_⟩) (fun _ => hS) ?_
      rotate_left
      · (intro V; go_simp; (try with_reducible rfl))
      (try simp only [Act.put, List.setIfInBounds_toArray, List.set_cons_zero, List.set_cons_succ])
      refine wpAnyB_take (i := 5) (v := ?_) rfl (by kernel_rfl) (by kernel_rfl) (by kernel_rfl) (by kernel_rfl) (by kernel_rfl) (by kernel_rfl) (fun _ _ _ h => h) (Or.inl ⟨by rfl, ?_⟩) hS ?_
      rotate_left
      · (intro V hV; obtain ⟨hE, hB⟩ := hV; have c0 := hB.at 0 _ rfl; have c1 := hB.at 1 _ rfl; have c2 := ((HE.out.trans hE).cell hbx).trans (HX.out q (by omega)); rw [← HXX.out] at c2; have c3 := ((HE.out.trans hE).cell hby).trans (HY.out q (by omega)); rw [← HYY.out] at c3; go_simp; (try with_reducible rfl))
      (try simp only [Act.put, List.setIfInBounds_toArray, List.set_cons_zero, List.set_cons_succ])
      refine wpAnyB_take0 (i := 6) (v := ?_) rfl (by kernel_rfl) (by kernel_rfl) (by kernel_rfl) (by kernel_rfl) (fun _ _ _ h => h) (Or.inl ⟨by rfl, ?_⟩) (fun _ => hS) ?_
      rotate_left
      · (intro V; go_simp; (try with_reducible rfl))
      (try simp only [Act.put, List.setIfInBounds_toArray, List.set_cons_zero, List.set_cons_succ])
      refine wpAnyB_take0 (i := 9) (v := ?_) rfl (by kernel_rfl) (by kernel_rfl) (by kernel_rfl) (by kernel_rfl) (fun _ _ _ h => h) (Or.inl ⟨by rfl, ?_⟩) (fun _ => hS) ?_
      rotate_left
      · (intro V; go_simp; (try with_reducible rfl))
      (try simp only [Act.put, List.setIfInBounds_toArray, List.set_cons_zero, List.set_cons_succ])
      refine wpAnyB_take (i := 10) (v := ?_) rfl (by kernel_rfl) (by kernel_rfl) (by kernel_rfl) (by kernel_rfl) (by kernel_rfl) (by kernel_rfl) (fun _ _ _ h => h) (Or.inl ⟨by rfl, ?_⟩) hS ?_
      rotate_left
      · (intro V hV; obtain ⟨hE, hB⟩ := hV; have c0 := hB.at 0 _ rfl; have c1 := hB.at 1 _ rfl; have c2 := ((HE.out.trans hE).cell hbx).trans (HX.out q (by omega)); rw [← HXX.out] at c2; have c3 := ((HE.out.trans hE).cell hby).trans (HY.out q (by omega)); rw [← HYY.out] at c3; go_simp; (try with_reducible rfl))
      (try simp only [Act.put, List.setIfInBounds_toArray, List.set_cons_zero, List.set_cons_succ])
      refine wpAnyB_take0 (i := 11) (v := ?_) rfl (by kernel_rfl) (by kernel_rfl) (by kernel_rfl) (by kernel_rfl) (fun _ _ _ h => h) (Or.inl ⟨by rfl, ?_⟩) (fun _ => hS) ?_
      rotate_left
      · (intro V; go_simp; (try with_reducible rfl))
      (try simp only [Act.put, List.setIfInBounds_toArray, List.set_cons_zero, List.set_cons_succ])
      refine wpAnyB_take0 (i := 12) (v := ?_) rfl (by kernel_rfl) (by kernel_rfl) (by kernel_rfl) (by kernel_rfl) (fun _ _ _ h => h) (Or.inl ⟨by rfl, ?_⟩) (fun _ => hS) ?_
      rotate_left
      · (intro V; go_simp; (try with_reducible rfl))
      (try simp only [Act.put, List.setIfInBounds_toArray, List.set_cons_zero, List.set_cons_succ])
      refine wpAnyB_take0 (i := 13) (v := ?_) rfl (by kernel_rfl) (by kernel_rfl) (by kernel_rfl) (by kernel_rfl) (fun _ _ _ h => h) (Or.inl ⟨by rfl, ?_⟩) (fun _ => hS) ?_
      rotate_left
      · (intro V; go_simp; (try with_reducible rfl))
      (try simp only [Act.put, List.setIfInBounds_toArray, List.set_cons_zero, List.set_cons_succ])
      refine wpAnyB_take (i := 14) (v := ?_) rfl (by kernel_rfl) (by kernel_rfl) (by kernel_rfl) (by kernel_rfl) (by kernel_rfl) (by kernel_rfl) (fun _ _ _ h => h) (Or.inl ⟨by rfl, ?_⟩) hS ?_
      rotate_left
      · (intro V hV; obtain ⟨hE, hB⟩ := hV; have c0 := hB.at 0 _ rfl; have c1 := hB.at 1 _ rfl; have c2 := ((HE.out.trans hE).cell hbx).trans (HX.out q (by omega)); rw [← HXX.out] at c2; have c3 := ((HE.out.trans hE).cell hby).trans (HY.out q (by omega)); rw [← HYY.out] at c3; go_simp; (try with_reducible rfl))
      (try simp only [Act.put, List.setIfInBounds_toArray, List.set_cons_zero, List.set_cons_succ])
      refine wpAnyB_take0 (i := 15) (v := ?_) rfl (by kernel_rfl) (by kernel_rfl) (by kernel_rfl) (by kernel_rfl) (fun _ _ _ h => h) (Or.inl ⟨by rfl, ?_⟩) (fun _ => hS) ?_
      rotate_left
      · (intro V; go_simp; (try with_reducible rfl))
      (try simp only [Act.put, List.setIfInBounds_toArray, List.set_cons_zero, List.set_cons_succ])
      refine wpAnyB_ready (rs := [7, 16]) (by kernel_rfl) (by simp) ?_
      refine AllReadyB.cons rfl (fun K hK => ?_) ?_
      · skip
        go_simp
        have x7 := Blk.new wr.drew [.int .i64 (-x)] 3
        have n17 := T.far1 (g := wr.drew.heap.size) (by simp)
        have n27 := T.far2 (g := wr.drew.heap.size) (by simp)
        have T := T.alloc (.cells #[.int .i64 (-x)] 3)
        have hS := And.intro T.ext T.blk
        refine hK.out _ _ (fun _ => hS) ?_
        clear hK K
        (try simp only [Act.put, List.setIfInBounds_toArray, List.set_cons_zero, List.set_cons_succ])
        refine wpAnyB_ready (rs := [8, 16]) (by kernel_rfl) (by simp) ?_
        refine AllReadyB.cons rfl (fun K hK => ?_) ?_
        · skip
          refine step_app (wr.drew.alloc (.cells #[.int .i64 (-x)] 3)) rfl (.tmp 47) (.tmp 53) rfl rfl T.o1 T.le ⟨(wr.drew.heap.size), 0, none⟩ 1 1 (fun _ => (-x)) rfl (one_news x7) (by omega) (by omega) _ rfl ?_
          intro g8 k8 w8 hown hgrow hat hlt
          have T := T.app1 hown hgrow hat
          clear hown hgrow hat hlt
          (try go_simp)
          have hS := And.intro T.ext T.blk
          refine hK.out _ _ (fun _ => hS) ?_
          clear hK K
          (try simp only [Act.put, List.setIfInBounds_toArray, List.set_cons_zero, List.set_cons_succ])
          refine wpAnyB_take0 (i := 18) (v := ?_) rfl (by kernel_rfl) (by kernel_rfl) (by kernel_rfl) (by kernel_rfl) (fun _ _ _ h => h) (Or.inl ⟨by rfl, ?_⟩) (fun _ => hS) ?_
          rotate_left
          · (intro V; go_simp; (try with_reducible rfl))
          (try simp only [Act.put, List.setIfInBounds_toArray, List.set_cons_zero, List.set_cons_succ])
          refine wpAnyB_ready (rs := [16]) (by kernel_rfl) (by simp) ?_
          refine AllReadyB.cons rfl (fun K hK => ?_) ?_
          · skip
            go_simp
            have x16 := Blk.new w8 [.int .i64 (-y)] 3
            have n116 := T.far1 (g := w8.heap.size) (by simp)
            have n216 := T.far2 (g := w8.heap.size) (by simp)
            have T := T.alloc (.cells #[.int .i64 (-y)] 3)
            have hS := And.intro T.ext T.blk
            refine hK.out _ _ (fun _ => hS) ?_
            clear hK K
            (try simp only [Act.put, List.setIfInBounds_toArray, List.set_cons_zero, List.set_cons_succ])
            refine wpAnyB_ready (rs := [17]) (by kernel_rfl) (by simp) ?_
            refine AllReadyB.cons rfl (fun K hK => ?_) ?_
            · skip
              refine step_app (w8.alloc (.cells #[.int .i64 (-y)] 3)) rfl (.tmp 56) (.tmp 62) rfl rfl T.o2 T.le ⟨(w8.heap.size), 0, none⟩ 1 1 (fun _ => (-y)) rfl (one_news x16) (by omega) (by omega) _ rfl ?_
              intro g17 k17 w17 hown hgrow hat hlt
              have T := T.app2 hown hgrow hat
              clear hown hgrow hat hlt
              (try go_simp)
              have hS := And.intro T.ext T.blk
              refine hK.out _ _ (fun _ => hS) ?_
              clear hK K
              (try simp only [Act.put, List.setIfInBounds_toArray, List.set_cons_zero, List.set_cons_succ])
              refine wpAnyB_ready (rs := [19]) (by kernel_rfl) (by simp) ?_
              refine AllReadyB.cons rfl (fun K hK => ?_) AllReadyB.nil
              have b90 := T.blk.at 0 _ rfl; have b91 := T.blk.at 1 _ rfl; have bf9 := T.blk.fr; have bl9 := T.blk.lt
              go_simp
              refine hK.out _ _ (fun h => absurd h (by decide)) ?_
              clear hK K
              (try simp only [Act.put, List.setIfInBounds_toArray, List.set_cons_zero, List.set_cons_succ])
              refine wpAnyB_take0 (i := 20) (v := ?_) rfl (by kernel_rfl) (by kernel_rfl) (by kernel_rfl) (by kernel_rfl) (fun _ _ _ h => h) (Or.inl ⟨by rfl, ?_⟩) (fun h => absurd h (by decide)) ?_
              rotate_left
              · (intro V; go_simp; (try with_reducible rfl))
              (try simp only [Act.put, List.setIfInBounds_toArray, List.set_cons_zero, List.set_cons_succ])
              refine wpAnyB_ready (rs := [21]) (by kernel_rfl) (by simp) ?_
              refine AllReadyB.cons rfl (fun K hK => ?_) AllReadyB.nil
              go_simp
              refine hK.out _ _ (fun h => absurd h (by decide)) ?_
              clear hK K
              (try simp only [Act.put, List.setIfInBounds_toArray, List.set_cons_zero, List.set_cons_succ])
              clear b90 b91 bf9 bl9
              have T := ((T.set 0 (.slice (some ⟨g8, 0, none⟩) (p + 1) k8) (by simp)).set 1 (.slice (some ⟨g17, 0, none⟩) (p + 1) k17) (by simp))
              refine wpAnyB_done (by kernel_rfl) ?_ _
              go_wp2_with fail
              go_roundw
              case rel => exact ⟨p + 1, (q : Int) - 1, some ⟨g8, 0, none⟩, k8, some ⟨g17, 0, none⟩, k17, by omega, by first | rfl | go_num, by unfold DownAt; omega, T.congr (cat_neg hq HXX.out) (cat_neg hq HYY.out)⟩
              case measure => first | (simp [intOf]; done) | (simp [intOf]; omega)
            exact AllReadyB.nil
          exact AllReadyB.nil
        refine AllReadyB.cons rfl (fun K hK => ?_) ?_
        · skip
          go_simp
          have x7 := x7.alloc (.cells #[.int .i64 (-y)] 3)
          have x16 := Blk.new1 wr.drew (.cells #[.int .i64 (-x)] 3) [.int .i64 (-y)] 3
          have n116 := T.far1 (g := wr.drew.heap.size + 1) (by simp)
          have n216 := T.far2 (g := wr.drew.heap.size + 1) (by simp)
          have T := T.alloc (.cells #[.int .i64 (-y)] 3)
          have hS := And.intro T.ext T.blk
          refine hK.out _ _ (fun _ => hS) ?_
          clear hK K
          (try simp only [Act.put, List.setIfInBounds_toArray, List.set_cons_zero, List.set_cons_succ])
          refine wpAnyB_ready (rs := [8]) (by kernel_rfl) (by simp) ?_
          refine AllReadyB.cons rfl (fun K hK => ?_) ?_
          · skip
            refine step_app ((wr.drew.alloc (.cells #[.int .i64 (-x)] 3)).alloc (.cells #[.int .i64 (-y)] 3)) rfl (.tmp 47) (.tmp 53) rfl rfl T.o1 T.le ⟨(wr.drew.heap.size), 0, none⟩ 1 1 (fun _ => (-x)) rfl (one_news x7) (by omega) (by omega) _ rfl ?_
            intro g8 k8 w8 hown hgrow hat hlt
            have m16 := ne_app hat n116 x16.lt
            have x16 := x16.grown hgrow n116
            have n116 := m16
            have T := T.app1 hown hgrow hat
            clear hown hgrow hat hlt
            (try go_simp)
            have hS := And.intro T.ext T.blk
            refine hK.out _ _ (fun _ => hS) ?_
            clear hK K
            (try simp only [Act.put, List.setIfInBounds_toArray, List.set_cons_zero, List.set_cons_succ])
            refine wpAnyB_take0 (i := 18) (v := ?_) rfl (by kernel_rfl) (by kernel_rfl) (by kernel_rfl) (by kernel_rfl) (fun _ _ _ h => h) (Or.inl ⟨by rfl, ?_⟩) (fun _ => hS) ?_
            rotate_left
            · (intro V; go_simp; (try with_reducible rfl))
            (try simp only [Act.put, List.setIfInBounds_toArray, List.set_cons_zero, List.set_cons_succ])
            refine wpAnyB_ready (rs := [17]) (by kernel_rfl) (by simp) ?_
            refine AllReadyB.cons rfl (fun K hK => ?_) ?_
            · skip
              refine step_app w8 rfl (.tmp 56) (.tmp 62) rfl rfl T.o2 T.le ⟨(wr.drew.heap.size + 1), 0, none⟩ 1 1 (fun _ => (-y)) rfl (one_news x16) (by omega) (by omega) _ rfl ?_
              intro g17 k17 w17 hown hgrow hat hlt
              have T := T.app2 hown hgrow hat
              clear hown hgrow hat hlt
              (try go_simp)
              have hS := And.intro T.ext T.blk
              refine hK.out _ _ (fun _ => hS) ?_
              clear hK K
              (try simp only [Act.put, List.setIfInBounds_toArray, List.set_cons_zero, List.set_cons_succ])
              refine wpAnyB_ready (rs := [19]) (by kernel_rfl) (by simp) ?_
              refine AllReadyB.cons rfl (fun K hK => ?_) AllReadyB.nil
              have b90 := T.blk.at 0 _ rfl; have b91 := T.blk.at 1 _ rfl; have bf9 := T.blk.fr; have bl9 := T.blk.lt
              go_simp
              refine hK.out _ _ (fun h => absurd h (by decide)) ?_
              clear hK K
              (try simp only [Act.put, List.setIfInBounds_toArray, List.set_cons_zero, List.set_cons_succ])
              refine wpAnyB_take0 (i := 20) (v := ?_) rfl (by kernel_rfl) (by kernel_rfl) (by kernel_rfl) (by kernel_rfl) (fun _ _ _ h => h) (Or.inl ⟨by rfl, ?_⟩) (fun h => absurd h (by decide)) ?_
              rotate_left
              · (intro V; go_simp; (try with_reducible rfl))
              (try simp only [Act.put, List.setIfInBounds_toArray, List.set_cons_zero, List.set_cons_succ])
              refine wpAnyB_ready (rs := [21]) (by kernel_rfl) (by simp) ?_
              refine AllReadyB.cons rfl (fun K hK => ?_) AllReadyB.nil
              go_simp
              refine hK.out _ _ (fun h => absurd h (by decide)) ?_
              clear hK K
              (try simp only [Act.put, List.setIfInBounds_toArray, List.set_cons_zero, List.set_cons_succ])
              clear b90 b91 bf9 bl9
              have T := ((T.set 0 (.slice (some ⟨g8, 0, none⟩) (p + 1) k8) (by simp)).set 1 (.slice (some ⟨g17, 0, none⟩) (p + 1) k17) (by simp))
              refine wpAnyB_done (by kernel_rfl) ?_ _
              go_wp2_with fail
              go_roundw
              case rel => exact ⟨p + 1, (q : Int) - 1, some ⟨g8, 0, none⟩, k8, some ⟨g17, 0, none⟩, k17, by omega, by first | rfl | go_num, by unfold DownAt; omega, T.congr (cat_neg hq HXX.out) (cat_neg hq HYY.out)⟩
              case measure => first | (simp [intOf]; done) | (simp [intOf]; omega)
            exact AllReadyB.nil
          exact AllReadyB.nil
        exact AllReadyB.nil
      refine AllReadyB.cons rfl (fun K hK => ?_) ?_
      · skip
        go_simp
        have x16 := Blk.new wr.drew [.int .i64 (-y)] 3
        have n116 := T.far1 (g := wr.drew.heap.size) (by simp)
        have n216 := T.far2 (g := wr.drew.heap.size) (by simp)
        have T := T.alloc (.cells #[.int .i64 (-y)] 3)
        have hS := And.intro T.ext T.blk
        refine hK.out _ _ (fun _ => hS) ?_
        clear hK K
        (try simp only [Act.put, List.setIfInBounds_toArray, List.set_cons_zero, List.set_cons_succ])
        refine wpAnyB_ready (rs := [7]) (by kernel_rfl) (by simp) ?_
        refine AllReadyB.cons rfl (fun K hK => ?_) ?_
        · skip
          go_simp
          have x16 := x16.alloc (.cells #[.int .i64 (-x)] 3)
          have x7 := Blk.new1 wr.drew (.cells #[.int .i64 (-y)] 3) [.int .i64 (-x)] 3
          have n17 := T.far1 (g := wr.drew.heap.size + 1) (by simp)
          have n27 := T.far2 (g := wr.drew.heap.size + 1) (by simp)
          have T := T.alloc (.cells #[.int .i64 (-x)] 3)
          have hS := And.intro T.ext T.blk
          refine hK.out _ _ (fun _ => hS) ?_
          clear hK K
          (try simp only [Act.put, List.setIfInBounds_toArray, List.set_cons_zero, List.set_cons_succ])
          refine wpAnyB_ready (rs := [8]) (by kernel_rfl) (by simp) ?_
          refine AllReadyB.cons rfl (fun K hK => ?_) ?_
          · skip
            refine step_app ((wr.drew.alloc (.cells #[.int .i64 (-y)] 3)).alloc (.cells #[.int .i64 (-x)] 3)) rfl (.tmp 47) (.tmp 53) rfl rfl T.o1 T.le ⟨(wr.drew.heap.size + 1), 0, none⟩ 1 1 (fun _ => (-x)) rfl (one_news x7) (by omega) (by omega) _ rfl ?_
            intro g8 k8 w8 hown hgrow hat hlt
            have m16 := ne_app hat n116 x16.lt
            have x16 := x16.grown hgrow n116
            have n116 := m16
            have T := T.app1 hown hgrow hat
            clear hown hgrow hat hlt
            (try go_simp)
            have hS := And.intro T.ext T.blk
            refine hK.out _ _ (fun _ => hS) ?_
            clear hK K
            (try simp only [Act.put, List.setIfInBounds_toArray, List.set_cons_zero, List.set_cons_succ])
            refine wpAnyB_take0 (i := 18) (v := ?_) rfl (by kernel_rfl) (by kernel_rfl) (by kernel_rfl) (by kernel_rfl) (fun _ _ _ h => h) (Or.inl ⟨by rfl, ?_⟩) (fun _ => hS) ?_
            rotate_left
            · (intro V; go_simp; (try with_reducible rfl))
            (try simp only [Act.put, List.setIfInBounds_toArray, List.set_cons_zero, List.set_cons_succ])
            refine wpAnyB_ready (rs := [17]) (by kernel_rfl) (by simp) ?_
            refine AllReadyB.cons rfl (fun K hK => ?_) ?_
            · skip
              refine step_app w8 rfl (.tmp 56) (.tmp 62) rfl rfl T.o2 T.le ⟨(wr.drew.heap.size), 0, none⟩ 1 1 (fun _ => (-y)) rfl (one_news x16) (by omega) (by omega) _ rfl ?_
              intro g17 k17 w17 hown hgrow hat hlt
              have T := T.app2 hown hgrow hat
              clear hown hgrow hat hlt
              (try go_simp)
              have hS := And.intro T.ext T.blk
              refine hK.out _ _ (fun _ => hS) ?_
              clear hK K
              (try simp only [Act.put, List.setIfInBounds_toArray, List.set_cons_zero, List.set_cons_succ])
              refine wpAnyB_ready (rs := [19]) (by kernel_rfl) (by simp) ?_
              refine AllReadyB.cons rfl (fun K hK => ?_) AllReadyB.nil
              have b90 := T.blk.at 0 _ rfl; have b91 := T.blk.at 1 _ rfl; have bf9 := T.blk.fr; have bl9 := T.blk.lt
              go_simp
              refine hK.out _ _ (fun h => absurd h (by decide)) ?_
              clear hK K
              (try simp only [Act.put, List.setIfInBounds_toArray, List.set_cons_zero, List.set_cons_succ])
              refine wpAnyB_take0 (i := 20) (v := ?_) rfl (by kernel_rfl) (by kernel_rfl) (by kernel_rfl) (by kernel_rfl) (fun _ _ _ h => h) (Or.inl ⟨by rfl, ?_⟩) (fun h => absurd h (by decide)) ?_
              rotate_left
              · (intro V; go_simp; (try with_reducible rfl))
              (try simp only [Act.put, List.setIfInBounds_toArray, List.set_cons_zero, List.set_cons_succ])
              refine wpAnyB_ready (rs := [21]) (by kernel_rfl) (by simp) ?_
              refine AllReadyB.cons rfl (fun K hK => ?_) AllReadyB.nil
              go_simp
              refine hK.out _ _ (fun h => absurd h (by decide)) ?_
              clear hK K
              (try simp only [Act.put, List.setIfInBounds_toArray, List.set_cons_zero, List.set_cons_succ])
              clear b90 b91 bf9 bl9
              have T := ((T.set 0 (.slice (some ⟨g8, 0, none⟩) (p + 1) k8) (by simp)).set 1 (.slice (some ⟨g17, 0, none⟩) (p + 1) k17) (by simp))
              refine wpAnyB_done (by kernel_rfl) ?_ _
              go_wp2_with fail
              go_roundw
              case rel => exact ⟨p + 1, (q : Int) - 1, some ⟨g8, 0, none⟩, k8, some ⟨g17, 0, none⟩, k17, by omega, by first | rfl | go_num, by unfold DownAt; omega, T.congr (cat_neg hq HXX.out) (cat_neg hq HYY.out)⟩
              case measure => first | (simp [intOf]; done) | (simp [intOf]; omega)
            exact AllReadyB.nil
          exact AllReadyB.nil
        exact AllReadyB.nil
      exact AllReadyB.nil
    · obtain rfl : v = (J : Int) := by omega
      clear hv
      have cx := ((HE.out.trans T.ext).cell hbx).trans (HX.out J (by omega))
      have cy := ((HE.out.trans T.ext).cell hby).trans (HY.out J (by omega))
      have q0 : (0 : Int) ≤ (J : Int) := by omega
      have ej : (J : Int) < (n : Int) := by omega
      have Z3 := HZ0.out.ext T.ext
      have zz0 := Z3.at 0 _ rfl
      have zz1 := Z3.at 1 _ rfl
      have zl3 := Z3.lt
      have zf3 := Z3.fr
      have hb := HB.out
      clear HB
      generalize z1 J = x at *
      generalize z2 J = y at *
      by_cases hx0 : x ≤ 0
      · go_wp2_with fail
        exact bodyPost_ret (rodd_ret (n := w.heap.size) ((Z3.set 0 (.slice none 0 0) (by simp)).set 1 (.slice none 0 0) (by simp)) rfl rfl) rfl ⟨rfl, ((HE.out.trans T.ext).setCell (Nat.le_refl _) _).setCell (Nat.le_refl _) _⟩
      · have hx1 : 0 < x := by omega
        have hy1 : y < 0 := by omega
        go_wp2_with fail
        exact bodyPost_ret (rodd_ret (n := w.heap.size) ((Z3.set 0 (.slice none 0 0) (by simp)).set 1 (.slice none 0 0) (by simp)) rfl rfl) rfl ⟨rfl, ((HE.out.trans T.ext).setCell (Nat.le_refl _) _).setCell (Nat.le_refl _) _⟩
set_option linter.unusedSimpArgs false in
set_option maxRecDepth 100000 in
set_option maxHeartbeats 1000000 in
theorem rodd_any (a b : Option Addr) (k l n : Nat) (z1 z2 : Nat → Int) (w : World) (n0 : 0 < n) (n15 : n ≤ 15) (hg : ∀ j, j < n → PtIn (z1 j) (z2 j)) (hi1 : ∀ j, j < n → I64 (z1 j)) (hi2 : ∀ j, j < n → I64 (z2 j)) (hx : Row w a n z1) (hy : Row w b n z2) :
    Calls Try.prog 28 #[.slice a n k, .slice b n l] w (OddRes n z1 z2 (fun r => .int .i64 r) w) := by
  obtain ⟨bx, ox, rfl, hbx, hcx⟩ := hx n0
  obtain ⟨bY, oY, rfl, hby, hcy⟩ := hy n0
  have E0 : Ext w (w.alloc (.cells #[.slice none 0 0, .slice none 0 0] 24)) := (Ext.refl w).alloc _
  have Z0 := Blk.new w [.slice none 0 0, .slice none 0 0] 24
  have T0 := Two.start (w.alloc (.cells #[.slice none 0 0, .slice none 0 0] 24)) (.slice none 0 0) (.slice none 0 0) 24 (Pl.mir n z1) (Pl.mir n z2)
  have hsz : (w.alloc (.cells #[.slice none 0 0, .slice none 0 0] 24)).heap.size = w.heap.size + 1 := by simp
  rw [hsz] at T0
  have HT := Lib.hid T0
  have HZ0 := Lib.hid Z0
  have HE := Lib.hid E0
  have HX := Lib.hid hcx
  have HY := Lib.hid hcy
  have m0 : (1 : Int) ≤ (n : Int) := by omega
  have m00 : ((n : Int) == 0) = false := by simp; omega
  have m15 : (n : Int) ≤ 15 := by omega
  have wn : IntKind.i64.wrap ((n : Int) - 1) = (n : Int) - 1 := IntWalk.i64_in _ (by omega)
  have z0 := Z0.at 0 _ rfl
  have z1' := Z0.at 1 _ rfl
  have zl := Z0.lt
  have zf := Z0.fr
  clear hx hy hcx hcy hsz E0 Z0 T0
  have HG := Lib.hid hg
  have HI1 := Lib.hid hi1
  have HI2 := Lib.hid hi2
  clear hg hi1 hi2
  go_enter Try.func28, Try.ntmps28
  go_wp2_with fail
  go_loopw [7] (fun i wr => ∃ (p : Nat) (v : Int) (a1 : Option Addr) (k1 : Nat) (a2 : Option Addr) (k2 : Nat), p ≤ n ∧ i = .int .i64 v ∧ DownAt n p v ∧ Two (w.alloc (.cells #[.slice none 0 0, .slice none 0 0] 24)) wr (w.heap.size + 1) ((w.heap.size + 1) + 1) [.slice a1 p k1, .slice a2 p k2] a1 p k1 (Pl.mir n z1) a2 p k2 (Pl.mir n z2)) (fun i _ => (intOf i + 1).toNat)
  case atStart => exact ⟨0, (n : Int) - 1, none, 0, none, 0, by omega, rfl, by unfold DownAt; omega, HT.out⟩
  case round =>
    obtain ⟨p, v, a1, k1, a2, k2, hp', rfl, hv, T⟩ := hrel
    unfold DownAt at hv
    by_cases hp : p < n
    · skip
      obtain ⟨q, hq⟩ : ∃ q : Nat, q + p + 1 = n := ⟨n - 1 - p, by omega⟩
      obtain rfl : v = (q : Int) := by omega
      clear hv
      have cx := ((HE.out.trans T.ext).cell hbx).trans (HX.out q (by omega))
      have cy := ((HE.out.trans T.ext).cell hby).trans (HY.out q (by omega))
      have ⟨g1, g2⟩ := HG.out q (by omega)
      have i1 : z1 q ≤ 9223372036854775807 := (I64_le (HI1.out q (by omega)))
      have i2 : z2 q ≤ 9223372036854775807 := (I64_le (HI2.out q (by omega)))
      have q0 : (0 : Int) ≤ (q : Int) := by omega
      have qn : (q : Int) < (n : Int) := by omega
      have qn' : q < n := by omega
      have wq : IntKind.i64.wrap ((q : Int) - 1) = (q : Int) - 1 := IntWalk.i64_in _ (by omega)
      obtain ⟨x, hxx⟩ : ∃ x, x = z1 q := ⟨_, rfl⟩
      obtain ⟨y, hyy⟩ : ∃ y, y = z2 q := ⟨_, rfl⟩
      rw [← hxx] at cx g1 i1
      rw [← hyy] at cy g2 i2
      have HXX := Lib.hid hxx
      have HYY := Lib.hid hyy
      clear hxx hyy
      have wx : IntKind.i64.wrap (-x) = -x := IntWalk.i64_in _ (by omega)
      have wy : IntKind.i64.wrap (-y) = -y := IntWalk.i64_in _ (by omega)
      go_upto_region 11 with fail
      refine wp_region_B (fun V => Ext (w.alloc (.cells #[.slice none 0 0, .slice none 0 0] 24)) V ∧ Blk V (w.heap.size + 1) [.slice a1 p k1, .slice a2 p k2]) [19, 21] (by kernel_rfl) ?_
      have T := T.drew
      have hS := And.intro T.ext T.blk
      refine wpAnyB_take0 (i := 0) (v := ?_) rfl (by kernel_rfl) (by kernel_rfl) (by kernel_rfl) (by kernel_rfl) (fun _ _ _ h => h) (Or.inl ⟨by rfl, ?_⟩) (fun _ => hS) ?_
      rotate_left
      · (intro V; go_simp; (try with_reducible rfl))
      (try simp only [Act.put, List.setIfInBounds_toArray, List.set_cons_zero, List.set_cons_succ])
      refine wpAnyB_take (i := 1) (v := ?_) rfl (by kernel_rfl) (by kernel_rfl) (by kernel_rfl) (by kernel_rfl) (by kernel_rfl) (by kernel_rfl) (fun _ _ _ h => h) (Or.inl ⟨by rfl, ?_⟩) hS ?_
      rotate_left
      · (intro V hV; obtain ⟨hE, hB⟩ := hV; have c0 := hB.at 0 _ rfl; have c1 := hB.at 1 _ rfl; have c2 := ((HE.out.trans hE).cell hbx).trans (HX.out q (by omega)); rw [← HXX.out] at c2; have c3 := ((HE.out.trans hE).cell hby).trans (HY.out q (by omega)); rw [← HYY.out] at c3; go_simp; (try with_reducible rfl))
      (try simp only [Act.put, List.setIfInBounds_toArray, List.set_cons_zero, List.set_cons_succ])
      refine wpAnyB_take0 (i := 2) (v := ?_) rfl (by kernel_rfl) (by kernel_rfl) (by kernel_rfl) (by kernel_rfl) (fun _ _ _ h => h) (Or.inl ⟨by rfl, ?_⟩) (fun _ => hS) ?_
      rotate_left
      · (intro V; go_simp; (try with_reducible rfl))
      (try simp only [Act.put, List.setIfInBounds_toArray, List.set_cons_zero, List.set_cons_succ])
      refine wpAnyB_take0 (i := 3) (v := ?_) rfl (by kernel_rfl) (by kernel_rfl) (by kernel_rfl) (by kernel_rfl) (fun _ _ _ h => h) (Or.inl ⟨by rfl, ?_⟩) (fun _ => hS) ?_
      rotate_left
      · (intro V; go_simp; (try with_reducible rfl))
      (try simp only [Act.put, List.setIfInBounds_toArray, List.set_cons_zero, List.set_cons_succ])
      refine wpAnyB_take0 (i := 4) (v := ?_) rfl (by kernel_rfl) (by kernel_rfl) (by kernel_rfl) (by kernel_rfl) (fun _ _ _ h => h) (Or.inl ⟨by rfl, ?_⟩) (fun _ => hS) ?_
      rotate_left
      · (intro V; go_simp; (try with_reducible rfl))
      (try simp only [Act.put, List.setIfInBounds_toArray, List.set_cons_zero, List.set_cons_succ])
      refine wpAnyB_take (i := 5) (v := ?_) rfl (by kernel_rfl) (by kernel_rfl) (by kernel_rfl) (by kernel_rfl) (by kernel_rfl) (by kernel_rfl) (fun _ _ _ h => h) (Or.inl ⟨by rfl, ?_⟩) hS ?_
      rotate_left
      · (intro V hV; obtain ⟨hE, hB⟩ := hV; have c0 := hB.at 0 _ rfl; have c1 := hB.at 1 _ rfl; have c2 := ((HE.out.trans hE).cell hbx).trans (HX.out q (by omega)); rw [← HXX.out] at c2; have c3 := ((HE.out.trans hE).cell hby).trans (HY.out q (by omega)); rw [← HYY.out] at c3; go_simp; (try with_reducible rfl))
      (try simp only [Act.put, List.setIfInBounds_toArray, List.set_cons_zero, List.set_cons_succ])
      refine wpAnyB_take0 (i := 6) (v := ?_) rfl (by kernel_rfl) (by kernel_rfl) (by kernel_rfl) (by kernel_rfl) (fun _ _ _ h => h) (Or.inl ⟨by rfl, ?_⟩) (fun _ => hS) ?_
      rotate_left
      · (intro V; go_simp; (try with_reducible rfl))
      (try simp only [Act.put, List.setIfInBounds_toArray, List.set_cons_zero, List.set_cons_succ])
      refine wpAnyB_take0 (i := 9) (v := ?_) rfl (by kernel_rfl) (by kernel_rfl) (by kernel_rfl) (by kernel_rfl) (fun _ _ _ h => h) (Or.inl ⟨by rfl, ?_⟩) (fun _ => hS) ?_
      rotate_left
      · (intro V; go_simp; (try with_reducible rfl))
      (try simp only [Act.put, List.setIfInBounds_toArray, List.set_cons_zero, List.set_cons_succ])
      refine wpAnyB_take (i := 10) (v := ?_) rfl (by kernel_rfl) (by kernel_rfl) (by kernel_rfl) (by kernel_rfl) (by kernel_rfl) (by kernel_rfl) (fun _ _ _ h => h) (Or.inl ⟨by rfl, ?_⟩) hS ?_
      rotate_left
      · (intro V hV; obtain ⟨hE, hB⟩ := hV; have c0 := hB.at 0 _ rfl; have c1 := hB.at 1 _ rfl; have c2 := ((HE.out.trans hE).cell hbx).trans (HX.out q (by omega)); rw [← HXX.out] at c2; have c3 := ((HE.out.trans hE).cell hby).trans (HY.out q (by omega)); rw [← HYY.out] at c3; go_simp; (try with_reducible rfl))
      (try simp only [Act.put, List.setIfInBounds_toArray, List.set_cons_zero, List.set_cons_succ])
      refine wpAnyB_take0 (i := 11) (v := ?_) rfl (by kernel_rfl) (by kernel_rfl) (by kernel_rfl) (by kernel_rfl) (fun _ _ _ h => h) (Or.inl ⟨by rfl, ?_⟩) (fun _ => hS) ?_
      rotate_left
      · (intro V; go_simp; (try with_reducible rfl))
      (try simp only [Act.put, List.setIfInBounds_toArray, List.set_cons_zero, List.set_cons_succ])
      refine wpAnyB_take0 (i := 12) (v := ?_) rfl (by kernel_rfl) (by kernel_rfl) (by kernel_rfl) (by kernel_rfl) (fun _ _ _ h => h) (Or.inl ⟨by rfl, ?_⟩) (fun _ => hS) ?_
      rotate_left
      · (intro V; go_simp; (try with_reducible rfl))
      (try simp only [Act.put, List.setIfInBounds_toArray, List.set_cons_zero, List.set_cons_succ])
      refine wpAnyB_take0 (i := 13) (v := ?_) rfl (by kernel_rfl) (by kernel_rfl) (by kernel_rfl) (by kernel_rfl) (fun _ _ _ h => h) (Or.inl ⟨by rfl, ?_⟩) (fun _ => hS) ?_
      rotate_left
      · (intro V; go_simp; (try with_reducible rfl))
      (try simp only [Act.put, List.setIfInBounds_toArray, List.set_cons_zero, List.set_cons_succ])
      refine wpAnyB_take (i := 14) (v := ?_) rfl (by kernel_rfl) (by kernel_rfl) (by kernel_rfl) (by kernel_rfl) (by kernel_rfl) (by kernel_rfl) (fun _ _ _ h => h) (Or.inl ⟨by rfl, ?_⟩) hS ?_
      rotate_left
      · (intro V hV; obtain ⟨hE, hB⟩ := hV; have c0 := hB.at 0 _ rfl; have c1 := hB.at 1 _ rfl; have c2 := ((HE.out.trans hE).cell hbx).trans (HX.out q (by omega)); rw [← HXX.out] at c2; have c3 := ((HE.out.trans hE).cell hby).trans (HY.out q (by omega)); rw [← HYY.out] at c3; go_simp; (try with_reducible rfl))
      (try simp only [Act.put, List.setIfInBounds_toArray, List.set_cons_zero, List.set_cons_succ])
      refine wpAnyB_take0 (i := 15) (v := ?_) rfl (by kernel_rfl) (by kernel_rfl) (by kernel_rfl) (by kernel_rfl) (fun _ _ _ h => h) (Or.inl ⟨by rfl, ?_⟩) (fun _ => hS) ?_
      rotate_left
      · (intro V; go_simp; (try with_reducible rfl))
      (try simp only [Act.put, List.setIfInBounds_toArray, List.set_cons_zero, List.set_cons_succ])
      refine wpAnyB_ready (rs := [7, 16]) (by kernel_rfl) (by simp) ?_
      refine AllReadyB.cons rfl (fun K hK => ?_) ?_
      · skip
        go_simp
        have x7 := Blk.new wr.drew [.int .i64 (-x)] 3
        have n17 := T.far1 (g := wr.drew.heap.size) (by simp)
        have n27 := T.far2 (g := wr.drew.heap.size) (by simp)
        have T := T.alloc (.cells #[.int .i64 (-x)] 3)
        have hS := And.intro T.ext T.blk
        refine hK.out _ _ (fun _ => hS) ?_
        clear hK K
        (try simp only [Act.put, List.setIfInBounds_toArray, List.set_cons_zero, List.set_cons_succ])
        refine wpAnyB_ready (rs := [8, 16]) (by kernel_rfl) (by simp) ?_
        refine AllReadyB.cons rfl (fun K hK => ?_) ?_
        · skip
          refine step_app (wr.drew.alloc (.cells #[.int .i64 (-x)] 3)) rfl (.tmp 47) (.tmp 53) rfl rfl T.o1 T.le ⟨(wr.drew.heap.size), 0, none⟩ 1 1 (fun _ => (-x)) rfl (one_news x7) (by omega) (by omega) _ rfl ?_
          intro g8 k8 w8 hown hgrow hat hlt
          have T := T.app1 hown hgrow hat
          clear hown hgrow hat hlt
          (try go_simp)
          have hS := And.intro T.ext T.blk
          refine hK.out _ _ (fun _ => hS) ?_
          clear hK K
          (try simp only [Act.put, List.setIfInBounds_toArray, List.set_cons_zero, List.set_cons_succ])
          refine wpAnyB_take0 (i := 18) (v := ?_) rfl (by kernel_rfl) (by kernel_rfl) (by kernel_rfl) (by kernel_rfl) (fun _ _ _ h => h) (Or.inl ⟨by rfl, ?_⟩) (fun _ => hS) ?_
          rotate_left
          · (intro V; go_simp; (try with_reducible rfl))
          (try simp only [Act.put, List.setIfInBounds_toArray, List.set_cons_zero, List.set_cons_succ])
          refine wpAnyB_ready (rs := [16]) (by kernel_rfl) (by simp) ?_
          refine AllReadyB.cons rfl (fun K hK => ?_) ?_
          · skip
            go_simp
            have x16 := Blk.new w8 [.int .i64 (-y)] 3
            have n116 := T.far1 (g := w8.heap.size) (by simp)
            have n216 := T.far2 (g := w8.heap.size) (by simp)
            have T := T.alloc (.cells #[.int .i64 (-y)] 3)
            have hS := And.intro T.ext T.blk
            refine hK.out _ _ (fun _ => hS) ?_
            clear hK K
            (try simp only [Act.put, List.setIfInBounds_toArray, List.set_cons_zero, List.set_cons_succ])
            refine wpAnyB_ready (rs := [17]) (by kernel_rfl) (by simp) ?_
            refine AllReadyB.cons rfl (fun K hK => ?_) ?_
            · skip
              refine step_app (w8.alloc (.cells #[.int .i64 (-y)] 3)) rfl (.tmp 56) (.tmp 62) rfl rfl T.o2 T.le ⟨(w8.heap.size), 0, none⟩ 1 1 (fun _ => (-y)) rfl (one_news x16) (by omega) (by omega) _ rfl ?_
              intro g17 k17 w17 hown hgrow hat hlt
              have T := T.app2 hown hgrow hat
              clear hown hgrow hat hlt
              (try go_simp)
              have hS := And.intro T.ext T.blk
              refine hK.out _ _ (fun _ => hS) ?_
              clear hK K
              (try simp only [Act.put, List.setIfInBounds_toArray, List.set_cons_zero, List.set_cons_succ])
              refine wpAnyB_ready (rs := [19]) (by kernel_rfl) (by simp) ?_
              refine AllReadyB.cons rfl (fun K hK => ?_) AllReadyB.nil
              have b90 := T.blk.at 0 _ rfl; have b91 := T.blk.at 1 _ rfl; have bf9 := T.blk.fr; have bl9 := T.blk.lt
              go_simp
              refine hK.out _ _ (fun h => absurd h (by decide)) ?_
              clear hK K
              (try simp only [Act.put, List.setIfInBounds_toArray, List.set_cons_zero, List.set_cons_succ])
              refine wpAnyB_take0 (i := 20) (v := ?_) rfl (by kernel_rfl) (by kernel_rfl) (by kernel_rfl) (by kernel_rfl) (fun _ _ _ h => h) (Or.inl ⟨by rfl, ?_⟩) (fun h => absurd h (by decide)) ?_
              rotate_left
              · (intro V; go_simp; (try with_reducible rfl))
              (try simp only [Act.put, List.setIfInBounds_toArray, List.set_cons_zero, List.set_cons_succ])
              refine wpAnyB_ready (rs := [21]) (by kernel_rfl) (by simp) ?_
              refine AllReadyB.cons rfl (fun K hK => ?_) AllReadyB.nil
              go_simp
              refine hK.out _ _ (fun h => absurd h (by decide)) ?_
              clear hK K
              (try simp only [Act.put, List.setIfInBounds_toArray, List.set_cons_zero, List.set_cons_succ])
              clear b90 b91 bf9 bl9
              have T := ((T.set 0 (.slice (some ⟨g8, 0, none⟩) (p + 1) k8) (by simp)).set 1 (.slice (some ⟨g17, 0, none⟩) (p + 1) k17) (by simp))
              refine wpAnyB_done (by kernel_rfl) ?_ _
              go_wp2_with fail
              go_roundw
              case rel => exact ⟨p + 1, (q : Int) - 1, some ⟨g8, 0, none⟩, k8, some ⟨g17, 0, none⟩, k17, by omega, by first | rfl | go_num, by unfold DownAt; omega, T.congr (cat_neg hq HXX.out) (cat_neg hq HYY.out)⟩
              case measure => first | (simp [intOf]; done) | (simp [intOf]; omega)
            exact AllReadyB.nil
          exact AllReadyB.nil
        refine AllReadyB.cons rfl (fun K hK => ?_) ?_
        · skip
          go_simp
          have x7 := x7.alloc (.cells #[.int .i64 (-y)] 3)
          have x16 := Blk.new1 wr.drew (.cells #[.int .i64 (-x)] 3) [.int .i64 (-y)] 3
          have n116 := T.far1 (g := wr.drew.heap.size + 1) (by simp)
          have n216 := T.far2 (g := wr.drew.heap.size + 1) (by simp)
          have T := T.alloc (.cells #[.int .i64 (-y)] 3)
          have hS := And.intro T.ext T.blk
          refine hK.out _ _ (fun _ => hS) ?_
          clear hK K
          (try simp only [Act.put, List.setIfInBounds_toArray, List.set_cons_zero, List.set_cons_succ])
          refine wpAnyB_ready (rs := [8]) (by kernel_rfl) (by simp) ?_
          refine AllReadyB.cons rfl (fun K hK => ?_) ?_
          · skip
            refine step_app ((wr.drew.alloc (.cells #[.int .i64 (-x)] 3)).alloc (.cells #[.int .i64 (-y)] 3)) rfl (.tmp 47) (.tmp 53) rfl rfl T.o1 T.le ⟨(wr.drew.heap.size), 0, none⟩ 1 1 (fun _ => (-x)) rfl (one_news x7) (by omega) (by omega) _ rfl ?_
            intro g8 k8 w8 hown hgrow hat hlt
            have m16 := ne_app hat n116 x16.lt
            have x16 := x16.grown hgrow n116
            have n116 := m16
            have T := T.app1 hown hgrow hat
            clear hown hgrow hat hlt
            (try go_simp)
            have hS := And.intro T.ext T.blk
            refine hK.out _ _ (fun _ => hS) ?_
            clear hK K
            (try simp only [Act.put, List.setIfInBounds_toArray, List.set_cons_zero, List.set_cons_succ])
            refine wpAnyB_take0 (i := 18) (v := ?_) rfl (by kernel_rfl) (by kernel_rfl) (by kernel_rfl) (by kernel_rfl) (fun _ _ _ h => h) (Or.inl ⟨by rfl, ?_⟩) (fun _ => hS) ?_
            rotate_left
            · (intro V; go_simp; (try with_reducible rfl))
            (try simp only [Act.put, List.setIfInBounds_toArray, List.set_cons_zero, List.set_cons_succ])
            refine wpAnyB_ready (rs := [17]) (by kernel_rfl) (by simp) ?_
            refine AllReadyB.cons rfl (fun K hK => ?_) ?_
            · skip
              refine step_app w8 rfl (.tmp 56) (.tmp 62) rfl rfl T.o2 T.le ⟨(wr.drew.heap.size + 1), 0, none⟩ 1 1 (fun _ => (-y)) rfl (one_news x16) (by omega) (by omega) _ rfl ?_
              intro g17 k17 w17 hown hgrow hat hlt
              have T := T.app2 hown hgrow hat
              clear hown hgrow hat hlt
              (try go_simp)
              have hS := And.intro T.ext T.blk
              refine hK.out _ _ (fun _ => hS) ?_
              clear hK K
              (try simp only [Act.put, List.setIfInBounds_toArray, List.set_cons_zero, List.set_cons_succ])
              refine wpAnyB_ready (rs := [19]) (by kernel_rfl) (by simp) ?_
              refine AllReadyB.cons rfl (fun K hK => ?_) AllReadyB.nil
              have b90 := T.blk.at 0 _ rfl; have b91 := T.blk.at 1 _ rfl; have bf9 := T.blk.fr; have bl9 := T.blk.lt
              go_simp
              refine hK.out _ _ (fun h => absurd h (by decide)) ?_
              clear hK K
              (try simp only [Act.put, List.setIfInBounds_toArray, List.set_cons_zero, List.set_cons_succ])
              refine wpAnyB_take0 (i := 20) (v := ?_) rfl (by kernel_rfl) (by kernel_rfl) (by kernel_rfl) (by kernel_rfl) (fun _ _ _ h => h) (Or.inl ⟨by rfl, ?_⟩) (fun h => absurd h (by decide)) ?_
              rotate_left
              · (intro V; go_simp; (try with_reducible rfl))
              (try simp only [Act.put, List.setIfInBounds_toArray, List.set_cons_zero, List.set_cons_succ])
              refine wpAnyB_ready (rs := [21]) (by kernel_rfl) (by simp) ?_
              refine AllReadyB.cons rfl (fun K hK => ?_) AllReadyB.nil
              go_simp
              refine hK.out _ _ (fun h => absurd h (by decide)) ?_
              clear hK K
              (try simp only [Act.put, List.setIfInBounds_toArray, List.set_cons_zero, List.set_cons_succ])
              clear b90 b91 bf9 bl9
              have T := ((T.set 0 (.slice (some ⟨g8, 0, none⟩) (p + 1) k8) (by simp)).set 1 (.slice (some ⟨g17, 0, none⟩) (p + 1) k17) (by simp))
              refine wpAnyB_done (by kernel_rfl) ?_ _
              go_wp2_with fail
              go_roundw
              case rel => exact ⟨p + 1, (q : Int) - 1, some ⟨g8, 0, none⟩, k8, some ⟨g17, 0, none⟩, k17, by omega, by first | rfl | go_num, by unfold DownAt; omega, T.congr (cat_neg hq HXX.out) (cat_neg hq HYY.out)⟩
              case measure => first | (simp [intOf]; done) | (simp [intOf]; omega)
            exact AllReadyB.nil
          exact AllReadyB.nil
        exact AllReadyB.nil
      refine AllReadyB.cons rfl (fun K hK => ?_) ?_
      · skip
        go_simp
        have x16 := Blk.new wr.drew [.int .i64 (-y)] 3
        have n116 := T.far1 (g := wr.drew.heap.size) (by simp)
        have n216 := T.far2 (g := wr.drew.heap.size) (by simp)
        have T := T.alloc (.cells #[.int .i64 (-y)] 3)
        have hS := And.intro T.ext T.blk
        refine hK.out _ _ (fun _ => hS) ?_
        clear hK K
        (try simp only [Act.put, List.setIfInBounds_toArray, List.set_cons_zero, List.set_cons_succ])
        refine wpAnyB_ready (rs := [7]) (by kernel_rfl) (by simp) ?_
        refine AllReadyB.cons rfl (fun K hK => ?_) ?_
        · skip
          go_simp
          have x16 := x16.alloc (.cells #[.int .i64 (-x)] 3)
          have x7 := Blk.new1 wr.drew (.cells #[.int .i64 (-y)] 3) [.int .i64 (-x)] 3
          have n17 := T.far1 (g := wr.drew.heap.size + 1) (by simp)
          have n27 := T.far2 (g := wr.drew.heap.size + 1) (by simp)
          have T := T.alloc (.cells #[.int .i64 (-x)] 3)
          have hS := And.intro T.ext T.blk
          refine hK.out _ _ (fun _ => hS) ?_
          clear hK K
          (try simp only [Act.put, List.setIfInBounds_toArray, List.set_cons_zero, List.set_cons_succ])
          refine wpAnyB_ready (rs := [8]) (by kernel_rfl) (by simp) ?_
          refine AllReadyB.cons rfl (fun K hK => ?_) ?_
          · skip
            refine step_app ((wr.drew.alloc (.cells #[.int .i64 (-y)] 3)).alloc (.cells #[.int .i64 (-x)] 3)) rfl (.tmp 47) (.tmp 53) rfl rfl T.o1 T.le ⟨(wr.drew.heap.size + 1), 0, none⟩ 1 1 (fun _ => (-x)) rfl (one_news x7) (by omega) (by omega) _ rfl ?_
            intro g8 k8 w8 hown hgrow hat hlt
            have m16 := ne_app hat n116 x16.lt
            have x16 := x16.grown hgrow n116
            have n116 := m16
            have T := T.app1 hown hgrow hat
            clear hown hgrow hat hlt
            (try go_simp)
            have hS := And.intro T.ext T.blk
            refine hK.out _ _ (fun _ => hS) ?_
            clear hK K
            (try simp only [Act.put, List.setIfInBounds_toArray, List.set_cons_zero, List.set_cons_succ])
            refine wpAnyB_take0 (i := 18) (v := ?_) rfl (by kernel_rfl) (by kernel_rfl) (by kernel_rfl) (by kernel_rfl) (fun _ _ _ h => h) (Or.inl ⟨by rfl, ?_⟩) (fun _ => hS) ?_
            rotate_left
            · (intro V; go_simp; (try with_reducible rfl))
            (try simp only [Act.put, List.setIfInBounds_toArray, List.set_cons_zero, List.set_cons_succ])
            refine wpAnyB_ready (rs := [17]) (by kernel_rfl) (by simp) ?_
            refine AllReadyB.cons rfl (fun K hK => ?_) ?_
            · skip
              refine step_app w8 rfl (.tmp 56) (.tmp 62) rfl rfl T.o2 T.le ⟨(wr.drew.heap.size), 0, none⟩ 1 1 (fun _ => (-y)) rfl (one_news x16) (by omega) (by omega) _ rfl ?_
              intro g17 k17 w17 hown hgrow hat hlt
              have T := T.app2 hown hgrow hat
              clear hown hgrow hat hlt
              (try go_simp)
              have hS := And.intro T.ext T.blk
              refine hK.out _ _ (fun _ => hS) ?_
              clear hK K
              (try simp only [Act.put, List.setIfInBounds_toArray, List.set_cons_zero, List.set_cons_succ])
              refine wpAnyB_ready (rs := [19]) (by kernel_rfl) (by simp) ?_
              refine AllReadyB.cons rfl (fun K hK => ?_) AllReadyB.nil
              have b90 := T.blk.at 0 _ rfl; have b91 := T.blk.at 1 _ rfl; have bf9 := T.blk.fr; have bl9 := T.blk.lt
              go_simp
              refine hK.out _ _ (fun h => absurd h (by decide)) ?_
              clear hK K
              (try simp only [Act.put, List.setIfInBounds_toArray, List.set_cons_zero, List.set_cons_succ])
              refine wpAnyB_take0 (i := 20) (v := ?_) rfl (by kernel_rfl) (by kernel_rfl) (by kernel_rfl) (by kernel_rfl) (fun _ _ _ h => h) (Or.inl ⟨by rfl, ?_⟩) (fun h => absurd h (by decide)) ?_
              rotate_left
              · (intro V; go_simp; (try with_reducible rfl))
              (try simp only [Act.put, List.setIfInBounds_toArray, List.set_cons_zero, List.set_cons_succ])
              refine wpAnyB_ready (rs := [21]) (by kernel_rfl) (by simp) ?_
              refine AllReadyB.cons rfl (fun K hK => ?_) AllReadyB.nil
              go_simp
              refine hK.out _ _ (fun h => absurd h (by decide)) ?_
              clear hK K
              (try simp only [Act.put, List.setIfInBounds_toArray, List.set_cons_zero, List.set_cons_succ])
              clear b90 b91 bf9 bl9
              have T := ((T.set 0 (.slice (some ⟨g8, 0, none⟩) (p + 1) k8) (by simp)).set 1 (.slice (some ⟨g17, 0, none⟩) (p + 1) k17) (by simp))
              refine wpAnyB_done (by kernel_rfl) ?_ _
              go_wp2_with fail
              go_roundw
              case rel => exact ⟨p + 1, (q : Int) - 1, some ⟨g8, 0, none⟩, k8, some ⟨g17, 0, none⟩, k17, by omega, by first | rfl | go_num, by unfold DownAt; omega, T.congr (cat_neg hq HXX.out) (cat_neg hq HYY.out)⟩
              case measure => first | (simp [intOf]; done) | (simp [intOf]; omega)
            exact AllReadyB.nil
          exact AllReadyB.nil
        exact AllReadyB.nil
      exact AllReadyB.nil
    · obtain rfl : n = p := by omega
      obtain rfl : v = -1 := by omega
      clear hv
      go_upto_region 12 with fail
      go_cut [] (fun wx => ∃ a1 k1 a2 k2, Two (w.alloc (.cells #[.slice none 0 0, .slice none 0 0] 24)) wx (w.heap.size + 1) ((w.heap.size + 1) + 1) [.slice a1 (n + 1) k1, .slice a2 (n + 1) k2] a1 (n + 1) k1 (Pl.mir n z1) a2 (n + 1) k2 (Pl.mir n z2))
      case first =>
        refine wp_region_B (fun V => Ext (w.alloc (.cells #[.slice none 0 0, .slice none 0 0] 24)) V ∧ Blk V (w.heap.size + 1) [.slice a1 n k1, .slice a2 n k2]) [9, 11] (by kernel_rfl) ?_
        have T := T.drew
        have hS := And.intro T.ext T.blk
        refine wpAnyB_take0 (i := 0) (v := ?_) rfl (by kernel_rfl) (by kernel_rfl) (by kernel_rfl) (by kernel_rfl) (fun _ _ _ h => h) (Or.inl ⟨by rfl, ?_⟩) (fun _ => hS) ?_
        rotate_left
        · (intro V; go_simp; (try with_reducible rfl))
        (try simp only [Act.put, List.setIfInBounds_toArray, List.set_cons_zero, List.set_cons_succ])
        refine wpAnyB_take (i := 1) (v := ?_) rfl (by kernel_rfl) (by kernel_rfl) (by kernel_rfl) (by kernel_rfl) (by kernel_rfl) (by kernel_rfl) (fun _ _ _ h => h) (Or.inl ⟨by rfl, ?_⟩) hS ?_
        rotate_left
        · (intro V hV; obtain ⟨hE, hB⟩ := hV; have c0 := hB.at 0 _ rfl; have c1 := hB.at 1 _ rfl; go_simp; (try with_reducible rfl))
        (try simp only [Act.put, List.setIfInBounds_toArray, List.set_cons_zero, List.set_cons_succ])
        refine wpAnyB_take0 (i := 4) (v := ?_) rfl (by kernel_rfl) (by kernel_rfl) (by kernel_rfl) (by kernel_rfl) (fun _ _ _ h => h) (Or.inl ⟨by rfl, ?_⟩) (fun _ => hS) ?_
        rotate_left
        · (intro V; go_simp; (try with_reducible rfl))
        (try simp only [Act.put, List.setIfInBounds_toArray, List.set_cons_zero, List.set_cons_succ])
        refine wpAnyB_take (i := 5) (v := ?_) rfl (by kernel_rfl) (by kernel_rfl) (by kernel_rfl) (by kernel_rfl) (by kernel_rfl) (by kernel_rfl) (fun _ _ _ h => h) (Or.inl ⟨by rfl, ?_⟩) hS ?_
        rotate_left
        · (intro V hV; obtain ⟨hE, hB⟩ := hV; have c0 := hB.at 0 _ rfl; have c1 := hB.at 1 _ rfl; go_simp; (try with_reducible rfl))
        (try simp only [Act.put, List.setIfInBounds_toArray, List.set_cons_zero, List.set_cons_succ])
        refine wpAnyB_ready (rs := [2, 6]) (by kernel_rfl) (by simp) ?_
        refine AllReadyB.cons rfl (fun K hK => ?_) ?_
        · skip
          go_simp
          have x2 := Blk.new wr.drew [.int .i64 0] 3
          have n12 := T.far1 (g := wr.drew.heap.size) (by simp)
          have n22 := T.far2 (g := wr.drew.heap.size) (by simp)
          have T := T.alloc (.cells #[.int .i64 0] 3)
          have hS := And.intro T.ext T.blk
          refine hK.out _ _ (fun _ => hS) ?_
          clear hK K
          (try simp only [Act.put, List.setIfInBounds_toArray, List.set_cons_zero, List.set_cons_succ])
          refine wpAnyB_ready (rs := [3, 6]) (by kernel_rfl) (by simp) ?_
          refine AllReadyB.cons rfl (fun K hK => ?_) ?_
          · skip
            refine step_app (wr.drew.alloc (.cells #[.int .i64 0] 3)) rfl (.tmp 67) (.tmp 68) rfl rfl T.o1 T.le ⟨(wr.drew.heap.size), 0, none⟩ 1 1 (fun _ => 0) rfl (one_news x2) (by omega) (by omega) _ rfl ?_
            intro g3 k3 w3 hown hgrow hat hlt
            have T := T.app1 hown hgrow hat
            clear hown hgrow hat hlt
            (try go_simp)
            have hS := And.intro T.ext T.blk
            refine hK.out _ _ (fun _ => hS) ?_
            clear hK K
            (try simp only [Act.put, List.setIfInBounds_toArray, List.set_cons_zero, List.set_cons_succ])
            refine wpAnyB_take0 (i := 8) (v := ?_) rfl (by kernel_rfl) (by kernel_rfl) (by kernel_rfl) (by kernel_rfl) (fun _ _ _ h => h) (Or.inl ⟨by rfl, ?_⟩) (fun _ => hS) ?_
            rotate_left
            · (intro V; go_simp; (try with_reducible rfl))
            (try simp only [Act.put, List.setIfInBounds_toArray, List.set_cons_zero, List.set_cons_succ])
            refine wpAnyB_ready (rs := [6]) (by kernel_rfl) (by simp) ?_
            refine AllReadyB.cons rfl (fun K hK => ?_) ?_
            · skip
              go_simp
              have x6 := Blk.new w3 [.int .i64 0] 3
              have n16 := T.far1 (g := w3.heap.size) (by simp)
              have n26 := T.far2 (g := w3.heap.size) (by simp)
              have T := T.alloc (.cells #[.int .i64 0] 3)
              have hS := And.intro T.ext T.blk
              refine hK.out _ _ (fun _ => hS) ?_
              clear hK K
              (try simp only [Act.put, List.setIfInBounds_toArray, List.set_cons_zero, List.set_cons_succ])
              refine wpAnyB_ready (rs := [7]) (by kernel_rfl) (by simp) ?_
              refine AllReadyB.cons rfl (fun K hK => ?_) ?_
              · skip
                refine step_app (w3.alloc (.cells #[.int .i64 0] 3)) rfl (.tmp 71) (.tmp 72) rfl rfl T.o2 T.le ⟨(w3.heap.size), 0, none⟩ 1 1 (fun _ => 0) rfl (one_news x6) (by omega) (by omega) _ rfl ?_
                intro g7 k7 w7 hown hgrow hat hlt
                have T := T.app2 hown hgrow hat
                clear hown hgrow hat hlt
                (try go_simp)
                have hS := And.intro T.ext T.blk
                refine hK.out _ _ (fun _ => hS) ?_
                clear hK K
                (try simp only [Act.put, List.setIfInBounds_toArray, List.set_cons_zero, List.set_cons_succ])
                refine wpAnyB_ready (rs := [9]) (by kernel_rfl) (by simp) ?_
                refine AllReadyB.cons rfl (fun K hK => ?_) AllReadyB.nil
                have b90 := T.blk.at 0 _ rfl; have b91 := T.blk.at 1 _ rfl; have bf9 := T.blk.fr; have bl9 := T.blk.lt
                go_simp
                refine hK.out _ _ (fun h => absurd h (by decide)) ?_
                clear hK K
                (try simp only [Act.put, List.setIfInBounds_toArray, List.set_cons_zero, List.set_cons_succ])
                refine wpAnyB_take0 (i := 10) (v := ?_) rfl (by kernel_rfl) (by kernel_rfl) (by kernel_rfl) (by kernel_rfl) (fun _ _ _ h => h) (Or.inl ⟨by rfl, ?_⟩) (fun h => absurd h (by decide)) ?_
                rotate_left
                · (intro V; go_simp; (try with_reducible rfl))
                (try simp only [Act.put, List.setIfInBounds_toArray, List.set_cons_zero, List.set_cons_succ])
                refine wpAnyB_ready (rs := [11]) (by kernel_rfl) (by simp) ?_
                refine AllReadyB.cons rfl (fun K hK => ?_) AllReadyB.nil
                go_simp
                refine hK.out _ _ (fun h => absurd h (by decide)) ?_
                clear hK K
                (try simp only [Act.put, List.setIfInBounds_toArray, List.set_cons_zero, List.set_cons_succ])
                clear b90 b91 bf9 bl9
                have T := ((T.set 0 (.slice (some ⟨g3, 0, none⟩) (n + 1) k3) (by simp)).set 1 (.slice (some ⟨g7, 0, none⟩) (n + 1) k7) (by simp))
                refine wpAnyB_done (by kernel_rfl) ?_ _
                go_wp2_with fail
                go_meet
                exact ⟨some ⟨g3, 0, none⟩, k3, some ⟨g7, 0, none⟩, k7, T.congr cat_mid cat_mid⟩
              exact AllReadyB.nil
            exact AllReadyB.nil
          refine AllReadyB.cons rfl (fun K hK => ?_) ?_
          · skip
            go_simp
            have x2 := x2.alloc (.cells #[.int .i64 0] 3)
            have x6 := Blk.new1 wr.drew (.cells #[.int .i64 0] 3) [.int .i64 0] 3
            have n16 := T.far1 (g := wr.drew.heap.size + 1) (by simp)
            have n26 := T.far2 (g := wr.drew.heap.size + 1) (by simp)
            have T := T.alloc (.cells #[.int .i64 0] 3)
            have hS := And.intro T.ext T.blk
            refine hK.out _ _ (fun _ => hS) ?_
            clear hK K
            (try simp only [Act.put, List.setIfInBounds_toArray, List.set_cons_zero, List.set_cons_succ])
            refine wpAnyB_ready (rs := [3]) (by kernel_rfl) (by simp) ?_
            refine AllReadyB.cons rfl (fun K hK => ?_) ?_
            · skip
              refine step_app ((wr.drew.alloc (.cells #[.int .i64 0] 3)).alloc (.cells #[.int .i64 0] 3)) rfl (.tmp 67) (.tmp 68) rfl rfl T.o1 T.le ⟨(wr.drew.heap.size), 0, none⟩ 1 1 (fun _ => 0) rfl (one_news x2) (by omega) (by omega) _ rfl ?_
              intro g3 k3 w3 hown hgrow hat hlt
              have m6 := ne_app hat n16 x6.lt
              have x6 := x6.grown hgrow n16
              have n16 := m6
              have T := T.app1 hown hgrow hat
              clear hown hgrow hat hlt
              (try go_simp)
              have hS := And.intro T.ext T.blk
              refine hK.out _ _ (fun _ => hS) ?_
              clear hK K
              (try simp only [Act.put, List.setIfInBounds_toArray, List.set_cons_zero, List.set_cons_succ])
              refine wpAnyB_take0 (i := 8) (v := ?_) rfl (by kernel_rfl) (by kernel_rfl) (by kernel_rfl) (by kernel_rfl) (fun _ _ _ h => h) (Or.inl ⟨by rfl, ?_⟩) (fun _ => hS) ?_
              rotate_left
              · (intro V; go_simp; (try with_reducible rfl))
              (try simp only [Act.put, List.setIfInBounds_toArray, List.set_cons_zero, List.set_cons_succ])
              refine wpAnyB_ready (rs := [7]) (by kernel_rfl) (by simp) ?_
              refine AllReadyB.cons rfl (fun K hK => ?_) ?_
              · skip
                refine step_app w3 rfl (.tmp 71) (.tmp 72) rfl rfl T.o2 T.le ⟨(wr.drew.heap.size + 1), 0, none⟩ 1 1 (fun _ => 0) rfl (one_news x6) (by omega) (by omega) _ rfl ?_
                intro g7 k7 w7 hown hgrow hat hlt
                have T := T.app2 hown hgrow hat
                clear hown hgrow hat hlt
                (try go_simp)
                have hS := And.intro T.ext T.blk
                refine hK.out _ _ (fun _ => hS) ?_
                clear hK K
                (try simp only [Act.put, List.setIfInBounds_toArray, List.set_cons_zero, List.set_cons_succ])
                refine wpAnyB_ready (rs := [9]) (by kernel_rfl) (by simp) ?_
                refine AllReadyB.cons rfl (fun K hK => ?_) AllReadyB.nil
                have b90 := T.blk.at 0 _ rfl; have b91 := T.blk.at 1 _ rfl; have bf9 := T.blk.fr; have bl9 := T.blk.lt
                go_simp
                refine hK.out _ _ (fun h => absurd h (by decide)) ?_
                clear hK K
                (try simp only [Act.put, List.setIfInBounds_toArray, List.set_cons_zero, List.set_cons_succ])
                refine wpAnyB_take0 (i := 10) (v := ?_) rfl (by kernel_rfl) (by kernel_rfl) (by kernel_rfl) (by kernel_rfl) (fun _ _ _ h => h) (Or.inl ⟨by rfl, ?_⟩) (fun h => absurd h (by decide)) ?_
                rotate_left
                · (intro V; go_simp; (try with_reducible rfl))
                (try simp only [Act.put, List.setIfInBounds_toArray, List.set_cons_zero, List.set_cons_succ])
                refine wpAnyB_ready (rs := [11]) (by kernel_rfl) (by simp) ?_
                refine AllReadyB.cons rfl (fun K hK => ?_) AllReadyB.nil
                go_simp
                refine hK.out _ _ (fun h => absurd h (by decide)) ?_
                clear hK K
                (try simp only [Act.put, List.setIfInBounds_toArray, List.set_cons_zero, List.set_cons_succ])
                clear b90 b91 bf9 bl9
                have T := ((T.set 0 (.slice (some ⟨g3, 0, none⟩) (n + 1) k3) (by simp)).set 1 (.slice (some ⟨g7, 0, none⟩) (n + 1) k7) (by simp))
                refine wpAnyB_done (by kernel_rfl) ?_ _
                go_wp2_with fail
                go_meet
                exact ⟨some ⟨g3, 0, none⟩, k3, some ⟨g7, 0, none⟩, k7, T.congr cat_mid cat_mid⟩
              exact AllReadyB.nil
            exact AllReadyB.nil
          exact AllReadyB.nil
        refine AllReadyB.cons rfl (fun K hK => ?_) ?_
        · skip
          go_simp
          have x6 := Blk.new wr.drew [.int .i64 0] 3
          have n16 := T.far1 (g := wr.drew.heap.size) (by simp)
          have n26 := T.far2 (g := wr.drew.heap.size) (by simp)
          have T := T.alloc (.cells #[.int .i64 0] 3)
          have hS := And.intro T.ext T.blk
          refine hK.out _ _ (fun _ => hS) ?_
          clear hK K
          (try simp only [Act.put, List.setIfInBounds_toArray, List.set_cons_zero, List.set_cons_succ])
          refine wpAnyB_ready (rs := [2]) (by kernel_rfl) (by simp) ?_
          refine AllReadyB.cons rfl (fun K hK => ?_) ?_
          · skip
            go_simp
            have x6 := x6.alloc (.cells #[.int .i64 0] 3)
            have x2 := Blk.new1 wr.drew (.cells #[.int .i64 0] 3) [.int .i64 0] 3
            have n12 := T.far1 (g := wr.drew.heap.size + 1) (by simp)
            have n22 := T.far2 (g := wr.drew.heap.size + 1) (by simp)
            have T := T.alloc (.cells #[.int .i64 0] 3)
            have hS := And.intro T.ext T.blk
            refine hK.out _ _ (fun _ => hS) ?_
            clear hK K
            (try simp only [Act.put, List.setIfInBounds_toArray, List.set_cons_zero, List.set_cons_succ])
            refine wpAnyB_ready (rs := [3]) (by kernel_rfl) (by simp) ?_
            refine AllReadyB.cons rfl (fun K hK => ?_) ?_
            · skip
              refine step_app ((wr.drew.alloc (.cells #[.int .i64 0] 3)).alloc (.cells #[.int .i64 0] 3)) rfl (.tmp 67) (.tmp 68) rfl rfl T.o1 T.le ⟨(wr.drew.heap.size + 1), 0, none⟩ 1 1 (fun _ => 0) rfl (one_news x2) (by omega) (by omega) _ rfl ?_
              intro g3 k3 w3 hown hgrow hat hlt
              have m6 := ne_app hat n16 x6.lt
              have x6 := x6.grown hgrow n16
              have n16 := m6
              have T := T.app1 hown hgrow hat
              clear hown hgrow hat hlt
              (try go_simp)
              have hS := And.intro T.ext T.blk
              refine hK.out _ _ (fun _ => hS) ?_
              clear hK K
              (try simp only [Act.put, List.setIfInBounds_toArray, List.set_cons_zero, List.set_cons_succ])
              refine wpAnyB_take0 (i := 8) (v := ?_) rfl (by kernel_rfl) (by kernel_rfl) (by kernel_rfl) (by kernel_rfl) (fun _ _ _ h => h) (Or.inl ⟨by rfl, ?_⟩) (fun _ => hS) ?_
              rotate_left
              · (intro V; go_simp; (try with_reducible rfl))
              (try simp only [Act.put, List.setIfInBounds_toArray, List.set_cons_zero, List.set_cons_succ])
              refine wpAnyB_ready (rs := [7]) (by kernel_rfl) (by simp) ?_
              refine AllReadyB.cons rfl (fun K hK => ?_) ?_
              · skip
                refine step_app w3 rfl (.tmp 71) (.tmp 72) rfl rfl T.o2 T.le ⟨(wr.drew.heap.size), 0, none⟩ 1 1 (fun _ => 0) rfl (one_news x6) (by omega) (by omega) _ rfl ?_
                intro g7 k7 w7 hown hgrow hat hlt
                have T := T.app2 hown hgrow hat
                clear hown hgrow hat hlt
                (try go_simp)
                have hS := And.intro T.ext T.blk
                refine hK.out _ _ (fun _ => hS) ?_
                clear hK K
                (try simp only [Act.put, List.setIfInBounds_toArray, List.set_cons_zero, List.set_cons_succ])
                refine wpAnyB_ready (rs := [9]) (by kernel_rfl) (by simp) ?_
                refine AllReadyB.cons rfl (fun K hK => ?_) AllReadyB.nil
                have b90 := T.blk.at 0 _ rfl; have b91 := T.blk.at 1 _ rfl; have bf9 := T.blk.fr; have bl9 := T.blk.lt
                go_simp
                refine hK.out _ _ (fun h => absurd h (by decide)) ?_
                clear hK K
                (try simp only [Act.put, List.setIfInBounds_toArray, List.set_cons_zero, List.set_cons_succ])
                refine wpAnyB_take0 (i := 10) (v := ?_) rfl (by kernel_rfl) (by kernel_rfl) (by kernel_rfl) (by kernel_rfl) (fun _ _ _ h => h) (Or.inl ⟨by rfl, ?_⟩) (fun h => absurd h (by decide)) ?_
                rotate_left
                · (intro V; go_simp; (try with_reducible rfl))
                (try simp only [Act.put, List.setIfInBounds_toArray, List.set_cons_zero, List.set_cons_succ])
                refine wpAnyB_ready (rs := [11]) (by kernel_rfl) (by simp) ?_
                refine AllReadyB.cons rfl (fun K hK => ?_) AllReadyB.nil
                go_simp
                refine hK.out _ _ (fun h => absurd h (by decide)) ?_
                clear hK K
                (try simp only [Act.put, List.setIfInBounds_toArray, List.set_cons_zero, List.set_cons_succ])
                clear b90 b91 bf9 bl9
                have T := ((T.set 0 (.slice (some ⟨g3, 0, none⟩) (n + 1) k3) (by simp)).set 1 (.slice (some ⟨g7, 0, none⟩) (n + 1) k7) (by simp))
                refine wpAnyB_done (by kernel_rfl) ?_ _
                go_wp2_with fail
                go_meet
                exact ⟨some ⟨g3, 0, none⟩, k3, some ⟨g7, 0, none⟩, k7, T.congr cat_mid cat_mid⟩
              exact AllReadyB.nil
            exact AllReadyB.nil
          exact AllReadyB.nil
        exact AllReadyB.nil
      case rest =>
        clear T
        obtain ⟨a1, k1, a2, k2, T⟩ := hcut
        have HT := Lib.hid T
        clear T
        go_wp2_with fail
        go_loopw [8] (fun i wx => ∃ (p : Nat) (a1 : Option Addr) (k1 : Nat) (a2 : Option Addr) (k2 : Nat), p ≤ n ∧ i = .int .i64 p ∧ Two (w.alloc (.cells #[.slice none 0 0, .slice none 0 0] 24)) wx (w.heap.size + 1) ((w.heap.size + 1) + 1) [.slice a1 (n + 1 + p) k1, .slice a2 (n + 1 + p) k2] a1 (n + 1 + p) k1 (Pl.mir n z1) a2 (n + 1 + p) k2 (Pl.mir n z2)) (fun i _ => n - (intOf i).toNat)
        case atStart => exact ⟨0, a1, k1, a2, k2, by omega, rfl, HT.out⟩
        case round =>
          clear HT
          obtain ⟨p, a1, k1, a2, k2, hp', rfl, T⟩ := hrel
          by_cases hp : p < n
          · have ⟨q, hq⟩ : ∃ q : Nat, q = p := ⟨_, rfl⟩
            have cx := ((HE.out.trans T.ext).cell hbx).trans (HX.out p (by omega))
            have cy := ((HE.out.trans T.ext).cell hby).trans (HY.out p (by omega))
            have qn : (p : Int) < (n : Int) := by omega
            obtain ⟨x, hxx⟩ : ∃ x, x = z1 p := ⟨_, rfl⟩
            obtain ⟨y, hyy⟩ : ∃ y, y = z2 p := ⟨_, rfl⟩
            rw [← hxx] at cx
            rw [← hyy] at cy
            have HXX := Lib.hid hxx
            have HYY := Lib.hid hyy
            clear hxx hyy
            go_upto_region 16 with fail
            refine wp_region_B (fun V => Ext (w.alloc (.cells #[.slice none 0 0, .slice none 0 0] 24)) V ∧ Blk V (w.heap.size + 1) [.slice a1 (n + 1 + p) k1, .slice a2 (n + 1 + p) k2]) [17, 19] (by kernel_rfl) ?_
            have T := T.drew
            have hS := And.intro T.ext T.blk
            refine wpAnyB_take0 (i := 0) (v := ?_) rfl (by kernel_rfl) (by kernel_rfl) (by kernel_rfl) (by kernel_rfl) (fun _ _ _ h => h) (Or.inl ⟨by rfl, ?_⟩) (fun _ => hS) ?_
            rotate_left
            · (intro V; go_simp; (try with_reducible rfl))
            (try simp only [Act.put, List.setIfInBounds_toArray, List.set_cons_zero, List.set_cons_succ])
            refine wpAnyB_take (i := 1) (v := ?_) rfl (by kernel_rfl) (by kernel_rfl) (by kernel_rfl) (by kernel_rfl) (by kernel_rfl) (by kernel_rfl) (fun _ _ _ h => h) (Or.inl ⟨by rfl, ?_⟩) hS ?_
            rotate_left
            · (intro V hV; obtain ⟨hE, hB⟩ := hV; have c0 := hB.at 0 _ rfl; have c1 := hB.at 1 _ rfl; have c2 := ((HE.out.trans hE).cell hbx).trans (HX.out p (by omega)); rw [← HXX.out] at c2; have c3 := ((HE.out.trans hE).cell hby).trans (HY.out p (by omega)); rw [← HYY.out] at c3; go_simp; (try with_reducible rfl))
            (try simp only [Act.put, List.setIfInBounds_toArray, List.set_cons_zero, List.set_cons_succ])
            refine wpAnyB_take0 (i := 2) (v := ?_) rfl (by kernel_rfl) (by kernel_rfl) (by kernel_rfl) (by kernel_rfl) (fun _ _ _ h => h) (Or.inl ⟨by rfl, ?_⟩) (fun _ => hS) ?_
            rotate_left
            · (intro V; go_simp; (try with_reducible rfl))
            (try simp only [Act.put, List.setIfInBounds_toArray, List.set_cons_zero, List.set_cons_succ])
            refine wpAnyB_take0 (i := 3) (v := ?_) rfl (by kernel_rfl) (by kernel_rfl) (by kernel_rfl) (by kernel_rfl) (fun _ _ _ h => h) (Or.inl ⟨by rfl, ?_⟩) (fun _ => hS) ?_
            rotate_left
            · (intro V; go_simp; (try with_reducible rfl))
            (try simp only [Act.put, List.setIfInBounds_toArray, List.set_cons_zero, List.set_cons_succ])
            refine wpAnyB_take0 (i := 4) (v := ?_) rfl (by kernel_rfl) (by kernel_rfl) (by kernel_rfl) (by kernel_rfl) (fun _ _ _ h => h) (Or.inl ⟨by rfl, ?_⟩) (fun _ => hS) ?_
            rotate_left
            · (intro V; go_simp; (try with_reducible rfl))
            (try simp only [Act.put, List.setIfInBounds_toArray, List.set_cons_zero, List.set_cons_succ])
            refine wpAnyB_take (i := 5) (v := ?_) rfl (by kernel_rfl) (by kernel_rfl) (by kernel_rfl) (by kernel_rfl) (by kernel_rfl) (by kernel_rfl) (fun _ _ _ h => h) (Or.inl ⟨by rfl, ?_⟩) hS ?_
            rotate_left
            · (intro V hV; obtain ⟨hE, hB⟩ := hV; have c0 := hB.at 0 _ rfl; have c1 := hB.at 1 _ rfl; have c2 := ((HE.out.trans hE).cell hbx).trans (HX.out p (by omega)); rw [← HXX.out] at c2; have c3 := ((HE.out.trans hE).cell hby).trans (HY.out p (by omega)); rw [← HYY.out] at c3; go_simp; (try with_reducible rfl))
            (try simp only [Act.put, List.setIfInBounds_toArray, List.set_cons_zero, List.set_cons_succ])
            refine wpAnyB_take0 (i := 8) (v := ?_) rfl (by kernel_rfl) (by kernel_rfl) (by kernel_rfl) (by kernel_rfl) (fun _ _ _ h => h) (Or.inl ⟨by rfl, ?_⟩) (fun _ => hS) ?_
            rotate_left
            · (intro V; go_simp; (try with_reducible rfl))
            (try simp only [Act.put, List.setIfInBounds_toArray, List.set_cons_zero, List.set_cons_succ])
            refine wpAnyB_take (i := 9) (v := ?_) rfl (by kernel_rfl) (by kernel_rfl) (by kernel_rfl) (by kernel_rfl) (by kernel_rfl) (by kernel_rfl) (fun _ _ _ h => h) (Or.inl ⟨by rfl, ?_⟩) hS ?_
            rotate_left
            · (intro V hV; obtain ⟨hE, hB⟩ := hV; have c0 := hB.at 0 _ rfl; have c1 := hB.at 1 _ rfl; have c2 := ((HE.out.trans hE).cell hbx).trans (HX.out p (by omega)); rw [← HXX.out] at c2; have c3 := ((HE.out.trans hE).cell hby).trans (HY.out p (by omega)); rw [← HYY.out] at c3; go_simp; (try with_reducible rfl))
            (try simp only [Act.put, List.setIfInBounds_toArray, List.set_cons_zero, List.set_cons_succ])
            refine wpAnyB_take0 (i := 10) (v := ?_) rfl (by kernel_rfl) (by kernel_rfl) (by kernel_rfl) (by kernel_rfl) (fun _ _ _ h => h) (Or.inl ⟨by rfl, ?_⟩) (fun _ => hS) ?_
            rotate_left
            · (intro V; go_simp; (try with_reducible rfl))
            (try simp only [Act.put, List.setIfInBounds_toArray, List.set_cons_zero, List.set_cons_succ])
            refine wpAnyB_take0 (i := 11) (v := ?_) rfl (by kernel_rfl) (by kernel_rfl) (by kernel_rfl) (by kernel_rfl) (fun _ _ _ h => h) (Or.inl ⟨by rfl, ?_⟩) (fun _ => hS) ?_
            rotate_left
            · (intro V; go_simp; (try with_reducible rfl))
            (try simp only [Act.put, List.setIfInBounds_toArray, List.set_cons_zero, List.set_cons_succ])
            refine wpAnyB_take0 (i := 12) (v := ?_) rfl (by kernel_rfl) (by kernel_rfl) (by kernel_rfl) (by kernel_rfl) (fun _ _ _ h => h) (Or.inl ⟨by rfl, ?_⟩) (fun _ => hS) ?_
            rotate_left
            · (intro V; go_simp; (try with_reducible rfl))
            (try simp only [Act.put, List.setIfInBounds_toArray, List.set_cons_zero, List.set_cons_succ])
            refine wpAnyB_take (i := 13) (v := ?_) rfl (by kernel_rfl) (by kernel_rfl) (by kernel_rfl) (by kernel_rfl) (by kernel_rfl) (by kernel_rfl) (fun _ _ _ h => h) (Or.inl ⟨by rfl, ?_⟩) hS ?_
            rotate_left
            · (intro V hV; obtain ⟨hE, hB⟩ := hV; have c0 := hB.at 0 _ rfl; have c1 := hB.at 1 _ rfl; have c2 := ((HE.out.trans hE).cell hbx).trans (HX.out p (by omega)); rw [← HXX.out] at c2; have c3 := ((HE.out.trans hE).cell hby).trans (HY.out p (by omega)); rw [← HYY.out] at c3; go_simp; (try with_reducible rfl))
            (try simp only [Act.put, List.setIfInBounds_toArray, List.set_cons_zero, List.set_cons_succ])
            refine wpAnyB_ready (rs := [6, 14]) (by kernel_rfl) (by simp) ?_
            refine AllReadyB.cons rfl (fun K hK => ?_) ?_
            · skip
              go_simp
              have x6 := Blk.new wr.drew [.int .i64 x] 3
              have n16 := T.far1 (g := wr.drew.heap.size) (by simp)
              have n26 := T.far2 (g := wr.drew.heap.size) (by simp)
              have T := T.alloc (.cells #[.int .i64 x] 3)
              have hS := And.intro T.ext T.blk
              refine hK.out _ _ (fun _ => hS) ?_
              clear hK K
              (try simp only [Act.put, List.setIfInBounds_toArray, List.set_cons_zero, List.set_cons_succ])
              refine wpAnyB_ready (rs := [7, 14]) (by kernel_rfl) (by simp) ?_
              refine AllReadyB.cons rfl (fun K hK => ?_) ?_
              · skip
                refine step_app (wr.drew.alloc (.cells #[.int .i64 x] 3)) rfl (.tmp 83) (.tmp 88) rfl rfl T.o1 T.le ⟨(wr.drew.heap.size), 0, none⟩ 1 1 (fun _ => x) rfl (one_news x6) (by omega) (by omega) _ rfl ?_
                intro g7 k7 w7 hown hgrow hat hlt
                have T := T.app1 hown hgrow hat
                clear hown hgrow hat hlt
                (try go_simp)
                have hS := And.intro T.ext T.blk
                refine hK.out _ _ (fun _ => hS) ?_
                clear hK K
                (try simp only [Act.put, List.setIfInBounds_toArray, List.set_cons_zero, List.set_cons_succ])
                refine wpAnyB_take0 (i := 16) (v := ?_) rfl (by kernel_rfl) (by kernel_rfl) (by kernel_rfl) (by kernel_rfl) (fun _ _ _ h => h) (Or.inl ⟨by rfl, ?_⟩) (fun _ => hS) ?_
                rotate_left
                · (intro V; go_simp; (try with_reducible rfl))
                (try simp only [Act.put, List.setIfInBounds_toArray, List.set_cons_zero, List.set_cons_succ])
                refine wpAnyB_ready (rs := [14]) (by kernel_rfl) (by simp) ?_
                refine AllReadyB.cons rfl (fun K hK => ?_) ?_
                · skip
                  go_simp
                  have x14 := Blk.new w7 [.int .i64 y] 3
                  have n114 := T.far1 (g := w7.heap.size) (by simp)
                  have n214 := T.far2 (g := w7.heap.size) (by simp)
                  have T := T.alloc (.cells #[.int .i64 y] 3)
                  have hS := And.intro T.ext T.blk
                  refine hK.out _ _ (fun _ => hS) ?_
                  clear hK K
                  (try simp only [Act.put, List.setIfInBounds_toArray, List.set_cons_zero, List.set_cons_succ])
                  refine wpAnyB_ready (rs := [15]) (by kernel_rfl) (by simp) ?_
                  refine AllReadyB.cons rfl (fun K hK => ?_) ?_
                  · skip
                    refine step_app (w7.alloc (.cells #[.int .i64 y] 3)) rfl (.tmp 91) (.tmp 96) rfl rfl T.o2 T.le ⟨(w7.heap.size), 0, none⟩ 1 1 (fun _ => y) rfl (one_news x14) (by omega) (by omega) _ rfl ?_
                    intro g15 k15 w15 hown hgrow hat hlt
                    have T := T.app2 hown hgrow hat
                    clear hown hgrow hat hlt
                    (try go_simp)
                    have hS := And.intro T.ext T.blk
                    refine hK.out _ _ (fun _ => hS) ?_
                    clear hK K
                    (try simp only [Act.put, List.setIfInBounds_toArray, List.set_cons_zero, List.set_cons_succ])
                    refine wpAnyB_ready (rs := [17]) (by kernel_rfl) (by simp) ?_
                    refine AllReadyB.cons rfl (fun K hK => ?_) AllReadyB.nil
                    have b90 := T.blk.at 0 _ rfl; have b91 := T.blk.at 1 _ rfl; have bf9 := T.blk.fr; have bl9 := T.blk.lt
                    go_simp
                    refine hK.out _ _ (fun h => absurd h (by decide)) ?_
                    clear hK K
                    (try simp only [Act.put, List.setIfInBounds_toArray, List.set_cons_zero, List.set_cons_succ])
                    refine wpAnyB_take0 (i := 18) (v := ?_) rfl (by kernel_rfl) (by kernel_rfl) (by kernel_rfl) (by kernel_rfl) (fun _ _ _ h => h) (Or.inl ⟨by rfl, ?_⟩) (fun h => absurd h (by decide)) ?_
                    rotate_left
                    · (intro V; go_simp; (try with_reducible rfl))
                    (try simp only [Act.put, List.setIfInBounds_toArray, List.set_cons_zero, List.set_cons_succ])
                    refine wpAnyB_ready (rs := [19]) (by kernel_rfl) (by simp) ?_
                    refine AllReadyB.cons rfl (fun K hK => ?_) AllReadyB.nil
                    go_simp
                    refine hK.out _ _ (fun h => absurd h (by decide)) ?_
                    clear hK K
                    (try simp only [Act.put, List.setIfInBounds_toArray, List.set_cons_zero, List.set_cons_succ])
                    clear b90 b91 bf9 bl9
                    have T := ((T.set 0 (.slice (some ⟨g7, 0, none⟩) (n + 1 + p + 1) k7) (by simp)).set 1 (.slice (some ⟨g15, 0, none⟩) (n + 1 + p + 1) k15) (by simp))
                    refine wpAnyB_done (by kernel_rfl) ?_ _
                    go_wp2_with fail
                    go_roundw
                    case rel => exact ⟨p + 1, some ⟨g7, 0, none⟩, k7, some ⟨g15, 0, none⟩, k15, by omega, by go_num, T.congr (cat_up HXX.out) (cat_up HYY.out)⟩
                    case measure => first | (simp [intOf]; done) | (simp [intOf]; omega)
                  exact AllReadyB.nil
                exact AllReadyB.nil
              refine AllReadyB.cons rfl (fun K hK => ?_) ?_
              · skip
                go_simp
                have x6 := x6.alloc (.cells #[.int .i64 y] 3)
                have x14 := Blk.new1 wr.drew (.cells #[.int .i64 x] 3) [.int .i64 y] 3
                have n114 := T.far1 (g := wr.drew.heap.size + 1) (by simp)
                have n214 := T.far2 (g := wr.drew.heap.size + 1) (by simp)
                have T := T.alloc (.cells #[.int .i64 y] 3)
                have hS := And.intro T.ext T.blk
                refine hK.out _ _ (fun _ => hS) ?_
                clear hK K
                (try simp only [Act.put, List.setIfInBounds_toArray, List.set_cons_zero, List.set_cons_succ])
                refine wpAnyB_ready (rs := [7]) (by kernel_rfl) (by simp) ?_
                refine AllReadyB.cons rfl (fun K hK => ?_) ?_
                · skip
                  refine step_app ((wr.drew.alloc (.cells #[.int .i64 x] 3)).alloc (.cells #[.int .i64 y] 3)) rfl (.tmp 83) (.tmp 88) rfl rfl T.o1 T.le ⟨(wr.drew.heap.size), 0, none⟩ 1 1 (fun _ => x) rfl (one_news x6) (by omega) (by omega) _ rfl ?_
                  intro g7 k7 w7 hown hgrow hat hlt
                  have m14 := ne_app hat n114 x14.lt
                  have x14 := x14.grown hgrow n114
                  have n114 := m14
                  have T := T.app1 hown hgrow hat
                  clear hown hgrow hat hlt
                  (try go_simp)
                  have hS := And.intro T.ext T.blk
                  refine hK.out _ _ (fun _ => hS) ?_
                  clear hK K
                  (try simp only [Act.put, List.setIfInBounds_toArray, List.set_cons_zero, List.set_cons_succ])
                  refine wpAnyB_take0 (i := 16) (v := ?_) rfl (by kernel_rfl) (by kernel_rfl) (by kernel_rfl) (by kernel_rfl) (fun _ _ _ h => h) (Or.inl ⟨by rfl, ?_⟩) (fun _ => hS) ?_
                  rotate_left
                  · (intro V; go_simp; (try with_reducible rfl))
                  (try simp only [Act.put, List.setIfInBounds_toArray, List.set_cons_zero, List.set_cons_succ])
                  refine wpAnyB_ready (rs := [15]) (by kernel_rfl) (by simp) ?_
                  refine AllReadyB.cons rfl (fun K hK => ?_) ?_
                  · skip
                    refine step_app w7 rfl (.tmp 91) (.tmp 96) rfl rfl T.o2 T.le ⟨(wr.drew.heap.size + 1), 0, none⟩ 1 1 (fun _ => y) rfl (one_news x14) (by omega) (by omega) _ rfl ?_
                    intro g15 k15 w15 hown hgrow hat hlt
                    have T := T.app2 hown hgrow hat
                    clear hown hgrow hat hlt
                    (try go_simp)
                    have hS := And.intro T.ext T.blk
                    refine hK.out _ _ (fun _ => hS) ?_
                    clear hK K
                    (try simp only [Act.put, List.setIfInBounds_toArray, List.set_cons_zero, List.set_cons_succ])
                    refine wpAnyB_ready (rs := [17]) (by kernel_rfl) (by simp) ?_
                    refine AllReadyB.cons rfl (fun K hK => ?_) AllReadyB.nil
                    have b90 := T.blk.at 0 _ rfl; have b91 := T.blk.at 1 _ rfl; have bf9 := T.blk.fr; have bl9 := T.blk.lt
                    go_simp
                    refine hK.out _ _ (fun h => absurd h (by decide)) ?_
                    clear hK K
                    (try simp only [Act.put, List.setIfInBounds_toArray, List.set_cons_zero, List.set_cons_succ])
                    refine wpAnyB_take0 (i := 18) (v := ?_) rfl (by kernel_rfl) (by kernel_rfl) (by kernel_rfl) (by kernel_rfl) (fun _ _ _ h => h) (Or.inl ⟨by rfl, ?_⟩) (fun h => absurd h (by decide)) ?_
                    rotate_left
                    · (intro V; go_simp; (try with_reducible rfl))
                    (try simp only [Act.put, List.setIfInBounds_toArray, List.set_cons_zero, List.set_cons_succ])
                    refine wpAnyB_ready (rs := [19]) (by kernel_rfl) (by simp) ?_
                    refine AllReadyB.cons rfl (fun K hK => ?_) AllReadyB.nil
                    go_simp
                    refine hK.out _ _ (fun h => absurd h (by decide)) ?_
                    clear hK K
                    (try simp only [Act.put, List.setIfInBounds_toArray, List.set_cons_zero, List.set_cons_succ])
                    clear b90 b91 bf9 bl9
                    have T := ((T.set 0 (.slice (some ⟨g7, 0, none⟩) (n + 1 + p + 1) k7) (by simp)).set 1 (.slice (some ⟨g15, 0, none⟩) (n + 1 + p + 1) k15) (by simp))
                    refine wpAnyB_done (by kernel_rfl) ?_ _
                    go_wp2_with fail
                    go_roundw
                    case rel => exact ⟨p + 1, some ⟨g7, 0, none⟩, k7, some ⟨g15, 0, none⟩, k15, by omega, by go_num, T.congr (cat_up HXX.out) (cat_up HYY.out)⟩
                    case measure => first | (simp [intOf]; done) | (simp [intOf]; omega)
                  exact AllReadyB.nil
                exact AllReadyB.nil
              exact AllReadyB.nil
            refine AllReadyB.cons rfl (fun K hK => ?_) ?_
            · skip
              go_simp
              have x14 := Blk.new wr.drew [.int .i64 y] 3
              have n114 := T.far1 (g := wr.drew.heap.size) (by simp)
              have n214 := T.far2 (g := wr.drew.heap.size) (by simp)
              have T := T.alloc (.cells #[.int .i64 y] 3)
              have hS := And.intro T.ext T.blk
              refine hK.out _ _ (fun _ => hS) ?_
              clear hK K
              (try simp only [Act.put, List.setIfInBounds_toArray, List.set_cons_zero, List.set_cons_succ])
              refine wpAnyB_ready (rs := [6]) (by kernel_rfl) (by simp) ?_
              refine AllReadyB.cons rfl (fun K hK => ?_) ?_
              · skip
                go_simp
                have x14 := x14.alloc (.cells #[.int .i64 x] 3)
                have x6 := Blk.new1 wr.drew (.cells #[.int .i64 y] 3) [.int .i64 x] 3
                have n16 := T.far1 (g := wr.drew.heap.size + 1) (by simp)
                have n26 := T.far2 (g := wr.drew.heap.size + 1) (by simp)
                have T := T.alloc (.cells #[.int .i64 x] 3)
                have hS := And.intro T.ext T.blk
                refine hK.out _ _ (fun _ => hS) ?_
                clear hK K
                (try simp only [Act.put, List.setIfInBounds_toArray, List.set_cons_zero, List.set_cons_succ])
                refine wpAnyB_ready (rs := [7]) (by kernel_rfl) (by simp) ?_
                refine AllReadyB.cons rfl (fun K hK => ?_) ?_
                · skip
                  refine step_app ((wr.drew.alloc (.cells #[.int .i64 y] 3)).alloc (.cells #[.int .i64 x] 3)) rfl (.tmp 83) (.tmp 88) rfl rfl T.o1 T.le ⟨(wr.drew.heap.size + 1), 0, none⟩ 1 1 (fun _ => x) rfl (one_news x6) (by omega) (by omega) _ rfl ?_
                  intro g7 k7 w7 hown hgrow hat hlt
                  have m14 := ne_app hat n114 x14.lt
                  have x14 := x14.grown hgrow n114
                  have n114 := m14
                  have T := T.app1 hown hgrow hat
                  clear hown hgrow hat hlt
                  (try go_simp)
                  have hS := And.intro T.ext T.blk
                  refine hK.out _ _ (fun _ => hS) ?_
                  clear hK K
                  (try simp only [Act.put, List.setIfInBounds_toArray, List.set_cons_zero, List.set_cons_succ])
                  refine wpAnyB_take0 (i := 16) (v := ?_) rfl (by kernel_rfl) (by kernel_rfl) (by kernel_rfl) (by kernel_rfl) (fun _ _ _ h => h) (Or.inl ⟨by rfl, ?_⟩) (fun _ => hS) ?_
                  rotate_left
                  · (intro V; go_simp; (try with_reducible rfl))
                  (try simp only [Act.put, List.setIfInBounds_toArray, List.set_cons_zero, List.set_cons_succ])
                  refine wpAnyB_ready (rs := [15]) (by kernel_rfl) (by simp) ?_
                  refine AllReadyB.cons rfl (fun K hK => ?_) ?_
                  · skip
                    refine step_app w7 rfl (.tmp 91) (.tmp 96) rfl rfl T.o2 T.le ⟨(wr.drew.heap.size), 0, none⟩ 1 1 (fun _ => y) rfl (one_news x14) (by omega) (by omega) _ rfl ?_
                    intro g15 k15 w15 hown hgrow hat hlt
                    have T := T.app2 hown hgrow hat
                    clear hown hgrow hat hlt
                    (try go_simp)
                    have hS := And.intro T.ext T.blk
                    refine hK.out _ _ (fun _ => hS) ?_
                    clear hK K
                    (try simp only [Act.put, List.setIfInBounds_toArray, List.set_cons_zero, List.set_cons_succ])
                    refine wpAnyB_ready (rs := [17]) (by kernel_rfl) (by simp) ?_
                    refine AllReadyB.cons rfl (fun K hK => ?_) AllReadyB.nil
                    have b90 := T.blk.at 0 _ rfl; have b91 := T.blk.at 1 _ rfl; have bf9 := T.blk.fr; have bl9 := T.blk.lt
                    go_simp
                    refine hK.out _ _ (fun h => absurd h (by decide)) ?_
                    clear hK K
                    (try simp only [Act.put, List.setIfInBounds_toArray, List.set_cons_zero, List.set_cons_succ])
                    refine wpAnyB_take0 (i := 18) (v := ?_) rfl (by kernel_rfl) (by kernel_rfl) (by kernel_rfl) (by kernel_rfl) (fun _ _ _ h => h) (Or.inl ⟨by rfl, ?_⟩) (fun h => absurd h (by decide)) ?_
                    rotate_left
                    · (intro V; go_simp; (try with_reducible rfl))
                    (try simp only [Act.put, List.setIfInBounds_toArray, List.set_cons_zero, List.set_cons_succ])
                    refine wpAnyB_ready (rs := [19]) (by kernel_rfl) (by simp) ?_
                    refine AllReadyB.cons rfl (fun K hK => ?_) AllReadyB.nil
                    go_simp
                    refine hK.out _ _ (fun h => absurd h (by decide)) ?_
                    clear hK K
                    (try simp only [Act.put, List.setIfInBounds_toArray, List.set_cons_zero, List.set_cons_succ])
                    clear b90 b91 bf9 bl9
                    have T := ((T.set 0 (.slice (some ⟨g7, 0, none⟩) (n + 1 + p + 1) k7) (by simp)).set 1 (.slice (some ⟨g15, 0, none⟩) (n + 1 + p + 1) k15) (by simp))
                    refine wpAnyB_done (by kernel_rfl) ?_ _
                    go_wp2_with fail
                    go_roundw
                    case rel => exact ⟨p + 1, some ⟨g7, 0, none⟩, k7, some ⟨g15, 0, none⟩, k15, by omega, by go_num, T.congr (cat_up HXX.out) (cat_up HYY.out)⟩
                    case measure => first | (simp [intOf]; done) | (simp [intOf]; omega)
                  exact AllReadyB.nil
                exact AllReadyB.nil
              exact AllReadyB.nil
            exact AllReadyB.nil
          · obtain rfl : n = p := by omega
            have hge : (n : Int) ≤ (n : Int) := Int.le_refl _
            have Z3 := HZ0.out.ext T.ext
            have b0 := T.blk.at 0 _ rfl
            have b1 := T.blk.at 1 _ rfl
            have CK := check09_eq a1 a2 k1 k2 (odc n z1 z2) _ rfl T.o1.row T.o2.row (by show n + 1 + n ≤ maxLen; unfold maxLen; omega)
            by_cases hc : Pl.chk (odc n z1 z2) = 0
            · rw [hc] at CK
              have CK := Lib.hid CK
              have HC := Lib.hid hc
              have HT9 := Lib.hid T
              clear hc T
              go_wp2_with fail
              refine CK.out.mono ?_
              rintro e w9 ⟨rfl, hx9⟩
              have Z4 := Z3.ext hx9
              have y0 := Z4.at 0 _ rfl
              have y1 := Z4.at 1 _ rfl
              have yl := Z4.lt
              have yf := Z4.fr
              have B9 := HT9.out.blk.ext hx9
              have d0 := B9.at 0 _ rfl
              have d1 := B9.at 1 _ rfl
              have dl := B9.lt
              clear CK
              go_wp2_with fail
              have o1 := HT9.out.o1.ext hx9
              have o2 := HT9.out.o2.ext hx9
              refine bodyPost_ret (rodd_ret (n := w.heap.size) ((Z4.set 0 (.slice a1 (n + 1 + n) k1) (by simp)).set 1 (.slice a2 (n + 1 + n) k2) (by simp)) rfl rfl) rfl (.inl ⟨HC.out, a1, k1, a2, k2, rfl, ?_, ?_, ?_⟩)
              · exact ((o1.far (fun b hb => by have := (o1.lo b hb).1; omega)).far (fun b hb => by have := (o1.lo b hb).1; omega)).weak (by omega)
              · exact ((o2.far (fun b hb => by have := (o2.lo b hb).1; omega)).far (fun b hb => by have := (o2.lo b hb).1; omega)).weak (by omega)
              · exact (((HE.out.trans HT9.out.ext).trans hx9).setCell (Nat.le_refl _) _).setCell (Nat.le_refl _) _
            · skip
              have CK := Lib.hid CK
              have HC := Lib.hid hc
              have HT9 := Lib.hid T
              obtain ⟨r, hr⟩ : ∃ r, r = Pl.chk (odc n z1 z2) := ⟨_, rfl⟩
              have hr0 : ¬ r = 0 := by rw [hr]; exact hc
              have hr1 : (r == 0) = false := by simpa using hr0
              have hr2 : (r != 0) = true := by simpa using hr0
              have HR := Lib.hid hr
              rw [← hr] at CK
              clear hc T hr
              go_wp2_with fail
              refine CK.out.mono ?_
              rintro e w9 ⟨rfl, hx9⟩
              have Z4 := Z3.ext hx9
              have y0 := Z4.at 0 _ rfl
              have y1 := Z4.at 1 _ rfl
              have yl := Z4.lt
              have yf := Z4.fr
              clear CK
              go_wp2_with fail
              refine bodyPost_ret (rodd_ret (n := w.heap.size) ((Z4.set 0 (.slice none 0 0) (by simp)).set 1 (.slice none 0 0) (by simp)) rfl rfl) rfl (.inr ⟨HC.out, ?_, ?_⟩)
              · rw [← HR.out]; rfl
              · exact (((HE.out.trans HT9.out.ext).trans hx9).setCell (Nat.le_refl _) _).setCell (Nat.le_refl _) _

end Go.Proofs.Ytbeolonbboibfaa
