/- The contracts of the reference's Scale.
   Conditions: the bounds that each names. -/
import Derived.Test.YtbeolonbboibfaaTwo
import Derived.Test.YtbeolonbboibfaaScale
import Derived.Deep.DeepCutAuto
namespace Go.Proofs.Ytbeolonbboibfaa
open Go.ChangeShapes Go.WideShapes Go.ChangeAt Go.RowKit

theorem rscale_ret {W : World} {n : Nat} {u0 u1 e : Value} {tmps : Array Value} (Z : Blk W n [u0, u1]) (h : tmps[4]? = some (.pointer (some ⟨n, 0, none⟩))) (h9 : tmps[5]? = some e) :
    (results Try.f31 tmps).run Try.prog W = .ok (.tuple #[.agg #[u0, u1], e]) W := by
  have z0 := Z.at 0 _ rfl
  have z1 := Z.at 1 _ rfl
  simp [results, Try.results31, go_sem, z0, z1, h, h9]

set_option linter.unusedSimpArgs false in
set_option maxRecDepth 100000 in
set_option maxHeartbeats 1000000 in
theorem rscale_rng (a b : Option Addr) (k l : Nat) (c : Pl.Cv) (m : Int) (w : World) (hm : m < 0 ∨ 131072 < m) :
    Calls Try.prog 31 #[.agg #[.slice a c.nx k, .slice b c.nx l], .int .i64 m] w fun e w' => e = .returned (.tuple #[.agg #[.slice none 0 0, .slice none 0 0], .int .i64 3]) ∧ Ext w w' := by
  have E0 : Ext w ((w.alloc (.cells #[.slice a c.nx k, .slice b c.nx l] 24)).alloc (.cells #[.slice none 0 0, .slice none 0 0] 24)) := ((Ext.refl w).alloc _).alloc _
  have Z3 := Blk.new1 w (.cells #[.slice a c.nx k, .slice b c.nx l] 24) [.slice none 0 0, .slice none 0 0] 24
  have HZ := Lib.hid Z3
  have HE := Lib.hid E0
  have z0 := Z3.at 0 _ rfl
  have z1 := Z3.at 1 _ rfl
  have zl := Z3.lt
  have zf := Z3.fr
  clear E0 Z3
  rcases hm with hm | hm
  · have hm2 : m ≤ 131072 := by omega
    go_enter Try.func31, Try.ntmps31
    go_wp2_with fail
    have Z3 := HZ.out
    refine bodyPost_ret (rscale_ret (n := w.heap.size + 1) Z3 rfl rfl) rfl ⟨rfl, HE.out⟩
  · have hm2 : 0 ≤ m := by omega
    go_enter Try.func31, Try.ntmps31
    go_wp2_with fail
    have Z3 := HZ.out
    refine bodyPost_ret (rscale_ret (n := w.heap.size + 1) Z3 rfl rfl) rfl ⟨rfl, HE.out⟩

set_option linter.unusedSimpArgs false in
set_option maxRecDepth 100000 in
set_option maxHeartbeats 1000000 in
theorem rscale_ok (a b : Option Addr) (k l : Nat) (c : Pl.Cv) (m : Int) (w : World) (h : Pl.chk c = 0) (m0 : 0 ≤ m) (m1 : m ≤ 131072) (hz : ∀ j, j < c.nx → ZIn (zsc c m j)) (hx : Row w a c.nx c.x) (hy : Row w b c.nx c.y) :
    Calls Try.prog 31 #[.agg #[.slice a c.nx k, .slice b c.nx l], .int .i64 m] w fun e w' => ∃ a1 k1 a2 k2, e = .returned (.tuple #[.agg #[.slice a1 c.nx k1, .slice a2 c.nx k2], .int .i64 0]) ∧ OwnI w' w.heap.size a1 c.nx k1 c.x ∧ OwnI w' w.heap.size a2 c.nx k2 (zsc c m) ∧ Ext w w' := by
  have g := Pl.good_of c h
  have g2 := g.two
  have g3 := g.few
  obtain ⟨bx, ox, rfl, hbx, hcx⟩ := hx (by omega)
  obtain ⟨bY, oY, rfl, hby, hcy⟩ := hy (by omega)
  have E0 : Ext w ((w.alloc (.cells #[.slice (some ⟨bx, ox, none⟩) c.nx k, .slice (some ⟨bY, oY, none⟩) c.nx l] 24)).alloc (.cells #[.slice none 0 0, .slice none 0 0] 24)) := ((Ext.refl w).alloc _).alloc _
  have A0 := (Blk.new w [.slice (some ⟨bx, ox, none⟩) c.nx k, .slice (some ⟨bY, oY, none⟩) c.nx l] 24).alloc (.cells #[.slice none 0 0, .slice none 0 0] 24)
  have Z0 := Blk.new1 w (.cells #[.slice (some ⟨bx, ox, none⟩) c.nx k, .slice (some ⟨bY, oY, none⟩) c.nx l] 24) [.slice none 0 0, .slice none 0 0] 24
  have T0 := Two.start ((w.alloc (.cells #[.slice (some ⟨bx, ox, none⟩) c.nx k, .slice (some ⟨bY, oY, none⟩) c.nx l] 24)).alloc (.cells #[.slice none 0 0, .slice none 0 0] 24)) (.slice none 0 0) (.slice none 0 0) 24 c.x (zsc c m)
  have hsz : ((w.alloc (.cells #[.slice (some ⟨bx, ox, none⟩) c.nx k, .slice (some ⟨bY, oY, none⟩) c.nx l] 24)).alloc (.cells #[.slice none 0 0, .slice none 0 0] 24)).heap.size = w.heap.size + 1 + 1 := by simp
  rw [hsz] at T0
  have HT := Lib.hid T0
  have HA := Lib.hid A0
  have HZ0 := Lib.hid Z0
  have HE := Lib.hid E0
  have HX := Lib.hid hcx
  have HY := Lib.hid hcy
  have n2 : (2 : Int) ≤ (c.nx : Int) := by omega
  have n3 : (c.nx : Int) ≤ 32 := by omega
  have HZ : Hid (∀ j, j < c.nx → _) := Lib.hid (fun j hj => zsc_bd g m0 m1 (j := j) hj)
  have HI := Lib.hid hz
  clear hx hy hcx hcy g h hz A0 Z0 T0 hsz E0
  go_enter Try.func31, Try.ntmps31
  go_wp2_with fail
  go_loopw [7] (fun i wr => ∃ (j : Nat) (a1 : Option Addr) (k1 : Nat) (a2 : Option Addr) (k2 : Nat), j ≤ c.nx ∧ i = .int .i64 j ∧ Two ((w.alloc (.cells #[.slice (some ⟨bx, ox, none⟩) c.nx k, .slice (some ⟨bY, oY, none⟩) c.nx l] 24)).alloc (.cells #[.slice none 0 0, .slice none 0 0] 24)) wr (w.heap.size + 1 + 1) ((w.heap.size + 1 + 1) + 1) [.slice a1 j k1, .slice a2 j k2] a1 j k1 c.x a2 j k2 (zsc c m)) (fun i _ => c.nx - (intOf i).toNat)
  case atStart => exact ⟨0, none, 0, none, 0, by omega, rfl, HT.out⟩
  case round =>
    obtain ⟨j, a1, k1, a2, k2, hj', rfl, T⟩ := hrel
    by_cases hj : j < c.nx
    · have ⟨⟨p0, p1⟩, z0, z1⟩ := HZ.out j (by omega)
      have ⟨i0, i1⟩ := HI.out j hj
      have A := HA.out.ext T.ext
      have a0 := A.at 0 _ rfl
      have a1' := A.at 1 _ rfl
      have cx := ((HE.out.trans T.ext).cell hbx).trans (HX.out j (by omega))
      have cy := ((HE.out.trans T.ext).cell hby).trans (HY.out j (by omega))
      have ej : (j : Int) < (c.nx : Int) := by omega
      have jn : j < c.nx := by omega
      obtain ⟨z, hz⟩ : ∃ z, z = zsc c m j := ⟨_, rfl⟩
      rw [← hz] at z0 z1 i0 i1
      have wm : IntKind.i64.wrap (c.y j * m) = c.y j * m := IntWalk.i64_in _ (by omega)
      have wq : IntKind.i64.wrap ((c.y j * m).tdiv 65536) = z := by rw [hz]; exact IntWalk.i64_in _ (by have := HZ.out j (by omega); unfold zsc at this; omega)
      have dq : (c.y j * m).tdiv 65536 = z := hz.symm
      have HQ := Lib.hid hz
      have HXj : Hid (c.x j = c.x j) := Lib.hid rfl
      clear hz
      obtain ⟨y, hyy⟩ : ∃ y, y = c.y j := ⟨_, rfl⟩
      rw [← hyy] at wm wq dq cy p0 p1
      clear hyy
      obtain ⟨x, hxx⟩ : ∃ x, x = c.x j := ⟨_, rfl⟩
      rw [← hxx] at cx
      have HXX := Lib.hid hxx
      clear hxx
      go_upto_region 10 with fail
      refine wp_region_B (fun V => Ext ((w.alloc (.cells #[.slice (some ⟨bx, ox, none⟩) c.nx k, .slice (some ⟨bY, oY, none⟩) c.nx l] 24)).alloc (.cells #[.slice none 0 0, .slice none 0 0] 24)) V ∧ Blk V (w.heap.size + 1 + 1) [.slice a1 j k1, .slice a2 j k2]) [15, 17] (by kernel_rfl) ?_
      have T := T.drew
      have hS := And.intro T.ext T.blk
      refine wpAnyB_take0 (i := 0) (v := ?_) rfl (by kernel_rfl) (by kernel_rfl) (by kernel_rfl) (by kernel_rfl) (fun _ _ _ h => h) (Or.inl ⟨by rfl, ?_⟩) (fun _ => hS) ?_
      rotate_left
      · (intro V; go_simp; (try with_reducible rfl))
      (try simp only [Act.put, List.setIfInBounds_toArray, List.set_cons_zero, List.set_cons_succ])
      refine wpAnyB_take (i := 1) (v := ?_) rfl (by kernel_rfl) (by kernel_rfl) (by kernel_rfl) (by kernel_rfl) (by kernel_rfl) (fun _ _ _ h => h) (Or.inl ⟨by rfl, ?_⟩) hS ?_
      rotate_left
      · (intro V hV; obtain ⟨hE, hB⟩ := hV; have c0 := hB.at 0 _ rfl; have c1 := hB.at 1 _ rfl; have c2 := (HA.out.ext hE).at 0 _ rfl; have c3 := ((HE.out.trans hE).cell hbx).trans (HX.out j (by omega)); rw [← HXX.out] at c3; go_simp; (try with_reducible rfl))
      (try simp only [Act.put, List.setIfInBounds_toArray, List.set_cons_zero, List.set_cons_succ])
      refine wpAnyB_take0 (i := 2) (v := ?_) rfl (by kernel_rfl) (by kernel_rfl) (by kernel_rfl) (by kernel_rfl) (fun _ _ _ h => h) (Or.inl ⟨by rfl, ?_⟩) (fun _ => hS) ?_
      rotate_left
      · (intro V; go_simp; (try with_reducible rfl))
      (try simp only [Act.put, List.setIfInBounds_toArray, List.set_cons_zero, List.set_cons_succ])
      refine wpAnyB_take (i := 3) (v := ?_) rfl (by kernel_rfl) (by kernel_rfl) (by kernel_rfl) (by kernel_rfl) (by kernel_rfl) (fun _ _ _ h => h) (Or.inl ⟨by rfl, ?_⟩) hS ?_
      rotate_left
      · (intro V hV; obtain ⟨hE, hB⟩ := hV; have c0 := hB.at 0 _ rfl; have c1 := hB.at 1 _ rfl; have c2 := (HA.out.ext hE).at 0 _ rfl; have c3 := ((HE.out.trans hE).cell hbx).trans (HX.out j (by omega)); rw [← HXX.out] at c3; go_simp; (try with_reducible rfl))
      (try simp only [Act.put, List.setIfInBounds_toArray, List.set_cons_zero, List.set_cons_succ])
      refine wpAnyB_take0 (i := 4) (v := ?_) rfl (by kernel_rfl) (by kernel_rfl) (by kernel_rfl) (by kernel_rfl) (fun _ _ _ h => h) (Or.inl ⟨by rfl, ?_⟩) (fun _ => hS) ?_
      rotate_left
      · (intro V; go_simp; (try with_reducible rfl))
      (try simp only [Act.put, List.setIfInBounds_toArray, List.set_cons_zero, List.set_cons_succ])
      refine wpAnyB_take0 (i := 5) (v := ?_) rfl (by kernel_rfl) (by kernel_rfl) (by kernel_rfl) (by kernel_rfl) (fun _ _ _ h => h) (Or.inl ⟨by rfl, ?_⟩) (fun _ => hS) ?_
      rotate_left
      · (intro V; go_simp; (try with_reducible rfl))
      (try simp only [Act.put, List.setIfInBounds_toArray, List.set_cons_zero, List.set_cons_succ])
      refine wpAnyB_take (i := 6) (v := ?_) rfl (by kernel_rfl) (by kernel_rfl) (by kernel_rfl) (by kernel_rfl) (by kernel_rfl) (fun _ _ _ h => h) (Or.inl ⟨by rfl, ?_⟩) hS ?_
      rotate_left
      · (intro V hV; obtain ⟨hE, hB⟩ := hV; have c0 := hB.at 0 _ rfl; have c1 := hB.at 1 _ rfl; have c2 := (HA.out.ext hE).at 0 _ rfl; have c3 := ((HE.out.trans hE).cell hbx).trans (HX.out j (by omega)); rw [← HXX.out] at c3; go_simp; (try with_reducible rfl))
      (try simp only [Act.put, List.setIfInBounds_toArray, List.set_cons_zero, List.set_cons_succ])
      refine wpAnyB_take0 (i := 9) (v := ?_) rfl (by kernel_rfl) (by kernel_rfl) (by kernel_rfl) (by kernel_rfl) (fun _ _ _ h => h) (Or.inl ⟨by rfl, ?_⟩) (fun _ => hS) ?_
      rotate_left
      · (intro V; go_simp; (try with_reducible rfl))
      (try simp only [Act.put, List.setIfInBounds_toArray, List.set_cons_zero, List.set_cons_succ])
      refine wpAnyB_take (i := 10) (v := ?_) rfl (by kernel_rfl) (by kernel_rfl) (by kernel_rfl) (by kernel_rfl) (by kernel_rfl) (fun _ _ _ h => h) (Or.inl ⟨by rfl, ?_⟩) hS ?_
      rotate_left
      · (intro V hV; obtain ⟨hE, hB⟩ := hV; have c0 := hB.at 0 _ rfl; have c1 := hB.at 1 _ rfl; have c2 := (HA.out.ext hE).at 0 _ rfl; have c3 := ((HE.out.trans hE).cell hbx).trans (HX.out j (by omega)); rw [← HXX.out] at c3; go_simp; (try with_reducible rfl))
      (try simp only [Act.put, List.setIfInBounds_toArray, List.set_cons_zero, List.set_cons_succ])
      refine wpAnyB_take0 (i := 11) (v := ?_) rfl (by kernel_rfl) (by kernel_rfl) (by kernel_rfl) (by kernel_rfl) (fun _ _ _ h => h) (Or.inl ⟨by rfl, ?_⟩) (fun _ => hS) ?_
      rotate_left
      · (intro V; go_simp; (try with_reducible rfl))
      (try simp only [Act.put, List.setIfInBounds_toArray, List.set_cons_zero, List.set_cons_succ])
      refine wpAnyB_ready (rs := [7, 12]) (by kernel_rfl) (by simp) ?_
      refine AllReadyB.cons rfl (fun K hK => ?_) ?_
      · skip
        go_simp
        have x7 := Blk.new wr.drew [.int .i64 x] 3
        have T7 := T
        have T := T.alloc (.cells #[.int .i64 x] 3)
        have hS := And.intro T.ext T.blk
        refine hK.out _ _ (fun _ => hS) ?_
        clear hK K
        (try simp only [Act.put, List.setIfInBounds_toArray, List.set_cons_zero, List.set_cons_succ])
        refine wpAnyB_ready (rs := [8, 12]) (by kernel_rfl) (by simp) ?_
        refine AllReadyB.cons rfl (fun K hK => ?_) ?_
        · skip
          refine step_app (wr.drew.alloc (.cells #[.int .i64 x] 3)) rfl (.tmp 40) (.tmp 46) rfl rfl T.o1 T.le ⟨(wr.drew.heap.size), 0, none⟩ 1 1 (fun _ => x) rfl (one_news x7) (by omega) (by omega) _ rfl ?_
          intro g8 k8 w8 hown hgrow hat hlt
          have T := T.app1 hown hgrow hat
          clear hown hgrow hat hlt
          (try go_simp)
          have hS := And.intro T.ext T.blk
          refine hK.out _ _ (fun _ => hS) ?_
          clear hK K
          (try simp only [Act.put, List.setIfInBounds_toArray, List.set_cons_zero, List.set_cons_succ])
          refine wpAnyB_take0 (i := 14) (v := ?_) rfl (by kernel_rfl) (by kernel_rfl) (by kernel_rfl) (by kernel_rfl) (fun _ _ _ h => h) (Or.inl ⟨by rfl, ?_⟩) (fun _ => hS) ?_
          rotate_left
          · (intro V; go_simp; (try with_reducible rfl))
          (try simp only [Act.put, List.setIfInBounds_toArray, List.set_cons_zero, List.set_cons_succ])
          refine wpAnyB_ready (rs := [12]) (by kernel_rfl) (by simp) ?_
          refine AllReadyB.cons rfl (fun K hK => ?_) ?_
          · skip
            go_simp
            have x12 := Blk.new w8 [.int .i64 z] 3
            have T12 := T
            have T := T.alloc (.cells #[.int .i64 z] 3)
            have hS := And.intro T.ext T.blk
            refine hK.out _ _ (fun _ => hS) ?_
            clear hK K
            (try simp only [Act.put, List.setIfInBounds_toArray, List.set_cons_zero, List.set_cons_succ])
            refine wpAnyB_ready (rs := [13]) (by kernel_rfl) (by simp) ?_
            refine AllReadyB.cons rfl (fun K hK => ?_) ?_
            · skip
              refine step_app (w8.alloc (.cells #[.int .i64 z] 3)) rfl (.tmp 49) (.tmp 51) rfl rfl T.o2 T.le ⟨(w8.heap.size), 0, none⟩ 1 1 (fun _ => z) rfl (one_news x12) (by omega) (by omega) _ rfl ?_
              intro g13 k13 w13 hown hgrow hat hlt
              have T := T.app2 hown hgrow hat
              clear hown hgrow hat hlt
              (try go_simp)
              have hS := And.intro T.ext T.blk
              refine hK.out _ _ (fun _ => hS) ?_
              clear hK K
              (try simp only [Act.put, List.setIfInBounds_toArray, List.set_cons_zero, List.set_cons_succ])
              refine wpAnyB_ready (rs := [15]) (by kernel_rfl) (by simp) ?_
              refine AllReadyB.cons rfl (fun K hK => ?_) AllReadyB.nil
              have b90 := T.blk.at 0 _ rfl; have b91 := T.blk.at 1 _ rfl; have bf9 := T.blk.fr; have bl9 := T.blk.lt
              go_simp
              refine hK.out _ _ (fun h => absurd h (by decide)) ?_
              clear hK K
              (try simp only [Act.put, List.setIfInBounds_toArray, List.set_cons_zero, List.set_cons_succ])
              refine wpAnyB_take0 (i := 16) (v := ?_) rfl (by kernel_rfl) (by kernel_rfl) (by kernel_rfl) (by kernel_rfl) (fun _ _ _ h => h) (Or.inl ⟨by rfl, ?_⟩) (fun h => absurd h (by decide)) ?_
              rotate_left
              · (intro V; go_simp; (try with_reducible rfl))
              (try simp only [Act.put, List.setIfInBounds_toArray, List.set_cons_zero, List.set_cons_succ])
              refine wpAnyB_ready (rs := [17]) (by kernel_rfl) (by simp) ?_
              refine AllReadyB.cons rfl (fun K hK => ?_) AllReadyB.nil
              go_simp
              refine hK.out _ _ (fun h => absurd h (by decide)) ?_
              clear hK K
              (try simp only [Act.put, List.setIfInBounds_toArray, List.set_cons_zero, List.set_cons_succ])
              clear b90 b91 bf9 bl9
              have T := ((T.set 0 (.slice (some ⟨g8, 0, none⟩) (j + 1) k8) (by simp)).set 1 (.slice (some ⟨g13, 0, none⟩) (j + 1) k13) (by simp))
              refine wpAnyB_done (by kernel_rfl) ?_ _
              go_wp2_with fail
              go_roundw
              case rel =>
                refine ⟨j + 1, some ⟨g8, 0, none⟩, k8, some ⟨g13, 0, none⟩, k13, by omega, by go_num, T.congr ?_ ?_⟩
                · rw [HXX.out]; exact cat_one
                · rw [HQ.out]; exact cat_one
              case measure => simp [intOf]; omega
            exact AllReadyB.nil
          exact AllReadyB.nil
        refine AllReadyB.cons rfl (fun K hK => ?_) ?_
        · skip
          go_simp
          have x7 := x7.alloc (.cells #[.int .i64 z] 3)
          have x12 := Blk.new1 wr.drew (.cells #[.int .i64 x] 3) [.int .i64 z] 3
          have T12 := T
          have T := T.alloc (.cells #[.int .i64 z] 3)
          have hS := And.intro T.ext T.blk
          refine hK.out _ _ (fun _ => hS) ?_
          clear hK K
          (try simp only [Act.put, List.setIfInBounds_toArray, List.set_cons_zero, List.set_cons_succ])
          refine wpAnyB_ready (rs := [8]) (by kernel_rfl) (by simp) ?_
          refine AllReadyB.cons rfl (fun K hK => ?_) ?_
          · skip
            refine step_app ((wr.drew.alloc (.cells #[.int .i64 x] 3)).alloc (.cells #[.int .i64 z] 3)) rfl (.tmp 40) (.tmp 46) rfl rfl T.o1 T.le ⟨(wr.drew.heap.size), 0, none⟩ 1 1 (fun _ => x) rfl (one_news x7) (by omega) (by omega) _ rfl ?_
            intro g8 k8 w8 hown hgrow hat hlt
            have x12 := x12.grown hgrow (T12.far1 (by simp))
            have T := T.app1 hown hgrow hat
            clear hown hgrow hat hlt
            (try go_simp)
            have hS := And.intro T.ext T.blk
            refine hK.out _ _ (fun _ => hS) ?_
            clear hK K
            (try simp only [Act.put, List.setIfInBounds_toArray, List.set_cons_zero, List.set_cons_succ])
            refine wpAnyB_take0 (i := 14) (v := ?_) rfl (by kernel_rfl) (by kernel_rfl) (by kernel_rfl) (by kernel_rfl) (fun _ _ _ h => h) (Or.inl ⟨by rfl, ?_⟩) (fun _ => hS) ?_
            rotate_left
            · (intro V; go_simp; (try with_reducible rfl))
            (try simp only [Act.put, List.setIfInBounds_toArray, List.set_cons_zero, List.set_cons_succ])
            refine wpAnyB_ready (rs := [13]) (by kernel_rfl) (by simp) ?_
            refine AllReadyB.cons rfl (fun K hK => ?_) ?_
            · skip
              refine step_app w8 rfl (.tmp 49) (.tmp 51) rfl rfl T.o2 T.le ⟨(wr.drew.heap.size + 1), 0, none⟩ 1 1 (fun _ => z) rfl (one_news x12) (by omega) (by omega) _ rfl ?_
              intro g13 k13 w13 hown hgrow hat hlt
              have T := T.app2 hown hgrow hat
              clear hown hgrow hat hlt
              (try go_simp)
              have hS := And.intro T.ext T.blk
              refine hK.out _ _ (fun _ => hS) ?_
              clear hK K
              (try simp only [Act.put, List.setIfInBounds_toArray, List.set_cons_zero, List.set_cons_succ])
              refine wpAnyB_ready (rs := [15]) (by kernel_rfl) (by simp) ?_
              refine AllReadyB.cons rfl (fun K hK => ?_) AllReadyB.nil
              have b90 := T.blk.at 0 _ rfl; have b91 := T.blk.at 1 _ rfl; have bf9 := T.blk.fr; have bl9 := T.blk.lt
              go_simp
              refine hK.out _ _ (fun h => absurd h (by decide)) ?_
              clear hK K
              (try simp only [Act.put, List.setIfInBounds_toArray, List.set_cons_zero, List.set_cons_succ])
              refine wpAnyB_take0 (i := 16) (v := ?_) rfl (by kernel_rfl) (by kernel_rfl) (by kernel_rfl) (by kernel_rfl) (fun _ _ _ h => h) (Or.inl ⟨by rfl, ?_⟩) (fun h => absurd h (by decide)) ?_
              rotate_left
              · (intro V; go_simp; (try with_reducible rfl))
              (try simp only [Act.put, List.setIfInBounds_toArray, List.set_cons_zero, List.set_cons_succ])
              refine wpAnyB_ready (rs := [17]) (by kernel_rfl) (by simp) ?_
              refine AllReadyB.cons rfl (fun K hK => ?_) AllReadyB.nil
              go_simp
              refine hK.out _ _ (fun h => absurd h (by decide)) ?_
              clear hK K
              (try simp only [Act.put, List.setIfInBounds_toArray, List.set_cons_zero, List.set_cons_succ])
              clear b90 b91 bf9 bl9
              have T := ((T.set 0 (.slice (some ⟨g8, 0, none⟩) (j + 1) k8) (by simp)).set 1 (.slice (some ⟨g13, 0, none⟩) (j + 1) k13) (by simp))
              refine wpAnyB_done (by kernel_rfl) ?_ _
              go_wp2_with fail
              go_roundw
              case rel =>
                refine ⟨j + 1, some ⟨g8, 0, none⟩, k8, some ⟨g13, 0, none⟩, k13, by omega, by go_num, T.congr ?_ ?_⟩
                · rw [HXX.out]; exact cat_one
                · rw [HQ.out]; exact cat_one
              case measure => simp [intOf]; omega
            exact AllReadyB.nil
          exact AllReadyB.nil
        exact AllReadyB.nil
      refine AllReadyB.cons rfl (fun K hK => ?_) ?_
      · skip
        go_simp
        have x12 := Blk.new wr.drew [.int .i64 z] 3
        have T12 := T
        have T := T.alloc (.cells #[.int .i64 z] 3)
        have hS := And.intro T.ext T.blk
        refine hK.out _ _ (fun _ => hS) ?_
        clear hK K
        (try simp only [Act.put, List.setIfInBounds_toArray, List.set_cons_zero, List.set_cons_succ])
        refine wpAnyB_ready (rs := [7]) (by kernel_rfl) (by simp) ?_
        refine AllReadyB.cons rfl (fun K hK => ?_) ?_
        · skip
          go_simp
          have x12 := x12.alloc (.cells #[.int .i64 x] 3)
          have x7 := Blk.new1 wr.drew (.cells #[.int .i64 z] 3) [.int .i64 x] 3
          have T7 := T
          have T := T.alloc (.cells #[.int .i64 x] 3)
          have hS := And.intro T.ext T.blk
          refine hK.out _ _ (fun _ => hS) ?_
          clear hK K
          (try simp only [Act.put, List.setIfInBounds_toArray, List.set_cons_zero, List.set_cons_succ])
          refine wpAnyB_ready (rs := [8]) (by kernel_rfl) (by simp) ?_
          refine AllReadyB.cons rfl (fun K hK => ?_) ?_
          · skip
            refine step_app ((wr.drew.alloc (.cells #[.int .i64 z] 3)).alloc (.cells #[.int .i64 x] 3)) rfl (.tmp 40) (.tmp 46) rfl rfl T.o1 T.le ⟨(wr.drew.heap.size + 1), 0, none⟩ 1 1 (fun _ => x) rfl (one_news x7) (by omega) (by omega) _ rfl ?_
            intro g8 k8 w8 hown hgrow hat hlt
            have x12 := x12.grown hgrow (T12.far1 (by simp))
            have T := T.app1 hown hgrow hat
            clear hown hgrow hat hlt
            (try go_simp)
            have hS := And.intro T.ext T.blk
            refine hK.out _ _ (fun _ => hS) ?_
            clear hK K
            (try simp only [Act.put, List.setIfInBounds_toArray, List.set_cons_zero, List.set_cons_succ])
            refine wpAnyB_take0 (i := 14) (v := ?_) rfl (by kernel_rfl) (by kernel_rfl) (by kernel_rfl) (by kernel_rfl) (fun _ _ _ h => h) (Or.inl ⟨by rfl, ?_⟩) (fun _ => hS) ?_
            rotate_left
            · (intro V; go_simp; (try with_reducible rfl))
            (try simp only [Act.put, List.setIfInBounds_toArray, List.set_cons_zero, List.set_cons_succ])
            refine wpAnyB_ready (rs := [13]) (by kernel_rfl) (by simp) ?_
            refine AllReadyB.cons rfl (fun K hK => ?_) ?_
            · skip
              refine step_app w8 rfl (.tmp 49) (.tmp 51) rfl rfl T.o2 T.le ⟨(wr.drew.heap.size), 0, none⟩ 1 1 (fun _ => z) rfl (one_news x12) (by omega) (by omega) _ rfl ?_
              intro g13 k13 w13 hown hgrow hat hlt
              have T := T.app2 hown hgrow hat
              clear hown hgrow hat hlt
              (try go_simp)
              have hS := And.intro T.ext T.blk
              refine hK.out _ _ (fun _ => hS) ?_
              clear hK K
              (try simp only [Act.put, List.setIfInBounds_toArray, List.set_cons_zero, List.set_cons_succ])
              refine wpAnyB_ready (rs := [15]) (by kernel_rfl) (by simp) ?_
              refine AllReadyB.cons rfl (fun K hK => ?_) AllReadyB.nil
              have b90 := T.blk.at 0 _ rfl; have b91 := T.blk.at 1 _ rfl; have bf9 := T.blk.fr; have bl9 := T.blk.lt
              go_simp
              refine hK.out _ _ (fun h => absurd h (by decide)) ?_
              clear hK K
              (try simp only [Act.put, List.setIfInBounds_toArray, List.set_cons_zero, List.set_cons_succ])
              refine wpAnyB_take0 (i := 16) (v := ?_) rfl (by kernel_rfl) (by kernel_rfl) (by kernel_rfl) (by kernel_rfl) (fun _ _ _ h => h) (Or.inl ⟨by rfl, ?_⟩) (fun h => absurd h (by decide)) ?_
              rotate_left
              · (intro V; go_simp; (try with_reducible rfl))
              (try simp only [Act.put, List.setIfInBounds_toArray, List.set_cons_zero, List.set_cons_succ])
              refine wpAnyB_ready (rs := [17]) (by kernel_rfl) (by simp) ?_
              refine AllReadyB.cons rfl (fun K hK => ?_) AllReadyB.nil
              go_simp
              refine hK.out _ _ (fun h => absurd h (by decide)) ?_
              clear hK K
              (try simp only [Act.put, List.setIfInBounds_toArray, List.set_cons_zero, List.set_cons_succ])
              clear b90 b91 bf9 bl9
              have T := ((T.set 0 (.slice (some ⟨g8, 0, none⟩) (j + 1) k8) (by simp)).set 1 (.slice (some ⟨g13, 0, none⟩) (j + 1) k13) (by simp))
              refine wpAnyB_done (by kernel_rfl) ?_ _
              go_wp2_with fail
              go_roundw
              case rel =>
                refine ⟨j + 1, some ⟨g8, 0, none⟩, k8, some ⟨g13, 0, none⟩, k13, by omega, by go_num, T.congr ?_ ?_⟩
                · rw [HXX.out]; exact cat_one
                · rw [HQ.out]; exact cat_one
              case measure => simp [intOf]; omega
            exact AllReadyB.nil
          exact AllReadyB.nil
        exact AllReadyB.nil
      exact AllReadyB.nil
    · obtain rfl : j = c.nx := by omega
      have hge : (c.nx : Int) ≤ (c.nx : Int) := Int.le_refl _
      have A := HA.out.ext T.ext
      have ca0 := A.at 0 _ rfl
      have b0 := T.blk.at 0 _ rfl
      have b1 := T.blk.at 1 _ rfl
      have Z3 := HZ0.out.ext T.ext
      have z0 := Z3.at 0 _ rfl
      have z1 := Z3.at 1 _ rfl
      have zl3 := Z3.lt
      have zf := Z3.fr
      go_wp2_with fail
      refine bodyPost_ret (rscale_ret (n := w.heap.size + 1) ((Z3.set 0 (.slice a1 c.nx k1) (by simp)).set 1 (.slice a2 c.nx k2) (by simp)) rfl rfl) rfl ⟨a1, k1, a2, k2, rfl, ?_, ?_, ?_⟩
      · exact ((T.o1.far (fun b hb => by have := (T.o1.lo b hb).1; omega)).far (fun b hb => by have := (T.o1.lo b hb).1; omega)).weak (by omega)
      · exact ((T.o2.far (fun b hb => by have := (T.o2.lo b hb).1; omega)).far (fun b hb => by have := (T.o2.lo b hb).1; omega)).weak (by omega)
      · exact ((HE.out.trans T.ext).setCell (by simp <;> omega) _).setCell (by simp <;> omega) _

set_option linter.unusedSimpArgs false in
set_option maxRecDepth 100000 in
set_option maxHeartbeats 1000000 in
theorem rscale_over (a b : Option Addr) (k l : Nat) (c : Pl.Cv) (m : Int) (w : World) (h : Pl.chk c = 0) (m0 : 0 ≤ m) (m1 : m ≤ 131072) (J : Nat) (hJ : J < c.nx) (hz : ∀ j, j < J → ZIn (zsc c m j)) (hbad : zsc c m J < -1073741824 ∨ 1073741824 < zsc c m J) (hx : Row w a c.nx c.x) (hy : Row w b c.nx c.y) :
    Calls Try.prog 31 #[.agg #[.slice a c.nx k, .slice b c.nx l], .int .i64 m] w fun e w' => e = .returned (.tuple #[.agg #[.slice none 0 0, .slice none 0 0], .int .i64 3]) ∧ Ext w w' := by
  have HB := Lib.hid hbad
  clear hbad
  have g := Pl.good_of c h
  have g2 := g.two
  have g3 := g.few
  obtain ⟨bx, ox, rfl, hbx, hcx⟩ := hx (by omega)
  obtain ⟨bY, oY, rfl, hby, hcy⟩ := hy (by omega)
  have E0 : Ext w ((w.alloc (.cells #[.slice (some ⟨bx, ox, none⟩) c.nx k, .slice (some ⟨bY, oY, none⟩) c.nx l] 24)).alloc (.cells #[.slice none 0 0, .slice none 0 0] 24)) := ((Ext.refl w).alloc _).alloc _
  have A0 := (Blk.new w [.slice (some ⟨bx, ox, none⟩) c.nx k, .slice (some ⟨bY, oY, none⟩) c.nx l] 24).alloc (.cells #[.slice none 0 0, .slice none 0 0] 24)
  have Z0 := Blk.new1 w (.cells #[.slice (some ⟨bx, ox, none⟩) c.nx k, .slice (some ⟨bY, oY, none⟩) c.nx l] 24) [.slice none 0 0, .slice none 0 0] 24
  have T0 := Two.start ((w.alloc (.cells #[.slice (some ⟨bx, ox, none⟩) c.nx k, .slice (some ⟨bY, oY, none⟩) c.nx l] 24)).alloc (.cells #[.slice none 0 0, .slice none 0 0] 24)) (.slice none 0 0) (.slice none 0 0) 24 c.x (zsc c m)
  have hsz : ((w.alloc (.cells #[.slice (some ⟨bx, ox, none⟩) c.nx k, .slice (some ⟨bY, oY, none⟩) c.nx l] 24)).alloc (.cells #[.slice none 0 0, .slice none 0 0] 24)).heap.size = w.heap.size + 1 + 1 := by simp
  rw [hsz] at T0
  have HT := Lib.hid T0
  have HA := Lib.hid A0
  have HZ0 := Lib.hid Z0
  have HE := Lib.hid E0
  have HX := Lib.hid hcx
  have HY := Lib.hid hcy
  have n2 : (2 : Int) ≤ (c.nx : Int) := by omega
  have n3 : (c.nx : Int) ≤ 32 := by omega
  have HZ : Hid (∀ j, j < c.nx → _) := Lib.hid (fun j hj => zsc_bd g m0 m1 (j := j) hj)
  have HI := Lib.hid hz
  clear hx hy hcx hcy g h hz A0 Z0 T0 hsz E0
  go_enter Try.func31, Try.ntmps31
  go_wp2_with fail
  go_loopw [7] (fun i wr => ∃ (j : Nat) (a1 : Option Addr) (k1 : Nat) (a2 : Option Addr) (k2 : Nat), j ≤ J ∧ i = .int .i64 j ∧ Two ((w.alloc (.cells #[.slice (some ⟨bx, ox, none⟩) c.nx k, .slice (some ⟨bY, oY, none⟩) c.nx l] 24)).alloc (.cells #[.slice none 0 0, .slice none 0 0] 24)) wr (w.heap.size + 1 + 1) ((w.heap.size + 1 + 1) + 1) [.slice a1 j k1, .slice a2 j k2] a1 j k1 c.x a2 j k2 (zsc c m)) (fun i _ => c.nx - (intOf i).toNat)
  case atStart => exact ⟨0, none, 0, none, 0, by omega, rfl, HT.out⟩
  case round =>
    obtain ⟨j, a1, k1, a2, k2, hj', rfl, T⟩ := hrel
    by_cases hj : j < J
    · have ⟨⟨p0, p1⟩, z0, z1⟩ := HZ.out j (by omega)
      have ⟨i0, i1⟩ := HI.out j hj
      have A := HA.out.ext T.ext
      have a0 := A.at 0 _ rfl
      have a1' := A.at 1 _ rfl
      have cx := ((HE.out.trans T.ext).cell hbx).trans (HX.out j (by omega))
      have cy := ((HE.out.trans T.ext).cell hby).trans (HY.out j (by omega))
      have ej : (j : Int) < (c.nx : Int) := by omega
      have jn : j < c.nx := by omega
      obtain ⟨z, hz⟩ : ∃ z, z = zsc c m j := ⟨_, rfl⟩
      rw [← hz] at z0 z1 i0 i1
      have wm : IntKind.i64.wrap (c.y j * m) = c.y j * m := IntWalk.i64_in _ (by omega)
      have wq : IntKind.i64.wrap ((c.y j * m).tdiv 65536) = z := by rw [hz]; exact IntWalk.i64_in _ (by have := HZ.out j (by omega); unfold zsc at this; omega)
      have dq : (c.y j * m).tdiv 65536 = z := hz.symm
      have HQ := Lib.hid hz
      have HXj : Hid (c.x j = c.x j) := Lib.hid rfl
      clear hz
      obtain ⟨y, hyy⟩ : ∃ y, y = c.y j := ⟨_, rfl⟩
      rw [← hyy] at wm wq dq cy p0 p1
      clear hyy
      obtain ⟨x, hxx⟩ : ∃ x, x = c.x j := ⟨_, rfl⟩
      rw [← hxx] at cx
      have HXX := Lib.hid hxx
      clear hxx
      go_upto_region 10 with fail
      refine wp_region_B (fun V => Ext ((w.alloc (.cells #[.slice (some ⟨bx, ox, none⟩) c.nx k, .slice (some ⟨bY, oY, none⟩) c.nx l] 24)).alloc (.cells #[.slice none 0 0, .slice none 0 0] 24)) V ∧ Blk V (w.heap.size + 1 + 1) [.slice a1 j k1, .slice a2 j k2]) [15, 17] (by kernel_rfl) ?_
      have T := T.drew
      have hS := And.intro T.ext T.blk
      refine wpAnyB_take0 (i := 0) (v := ?_) rfl (by kernel_rfl) (by kernel_rfl) (by kernel_rfl) (by kernel_rfl) (fun _ _ _ h => h) (Or.inl ⟨by rfl, ?_⟩) (fun _ => hS) ?_
      rotate_left
      · (intro V; go_simp; (try with_reducible rfl))
      (try simp only [Act.put, List.setIfInBounds_toArray, List.set_cons_zero, List.set_cons_succ])
      refine wpAnyB_take (i := 1) (v := ?_) rfl (by kernel_rfl) (by kernel_rfl) (by kernel_rfl) (by kernel_rfl) (by kernel_rfl) (fun _ _ _ h => h) (Or.inl ⟨by rfl, ?_⟩) hS ?_
      rotate_left
      · (intro V hV; obtain ⟨hE, hB⟩ := hV; have c0 := hB.at 0 _ rfl; have c1 := hB.at 1 _ rfl; have c2 := (HA.out.ext hE).at 0 _ rfl; have c3 := ((HE.out.trans hE).cell hbx).trans (HX.out j (by omega)); rw [← HXX.out] at c3; go_simp; (try with_reducible rfl))
      (try simp only [Act.put, List.setIfInBounds_toArray, List.set_cons_zero, List.set_cons_succ])
      refine wpAnyB_take0 (i := 2) (v := ?_) rfl (by kernel_rfl) (by kernel_rfl) (by kernel_rfl) (by kernel_rfl) (fun _ _ _ h => h) (Or.inl ⟨by rfl, ?_⟩) (fun _ => hS) ?_
      rotate_left
      · (intro V; go_simp; (try with_reducible rfl))
      (try simp only [Act.put, List.setIfInBounds_toArray, List.set_cons_zero, List.set_cons_succ])
      refine wpAnyB_take (i := 3) (v := ?_) rfl (by kernel_rfl) (by kernel_rfl) (by kernel_rfl) (by kernel_rfl) (by kernel_rfl) (fun _ _ _ h => h) (Or.inl ⟨by rfl, ?_⟩) hS ?_
      rotate_left
      · (intro V hV; obtain ⟨hE, hB⟩ := hV; have c0 := hB.at 0 _ rfl; have c1 := hB.at 1 _ rfl; have c2 := (HA.out.ext hE).at 0 _ rfl; have c3 := ((HE.out.trans hE).cell hbx).trans (HX.out j (by omega)); rw [← HXX.out] at c3; go_simp; (try with_reducible rfl))
      (try simp only [Act.put, List.setIfInBounds_toArray, List.set_cons_zero, List.set_cons_succ])
      refine wpAnyB_take0 (i := 4) (v := ?_) rfl (by kernel_rfl) (by kernel_rfl) (by kernel_rfl) (by kernel_rfl) (fun _ _ _ h => h) (Or.inl ⟨by rfl, ?_⟩) (fun _ => hS) ?_
      rotate_left
      · (intro V; go_simp; (try with_reducible rfl))
      (try simp only [Act.put, List.setIfInBounds_toArray, List.set_cons_zero, List.set_cons_succ])
      refine wpAnyB_take0 (i := 5) (v := ?_) rfl (by kernel_rfl) (by kernel_rfl) (by kernel_rfl) (by kernel_rfl) (fun _ _ _ h => h) (Or.inl ⟨by rfl, ?_⟩) (fun _ => hS) ?_
      rotate_left
      · (intro V; go_simp; (try with_reducible rfl))
      (try simp only [Act.put, List.setIfInBounds_toArray, List.set_cons_zero, List.set_cons_succ])
      refine wpAnyB_take (i := 6) (v := ?_) rfl (by kernel_rfl) (by kernel_rfl) (by kernel_rfl) (by kernel_rfl) (by kernel_rfl) (fun _ _ _ h => h) (Or.inl ⟨by rfl, ?_⟩) hS ?_
      rotate_left
      · (intro V hV; obtain ⟨hE, hB⟩ := hV; have c0 := hB.at 0 _ rfl; have c1 := hB.at 1 _ rfl; have c2 := (HA.out.ext hE).at 0 _ rfl; have c3 := ((HE.out.trans hE).cell hbx).trans (HX.out j (by omega)); rw [← HXX.out] at c3; go_simp; (try with_reducible rfl))
      (try simp only [Act.put, List.setIfInBounds_toArray, List.set_cons_zero, List.set_cons_succ])
      refine wpAnyB_take0 (i := 9) (v := ?_) rfl (by kernel_rfl) (by kernel_rfl) (by kernel_rfl) (by kernel_rfl) (fun _ _ _ h => h) (Or.inl ⟨by rfl, ?_⟩) (fun _ => hS) ?_
      rotate_left
      · (intro V; go_simp; (try with_reducible rfl))
      (try simp only [Act.put, List.setIfInBounds_toArray, List.set_cons_zero, List.set_cons_succ])
      refine wpAnyB_take (i := 10) (v := ?_) rfl (by kernel_rfl) (by kernel_rfl) (by kernel_rfl) (by kernel_rfl) (by kernel_rfl) (fun _ _ _ h => h) (Or.inl ⟨by rfl, ?_⟩) hS ?_
      rotate_left
      · (intro V hV; obtain ⟨hE, hB⟩ := hV; have c0 := hB.at 0 _ rfl; have c1 := hB.at 1 _ rfl; have c2 := (HA.out.ext hE).at 0 _ rfl; have c3 := ((HE.out.trans hE).cell hbx).trans (HX.out j (by omega)); rw [← HXX.out] at c3; go_simp; (try with_reducible rfl))
      (try simp only [Act.put, List.setIfInBounds_toArray, List.set_cons_zero, List.set_cons_succ])
      refine wpAnyB_take0 (i := 11) (v := ?_) rfl (by kernel_rfl) (by kernel_rfl) (by kernel_rfl) (by kernel_rfl) (fun _ _ _ h => h) (Or.inl ⟨by rfl, ?_⟩) (fun _ => hS) ?_
      rotate_left
      · (intro V; go_simp; (try with_reducible rfl))
      (try simp only [Act.put, List.setIfInBounds_toArray, List.set_cons_zero, List.set_cons_succ])
      refine wpAnyB_ready (rs := [7, 12]) (by kernel_rfl) (by simp) ?_
      refine AllReadyB.cons rfl (fun K hK => ?_) ?_
      · skip
        go_simp
        have x7 := Blk.new wr.drew [.int .i64 x] 3
        have T7 := T
        have T := T.alloc (.cells #[.int .i64 x] 3)
        have hS := And.intro T.ext T.blk
        refine hK.out _ _ (fun _ => hS) ?_
        clear hK K
        (try simp only [Act.put, List.setIfInBounds_toArray, List.set_cons_zero, List.set_cons_succ])
        refine wpAnyB_ready (rs := [8, 12]) (by kernel_rfl) (by simp) ?_
        refine AllReadyB.cons rfl (fun K hK => ?_) ?_
        · skip
          refine step_app (wr.drew.alloc (.cells #[.int .i64 x] 3)) rfl (.tmp 40) (.tmp 46) rfl rfl T.o1 T.le ⟨(wr.drew.heap.size), 0, none⟩ 1 1 (fun _ => x) rfl (one_news x7) (by omega) (by omega) _ rfl ?_
          intro g8 k8 w8 hown hgrow hat hlt
          have T := T.app1 hown hgrow hat
          clear hown hgrow hat hlt
          (try go_simp)
          have hS := And.intro T.ext T.blk
          refine hK.out _ _ (fun _ => hS) ?_
          clear hK K
          (try simp only [Act.put, List.setIfInBounds_toArray, List.set_cons_zero, List.set_cons_succ])
          refine wpAnyB_take0 (i := 14) (v := ?_) rfl (by kernel_rfl) (by kernel_rfl) (by kernel_rfl) (by kernel_rfl) (fun _ _ _ h => h) (Or.inl ⟨by rfl, ?_⟩) (fun _ => hS) ?_
          rotate_left
          · (intro V; go_simp; (try with_reducible rfl))
          (try simp only [Act.put, List.setIfInBounds_toArray, List.set_cons_zero, List.set_cons_succ])
          refine wpAnyB_ready (rs := [12]) (by kernel_rfl) (by simp) ?_
          refine AllReadyB.cons rfl (fun K hK => ?_) ?_
          · skip
            go_simp
            have x12 := Blk.new w8 [.int .i64 z] 3
            have T12 := T
            have T := T.alloc (.cells #[.int .i64 z] 3)
            have hS := And.intro T.ext T.blk
            refine hK.out _ _ (fun _ => hS) ?_
            clear hK K
            (try simp only [Act.put, List.setIfInBounds_toArray, List.set_cons_zero, List.set_cons_succ])
            refine wpAnyB_ready (rs := [13]) (by kernel_rfl) (by simp) ?_
            refine AllReadyB.cons rfl (fun K hK => ?_) ?_
            · skip
              refine step_app (w8.alloc (.cells #[.int .i64 z] 3)) rfl (.tmp 49) (.tmp 51) rfl rfl T.o2 T.le ⟨(w8.heap.size), 0, none⟩ 1 1 (fun _ => z) rfl (one_news x12) (by omega) (by omega) _ rfl ?_
              intro g13 k13 w13 hown hgrow hat hlt
              have T := T.app2 hown hgrow hat
              clear hown hgrow hat hlt
              (try go_simp)
              have hS := And.intro T.ext T.blk
              refine hK.out _ _ (fun _ => hS) ?_
              clear hK K
              (try simp only [Act.put, List.setIfInBounds_toArray, List.set_cons_zero, List.set_cons_succ])
              refine wpAnyB_ready (rs := [15]) (by kernel_rfl) (by simp) ?_
              refine AllReadyB.cons rfl (fun K hK => ?_) AllReadyB.nil
              have b90 := T.blk.at 0 _ rfl; have b91 := T.blk.at 1 _ rfl; have bf9 := T.blk.fr; have bl9 := T.blk.lt
              go_simp
              refine hK.out _ _ (fun h => absurd h (by decide)) ?_
              clear hK K
              (try simp only [Act.put, List.setIfInBounds_toArray, List.set_cons_zero, List.set_cons_succ])
              refine wpAnyB_take0 (i := 16) (v := ?_) rfl (by kernel_rfl) (by kernel_rfl) (by kernel_rfl) (by kernel_rfl) (fun _ _ _ h => h) (Or.inl ⟨by rfl, ?_⟩) (fun h => absurd h (by decide)) ?_
              rotate_left
              · (intro V; go_simp; (try with_reducible rfl))
              (try simp only [Act.put, List.setIfInBounds_toArray, List.set_cons_zero, List.set_cons_succ])
              refine wpAnyB_ready (rs := [17]) (by kernel_rfl) (by simp) ?_
              refine AllReadyB.cons rfl (fun K hK => ?_) AllReadyB.nil
              go_simp
              refine hK.out _ _ (fun h => absurd h (by decide)) ?_
              clear hK K
              (try simp only [Act.put, List.setIfInBounds_toArray, List.set_cons_zero, List.set_cons_succ])
              clear b90 b91 bf9 bl9
              have T := ((T.set 0 (.slice (some ⟨g8, 0, none⟩) (j + 1) k8) (by simp)).set 1 (.slice (some ⟨g13, 0, none⟩) (j + 1) k13) (by simp))
              refine wpAnyB_done (by kernel_rfl) ?_ _
              go_wp2_with fail
              go_roundw
              case rel =>
                refine ⟨j + 1, some ⟨g8, 0, none⟩, k8, some ⟨g13, 0, none⟩, k13, by omega, by go_num, T.congr ?_ ?_⟩
                · rw [HXX.out]; exact cat_one
                · rw [HQ.out]; exact cat_one
              case measure => simp [intOf]; omega
            exact AllReadyB.nil
          exact AllReadyB.nil
        refine AllReadyB.cons rfl (fun K hK => ?_) ?_
        · skip
          go_simp
          have x7 := x7.alloc (.cells #[.int .i64 z] 3)
          have x12 := Blk.new1 wr.drew (.cells #[.int .i64 x] 3) [.int .i64 z] 3
          have T12 := T
          have T := T.alloc (.cells #[.int .i64 z] 3)
          have hS := And.intro T.ext T.blk
          refine hK.out _ _ (fun _ => hS) ?_
          clear hK K
          (try simp only [Act.put, List.setIfInBounds_toArray, List.set_cons_zero, List.set_cons_succ])
          refine wpAnyB_ready (rs := [8]) (by kernel_rfl) (by simp) ?_
          refine AllReadyB.cons rfl (fun K hK => ?_) ?_
          · skip
            refine step_app ((wr.drew.alloc (.cells #[.int .i64 x] 3)).alloc (.cells #[.int .i64 z] 3)) rfl (.tmp 40) (.tmp 46) rfl rfl T.o1 T.le ⟨(wr.drew.heap.size), 0, none⟩ 1 1 (fun _ => x) rfl (one_news x7) (by omega) (by omega) _ rfl ?_
            intro g8 k8 w8 hown hgrow hat hlt
            have x12 := x12.grown hgrow (T12.far1 (by simp))
            have T := T.app1 hown hgrow hat
            clear hown hgrow hat hlt
            (try go_simp)
            have hS := And.intro T.ext T.blk
            refine hK.out _ _ (fun _ => hS) ?_
            clear hK K
            (try simp only [Act.put, List.setIfInBounds_toArray, List.set_cons_zero, List.set_cons_succ])
            refine wpAnyB_take0 (i := 14) (v := ?_) rfl (by kernel_rfl) (by kernel_rfl) (by kernel_rfl) (by kernel_rfl) (fun _ _ _ h => h) (Or.inl ⟨by rfl, ?_⟩) (fun _ => hS) ?_
            rotate_left
            · (intro V; go_simp; (try with_reducible rfl))
            (try simp only [Act.put, List.setIfInBounds_toArray, List.set_cons_zero, List.set_cons_succ])
            refine wpAnyB_ready (rs := [13]) (by kernel_rfl) (by simp) ?_
            refine AllReadyB.cons rfl (fun K hK => ?_) ?_
            · skip
              refine step_app w8 rfl (.tmp 49) (.tmp 51) rfl rfl T.o2 T.le ⟨(wr.drew.heap.size + 1), 0, none⟩ 1 1 (fun _ => z) rfl (one_news x12) (by omega) (by omega) _ rfl ?_
              intro g13 k13 w13 hown hgrow hat hlt
              have T := T.app2 hown hgrow hat
              clear hown hgrow hat hlt
              (try go_simp)
              have hS := And.intro T.ext T.blk
              refine hK.out _ _ (fun _ => hS) ?_
              clear hK K
              (try simp only [Act.put, List.setIfInBounds_toArray, List.set_cons_zero, List.set_cons_succ])
              refine wpAnyB_ready (rs := [15]) (by kernel_rfl) (by simp) ?_
              refine AllReadyB.cons rfl (fun K hK => ?_) AllReadyB.nil
              have b90 := T.blk.at 0 _ rfl; have b91 := T.blk.at 1 _ rfl; have bf9 := T.blk.fr; have bl9 := T.blk.lt
              go_simp
              refine hK.out _ _ (fun h => absurd h (by decide)) ?_
              clear hK K
              (try simp only [Act.put, List.setIfInBounds_toArray, List.set_cons_zero, List.set_cons_succ])
              refine wpAnyB_take0 (i := 16) (v := ?_) rfl (by kernel_rfl) (by kernel_rfl) (by kernel_rfl) (by kernel_rfl) (fun _ _ _ h => h) (Or.inl ⟨by rfl, ?_⟩) (fun h => absurd h (by decide)) ?_
              rotate_left
              · (intro V; go_simp; (try with_reducible rfl))
              (try simp only [Act.put, List.setIfInBounds_toArray, List.set_cons_zero, List.set_cons_succ])
              refine wpAnyB_ready (rs := [17]) (by kernel_rfl) (by simp) ?_
              refine AllReadyB.cons rfl (fun K hK => ?_) AllReadyB.nil
              go_simp
              refine hK.out _ _ (fun h => absurd h (by decide)) ?_
              clear hK K
              (try simp only [Act.put, List.setIfInBounds_toArray, List.set_cons_zero, List.set_cons_succ])
              clear b90 b91 bf9 bl9
              have T := ((T.set 0 (.slice (some ⟨g8, 0, none⟩) (j + 1) k8) (by simp)).set 1 (.slice (some ⟨g13, 0, none⟩) (j + 1) k13) (by simp))
              refine wpAnyB_done (by kernel_rfl) ?_ _
              go_wp2_with fail
              go_roundw
              case rel =>
                refine ⟨j + 1, some ⟨g8, 0, none⟩, k8, some ⟨g13, 0, none⟩, k13, by omega, by go_num, T.congr ?_ ?_⟩
                · rw [HXX.out]; exact cat_one
                · rw [HQ.out]; exact cat_one
              case measure => simp [intOf]; omega
            exact AllReadyB.nil
          exact AllReadyB.nil
        exact AllReadyB.nil
      refine AllReadyB.cons rfl (fun K hK => ?_) ?_
      · skip
        go_simp
        have x12 := Blk.new wr.drew [.int .i64 z] 3
        have T12 := T
        have T := T.alloc (.cells #[.int .i64 z] 3)
        have hS := And.intro T.ext T.blk
        refine hK.out _ _ (fun _ => hS) ?_
        clear hK K
        (try simp only [Act.put, List.setIfInBounds_toArray, List.set_cons_zero, List.set_cons_succ])
        refine wpAnyB_ready (rs := [7]) (by kernel_rfl) (by simp) ?_
        refine AllReadyB.cons rfl (fun K hK => ?_) ?_
        · skip
          go_simp
          have x12 := x12.alloc (.cells #[.int .i64 x] 3)
          have x7 := Blk.new1 wr.drew (.cells #[.int .i64 z] 3) [.int .i64 x] 3
          have T7 := T
          have T := T.alloc (.cells #[.int .i64 x] 3)
          have hS := And.intro T.ext T.blk
          refine hK.out _ _ (fun _ => hS) ?_
          clear hK K
          (try simp only [Act.put, List.setIfInBounds_toArray, List.set_cons_zero, List.set_cons_succ])
          refine wpAnyB_ready (rs := [8]) (by kernel_rfl) (by simp) ?_
          refine AllReadyB.cons rfl (fun K hK => ?_) ?_
          · skip
            refine step_app ((wr.drew.alloc (.cells #[.int .i64 z] 3)).alloc (.cells #[.int .i64 x] 3)) rfl (.tmp 40) (.tmp 46) rfl rfl T.o1 T.le ⟨(wr.drew.heap.size + 1), 0, none⟩ 1 1 (fun _ => x) rfl (one_news x7) (by omega) (by omega) _ rfl ?_
            intro g8 k8 w8 hown hgrow hat hlt
            have x12 := x12.grown hgrow (T12.far1 (by simp))
            have T := T.app1 hown hgrow hat
            clear hown hgrow hat hlt
            (try go_simp)
            have hS := And.intro T.ext T.blk
            refine hK.out _ _ (fun _ => hS) ?_
            clear hK K
            (try simp only [Act.put, List.setIfInBounds_toArray, List.set_cons_zero, List.set_cons_succ])
            refine wpAnyB_take0 (i := 14) (v := ?_) rfl (by kernel_rfl) (by kernel_rfl) (by kernel_rfl) (by kernel_rfl) (fun _ _ _ h => h) (Or.inl ⟨by rfl, ?_⟩) (fun _ => hS) ?_
            rotate_left
            · (intro V; go_simp; (try with_reducible rfl))
            (try simp only [Act.put, List.setIfInBounds_toArray, List.set_cons_zero, List.set_cons_succ])
            refine wpAnyB_ready (rs := [13]) (by kernel_rfl) (by simp) ?_
            refine AllReadyB.cons rfl (fun K hK => ?_) ?_
            · skip
              refine step_app w8 rfl (.tmp 49) (.tmp 51) rfl rfl T.o2 T.le ⟨(wr.drew.heap.size), 0, none⟩ 1 1 (fun _ => z) rfl (one_news x12) (by omega) (by omega) _ rfl ?_
              intro g13 k13 w13 hown hgrow hat hlt
              have T := T.app2 hown hgrow hat
              clear hown hgrow hat hlt
              (try go_simp)
              have hS := And.intro T.ext T.blk
              refine hK.out _ _ (fun _ => hS) ?_
              clear hK K
              (try simp only [Act.put, List.setIfInBounds_toArray, List.set_cons_zero, List.set_cons_succ])
              refine wpAnyB_ready (rs := [15]) (by kernel_rfl) (by simp) ?_
              refine AllReadyB.cons rfl (fun K hK => ?_) AllReadyB.nil
              have b90 := T.blk.at 0 _ rfl; have b91 := T.blk.at 1 _ rfl; have bf9 := T.blk.fr; have bl9 := T.blk.lt
              go_simp
              refine hK.out _ _ (fun h => absurd h (by decide)) ?_
              clear hK K
              (try simp only [Act.put, List.setIfInBounds_toArray, List.set_cons_zero, List.set_cons_succ])
              refine wpAnyB_take0 (i := 16) (v := ?_) rfl (by kernel_rfl) (by kernel_rfl) (by kernel_rfl) (by kernel_rfl) (fun _ _ _ h => h) (Or.inl ⟨by rfl, ?_⟩) (fun h => absurd h (by decide)) ?_
              rotate_left
              · (intro V; go_simp; (try with_reducible rfl))
              (try simp only [Act.put, List.setIfInBounds_toArray, List.set_cons_zero, List.set_cons_succ])
              refine wpAnyB_ready (rs := [17]) (by kernel_rfl) (by simp) ?_
              refine AllReadyB.cons rfl (fun K hK => ?_) AllReadyB.nil
              go_simp
              refine hK.out _ _ (fun h => absurd h (by decide)) ?_
              clear hK K
              (try simp only [Act.put, List.setIfInBounds_toArray, List.set_cons_zero, List.set_cons_succ])
              clear b90 b91 bf9 bl9
              have T := ((T.set 0 (.slice (some ⟨g8, 0, none⟩) (j + 1) k8) (by simp)).set 1 (.slice (some ⟨g13, 0, none⟩) (j + 1) k13) (by simp))
              refine wpAnyB_done (by kernel_rfl) ?_ _
              go_wp2_with fail
              go_roundw
              case rel =>
                refine ⟨j + 1, some ⟨g8, 0, none⟩, k8, some ⟨g13, 0, none⟩, k13, by omega, by go_num, T.congr ?_ ?_⟩
                · rw [HXX.out]; exact cat_one
                · rw [HQ.out]; exact cat_one
              case measure => simp [intOf]; omega
            exact AllReadyB.nil
          exact AllReadyB.nil
        exact AllReadyB.nil
      exact AllReadyB.nil
    · obtain rfl : j = J := by omega
      have ⟨⟨p0, p1⟩, z0, z1⟩ := HZ.out j (by omega)
      have A := HA.out.ext T.ext
      have ca0 := A.at 0 _ rfl
      have ca1 := A.at 1 _ rfl
      have cy := ((HE.out.trans T.ext).cell hby).trans (HY.out j (by omega))
      have ej : (j : Int) < (c.nx : Int) := by omega
      have Z3 := HZ0.out.ext T.ext
      have zz0 := Z3.at 0 _ rfl
      have zz1 := Z3.at 1 _ rfl
      have zl3 := Z3.lt
      have zf := Z3.fr
      obtain ⟨z, hz⟩ : ∃ z, z = zsc c m j := ⟨_, rfl⟩
      have hb' := HB.out
      rw [← hz] at z0 z1 hb'
      have wm : IntKind.i64.wrap (c.y j * m) = c.y j * m := IntWalk.i64_in _ (by omega)
      have wq : IntKind.i64.wrap ((c.y j * m).tdiv 65536) = z := by rw [hz]; exact IntWalk.i64_in _ (by have := HZ.out j (by omega); unfold zsc at this; omega)
      have dq : (c.y j * m).tdiv 65536 = z := hz.symm
      clear hz
      generalize c.y j = y at *
      rcases hb' with hb' | hb'
      · go_wp2_with fail
        refine bodyPost_ret (rscale_ret (n := w.heap.size + 1) ((Z3.set 0 (.slice none 0 0) (by simp)).set 1 (.slice none 0 0) (by simp)) rfl rfl) rfl ⟨rfl, ?_⟩
        exact ((HE.out.trans T.ext).setCell (by simp <;> omega) _).setCell (by simp <;> omega) _
      · have hb2 : -1073741824 ≤ z := by omega
        go_wp2_with fail
        refine bodyPost_ret (rscale_ret (n := w.heap.size + 1) ((Z3.set 0 (.slice none 0 0) (by simp)).set 1 (.slice none 0 0) (by simp)) rfl rfl) rfl ⟨rfl, ?_⟩
        exact ((HE.out.trans T.ext).setCell (by simp <;> omega) _).setCell (by simp <;> omega) _

end Go.Proofs.Ytbeolonbboibfaa
