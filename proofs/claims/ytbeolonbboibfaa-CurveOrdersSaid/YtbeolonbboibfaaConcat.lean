/- The contracts of slices.Grow onto nil and of slices.Concat of two slices.
   Conditions: the bounds that each names. -/
import Derived.Test.YtbeolonbboibfaaInts
import Derived.Lib.AppendZeros
namespace Go.Proofs.Ytbeolonbboibfaa
open Go.ChangeShapes Go.WideShapes Go.ChangeAt Go.RowKit

set_option maxRecDepth 100000 in
set_option maxHeartbeats 1000000 in
theorem grow_nil (n : Nat) (w : World) (h0 : 0 < n) (hn : n ≤ 1000) :
    Calls Try.prog 45 #[.slice none 0 0, .int .i64 n] w fun e w' => ∃ g K, e = .returned (.slice (some ⟨g, 0, none⟩) 0 K) ∧ (∀ f, OwnI w' w.heap.size (some ⟨g, 0, none⟩) 0 K f) ∧ Ext w w' := by
  obtain ⟨i0, hi, hz0, hz1, hz2⟩ := info_parts info3
  have hr := fun ty => Lib.run_append_nil_zeros (P := Try.prog) w 22 3 ty 3 i0 (.int .i64 0) .i64 .i64 Try.underlying22 Try.underlying3 hi hz0 n h0 (by omega) (by omega) (by rw [hz2]; omega)
  have hge := grownCap_ge w n 0 3
  have hle := grownCap_le_maxLen w n 0 3 (by unfold maxLen; omega)
  obtain ⟨G, hG⟩ : ∃ G, G = grownCap w n 0 3 := ⟨_, rfl⟩
  rw [← hG] at hr hge hle
  obtain ⟨cs, hcs⟩ : ∃ cs, cs = Builtin.zeroCells (Value.int .i64 0).cells n ++ Builtin.zeroCells (Value.int .i64 0).cells (G - n) := ⟨_, rfl⟩
  have hsz : cs.size = G * 1 := by
    rw [hcs, Array.size_append, size_zeroCells, size_zeroCells]
    have : (Value.int .i64 0).cells.size = 1 := rfl
    rw [this]; omega
  rw [← hcs] at hr
  have O : ∀ f, OwnI (w.drew.alloc (.cells cs 3)) w.heap.size (some ⟨w.heap.size, 0, none⟩) 0 G f := fun f =>
    ⟨World.ownsRow_made w.drew cs G (Nat.zero_le _) hle hsz, fun b h => by cases h; exact ⟨Nat.le_refl _, by simp⟩⟩
  have HO := Lib.hid O
  have hG63 : G ≤ 9223372036854775807 := by unfold maxLen at hle; omega
  have wnn : IntKind.i64.wrap (n : Int) = (n : Int) := IntWalk.i64_in _ (by omega)
  have n0 : (0 : Int) < (n : Int) := by omega
  clear hcs hsz hG O hle
  go_enter Try.func45, Try.ntmps45
  go_wp2_with (at_builtin; refine Lib.wpList_append_run _ rfl _ _ _ _ rfl _ _ rfl rfl _ _ (hr _) ?_)
  all_goals (go_ret; exact ⟨w.heap.size, G, rfl, HO.out, (Ext.refl w).drew.alloc _⟩)

set_option maxRecDepth 100000 in
set_option maxHeartbeats 1000000 in
theorem concat_any (g n1 k1 n2 k2 : Nat) (s1 s2 : Option Addr) (f1 f2 : Nat → Int) (w : World) (hb : Blk w g [.slice s1 n1 k1, .slice s2 n2 k2]) (r1 : Row w s1 n1 f1) (r2 : Row w s2 n2 f2) (p1 : 0 < n1) (p2 : 0 < n2) (q1 : n1 ≤ 100) (q2 : n2 ≤ 100) :
    Calls Try.prog 41 #[.slice (some ⟨g, 0, none⟩) 2 2] w fun e w' => ∃ r K, e = .returned (.slice (some ⟨r, 0, none⟩) (n1 + n2) K) ∧ Row w' (some ⟨r, 0, none⟩) (n1 + n2) (cat n1 f1 f2) ∧ Ext w w' := by
  obtain ⟨b1, o1, rfl, hb1, c1⟩ := r1 p1
  obtain ⟨b2, o2, rfl, hb2, c2⟩ := r2 p2
  have C1 := Lib.hid c1
  have C2 := Lib.hid c2
  have HB := Lib.hid hb
  have g0 := hb.at 0 _ rfl
  have g1 := hb.at 1 _ rfl
  have gl := hb.lt
  have en : ((n1 + n2 : Nat) : Int) = (n1 : Int) + (n2 : Int) := by omega
  have hg := Lib.hid (fun V => grow_nil (n1 + n2) V (by omega) (by omega))
  rw [en] at hg
  have w1 : IntKind.i64.wrap (n1 : Int) = (n1 : Int) := IntWalk.i64_in _ (by omega)
  have w12 : IntKind.i64.wrap ((n1 : Int) + (n2 : Int)) = (n1 : Int) + (n2 : Int) := IntWalk.i64_in _ (by omega)
  have z1 : (0 : Int) ≤ (n1 : Int) := by omega
  have z2 : (0 : Int) ≤ (n1 : Int) + (n2 : Int) := by omega
  clear c1 c2 r1 r2 hb en
  go_enter Try.func41, Try.ntmps41
  go_wp2_with fail
  refine wp_loop_rounds 3 ?_
  rw [rounds_succ]
  go_wp2_with fail
  rw [rounds_succ]
  go_wp2_with fail
  rw [rounds_succ]
  go_wp2_with fail
  refine (hg.out _).mono ?_
  rintro e v1 ⟨r, K, rfl, O, hx1⟩
  have B1 := HB.out.ext hx1
  clear g0 g1 gl hg
  have g0 := B1.at 0 _ rfl
  have g1 := B1.at 1 _ rfl
  have gl := B1.lt
  have hs1 := hx1.size
  have HO := Lib.hid O
  clear O
  go_wp2_with fail
  refine wp_loop_rounds 3 ?_
  rw [rounds_succ]
  go_wp2_with (at_builtin; refine wpList_app v1 rfl _ _ rfl rfl (HO.out f1) hs1 ⟨b1, o1, none⟩ n1 k1 f1 rfl (fun j hj => (by rw [Addr.add_lit]; exact (hx1.cell hb1).trans (C1.out j hj))) p1 (by omega) _ rfl ?_; rw [Nat.zero_add]; intro r2 K2 v2 hown hgrow hat hlt; have G2 : Hid (v1.grownBy v2 (some r)) := Lib.hid hgrow; have O2 := Lib.hid (hown.congr (z := f1) (fun j hj => rfl)); have B2 := B1.grown hgrow (fun e => by have := ((HO.out f1).lo g e.symm).1; have := HB.out.lt; omega); have gg0 := B2.at 0 _ rfl; have gg1 := B2.at 1 _ rfl; have gg := B2.lt; clear g0 g1 gl hown hgrow)
  have hx2 : Ext w v2 := hx1.grown G2.out (fun k e => by have := ((HO.out f1).lo k e).1; exact this)
  have hs2 := hx2.size
  rw [rounds_succ]
  go_wp2_with (at_builtin; refine wpList_app v2 rfl _ _ rfl rfl O2.out hs2 ⟨b2, o2, none⟩ n2 k2 f2 rfl (fun j hj => (by rw [Addr.add_lit]; exact (hx2.cell hb2).trans (C2.out j hj))) p2 (by omega) _ rfl ?_; intro r3 K3 v3 hown hgrow hat3 hlt3; have G3 : Hid (v2.grownBy v3 (some r2)) := Lib.hid hgrow; have O3 := Lib.hid hown; clear gg0 gg1 gg hown hgrow)
  have hx3 : Ext w v3 := hx2.grown G3.out (fun k e => by have := (O2.out.lo k e).1; exact this)
  rw [rounds_succ]
  go_wp2_with fail
  go_ret
  exact ⟨r3, K3, rfl, O3.out.row, hx3⟩

end Go.Proofs.Ytbeolonbboibfaa
