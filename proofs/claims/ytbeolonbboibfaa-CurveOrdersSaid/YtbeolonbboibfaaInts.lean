/- The contracts of Ints (equal slices), of the law's 'same', of slices.Clone.
   Conditions: the bounds that each names. -/
import Derived.Test.YtbeolonbboibfaaOwn
import Derived.BigQuiet
import Derived.Lib.SliceRun
namespace Go.Proofs.Ytbeolonbboibfaa
open Go.ChangeShapes Go.WideShapes Go.ChangeAt Go.RowKit

set_option maxRecDepth 100000 in
set_option maxHeartbeats 1000000 in
theorem ints_pos (b1 o1 b2 o2 n k l : Nat) (f : Nat → Int) (w : World) (hb1 : b1 < w.heap.size) (hb2 : b2 < w.heap.size) (h1 : ∀ j, j < n → w.cell? ⟨b1, o1 + j, none⟩ = some (.int .i64 (f j))) (h2 : ∀ j, j < n → w.cell? ⟨b2, o2 + j, none⟩ = some (.int .i64 (f j))) (hn : n ≤ 1000) :
    Calls Try.prog 39 #[.slice (some ⟨b1, o1, none⟩) n k, .slice (some ⟨b2, o2, none⟩) n l] w fun e w' => e = .returned (.bool true) ∧ Ext w w' := by
  have H1 := Lib.hid h1
  have H2 := Lib.hid h2
  clear h1 h2
  go_enter Try.func39, Try.ntmps39
  go_wp2_with fail
  go_loopw [13] (fun i wr => ∃ j : Nat, j ≤ n ∧ i = .int .i64 j ∧ Ext w wr) (fun i _ => n - (intOf i).toNat)
  case atStart => exact ⟨0, by omega, rfl, (by repeat (first | with_reducible exact Ext.refl _ | with_reducible assumption | (with_reducible refine Ext.drew ?_) | (with_reducible refine Ext.drewN ?_ _) | (with_reducible refine Ext.alloc ?_ _) | (with_reducible refine Ext.setCell ?_ ?_ _) | (with_reducible refine Ext.trans ?_ (by with_reducible assumption)) | omega | (focus (simp <;> omega))))⟩
  case round =>
    obtain ⟨j, hj', rfl, hx⟩ := hrel
    by_cases hj : j < n
    · have c1 := (hx.cell hb1).trans (H1.out j hj)
      have c2 := (hx.cell hb2).trans (H2.out j hj)
      have ej : (j : Int) < (n : Int) := by omega
      generalize f j = y at *
      go_wp2_with fail
      go_quiet (fail)
      go_wp2_with fail
      go_roundw
      case rel => exact ⟨j + 1, by omega, by go_num, (by repeat (first | with_reducible exact Ext.refl _ | with_reducible assumption | (with_reducible refine Ext.drew ?_) | (with_reducible refine Ext.drewN ?_ _) | (with_reducible refine Ext.alloc ?_ _) | (with_reducible refine Ext.setCell ?_ ?_ _) | (with_reducible refine Ext.trans ?_ (by with_reducible assumption)) | omega | (focus (simp <;> omega))))⟩
      case measure => simp [intOf]; omega
    · obtain rfl : j = n := by omega
      have hge : (j : Int) ≤ (j : Int) := Int.le_refl _
      go_wp2_with fail
      go_ret
      exact ⟨rfl, (by repeat (first | with_reducible exact Ext.refl _ | with_reducible assumption | (with_reducible refine Ext.drew ?_) | (with_reducible refine Ext.drewN ?_ _) | (with_reducible refine Ext.alloc ?_ _) | (with_reducible refine Ext.setCell ?_ ?_ _) | (with_reducible refine Ext.trans ?_ (by with_reducible assumption)) | omega | (focus (simp <;> omega))))⟩
set_option maxRecDepth 100000 in
set_option maxHeartbeats 1000000 in
theorem ints_zero (a b : Option Addr) (k l : Nat) (w : World) :
    Calls Try.prog 39 #[.slice a 0 k, .slice b 0 l] w fun e w' => e = .returned (.bool true) ∧ Ext w w' := by
  go_enter Try.func39, Try.ntmps39
  go_wp2_with fail
  refine wp_loop_rounds 1 ?_
  rw [rounds_succ]
  go_wp2_with fail
  go_ret
  exact ⟨rfl, (by repeat (first | with_reducible exact Ext.refl _ | with_reducible assumption | (with_reducible refine Ext.drew ?_) | (with_reducible refine Ext.drewN ?_ _) | (with_reducible refine Ext.alloc ?_ _) | (with_reducible refine Ext.setCell ?_ ?_ _) | (with_reducible refine Ext.trans ?_ (by with_reducible assumption)) | omega | (focus (simp <;> omega))))⟩
theorem ints_any (a b : Option Addr) (n k l : Nat) (f : Nat → Int) (w : World) (h1 : Row w a n f) (h2 : Row w b n f) (hn : n ≤ 1000) :
    Calls Try.prog 39 #[.slice a n k, .slice b n l] w fun e w' => e = .returned (.bool true) ∧ Ext w w' := by
  by_cases h0 : 0 < n
  · obtain ⟨b1, o1, rfl, hb1, c1⟩ := h1 h0
    obtain ⟨b2, o2, rfl, hb2, c2⟩ := h2 h0
    exact ints_pos b1 o1 b2 o2 n k l f w hb1 hb2 c1 c2 hn
  · obtain rfl : n = 0 := by omega
    exact ints_zero a b k l w
set_option maxRecDepth 100000 in
set_option maxHeartbeats 1000000 in
theorem same_any (a1 b1 a2 b2 : Option Addr) (n m k1 l1 k2 l2 : Nat) (f g : Nat → Int) (w : World) (h1 : Row w a1 n f) (h2 : Row w b1 m g) (h3 : Row w a2 n f) (h4 : Row w b2 m g) (hn : n ≤ 1000) (hm : m ≤ 1000) :
    Calls Try.prog 29 #[.agg #[.slice a1 n k1, .slice b1 m l1], .agg #[.slice a2 n k2, .slice b2 m l2]] w fun e w' => e = .returned (.bool true) ∧ Ext w w' := by
  have E0 : Ext w ((w.alloc (.cells #[.slice a1 n k1, .slice b1 m l1] 24)).alloc (.cells #[.slice a2 n k2, .slice b2 m l2] 24)) := ((Ext.refl w).alloc _).alloc _
  have A0 := (Blk.new w [.slice a1 n k1, .slice b1 m l1] 24).alloc (.cells #[.slice a2 n k2, .slice b2 m l2] 24)
  have B0 := Blk.new1 w (.cells #[.slice a1 n k1, .slice b1 m l1] 24) [.slice a2 n k2, .slice b2 m l2] 24
  have HA := Lib.hid A0
  have HB := Lib.hid B0
  have C1 := Lib.hid (ints_any a1 a2 n k1 k2 f _ (h1.ext E0) (h3.ext E0) hn)
  have C2 : Hid (∀ V, Ext w V → Calls Try.prog 39 #[.slice b1 m l1, .slice b2 m l2] V fun e w' => e = .returned (.bool true) ∧ Ext V w') := Lib.hid (fun V hV => ints_any b1 b2 m l1 l2 g V (h2.ext hV) (h4.ext hV) hm)
  have HE := Lib.hid E0
  clear A0 B0 E0 h1 h2 h3 h4
  go_enter Try.func29, Try.ntmps29
  go_wp2_with fail
  refine C1.out.mono ?_
  rintro e w1 ⟨rfl, hx1⟩
  have E1 := HE.out.trans hx1
  have A1 := HA.out.ext hx1
  have B1 := HB.out.ext hx1
  have a0 := A1.at 1 _ rfl
  have b0 := B1.at 1 _ rfl
  clear C1
  go_wp2_with fail
  refine (C2.out _ E1).mono ?_
  rintro e w2 ⟨rfl, hx2⟩
  go_wp2_with fail
  go_ret
  exact ⟨(by first | rfl | exact ret_true (by simp <;> omega)), E1.trans hx2⟩
set_option maxRecDepth 100000 in
set_option maxHeartbeats 1000000 in
theorem clone_any (a : Option Addr) (n k : Nat) (z : Nat → Int) (w : World) (h : Row w a n z) (h0 : 0 < n) (hn : n ≤ 1000) :
    Calls Try.prog 40 #[.slice a n k] w fun e w' => ∃ g k', e = .returned (.slice (some ⟨g, 0, none⟩) n k') ∧ OwnI w' w.heap.size (some ⟨g, 0, none⟩) n k' z ∧ Ext w w' := by
  obtain ⟨b, off, rfl, hb, hc⟩ := h h0
  have HC := Lib.hid hc
  clear h hc
  have qS : ∀ V : World, (binOp .eql 22 (.slice (some ⟨b, off, none⟩) n k) (.slice none 0 0)).run Try.prog V = .ok (.bool false) V := fun V => Lib.run_eql_slice_nil V _ _ _ _ _ _ _ Try.underlying22
  go_enter Try.func40, Try.ntmps40
  go_wp2_with (at_builtin; refine wpList_app (w.alloc (.cells #[] 3)) rfl _ _ rfl (sa := some ⟨w.heap.size, 0, none⟩) (n := 0) (k := 0) (f := z) (B := w.heap.size) rfl (OwnI.made w _ z (Nat.le_refl _)) (by simp) ⟨b, off, none⟩ n k z rfl (fun j hj => (by rw [Addr.add_lit]; exact cell_al _ (HC.out j hj))) h0 (by omega) _ rfl ?_; intro g k' w' hown hgrow hat hlt)
  have e1 : Ext w w' := ((Ext.refl w).alloc _).grown hgrow (fun k e => by have h : some w.heap.size = some k := e; injection h with h; omega)
  rw [Nat.zero_add] at hown
  go_ret
  exact ⟨g, k', rfl, hown.congr (fun j _ => rfl), e1⟩

end Go.Proofs.Ytbeolonbboibfaa
