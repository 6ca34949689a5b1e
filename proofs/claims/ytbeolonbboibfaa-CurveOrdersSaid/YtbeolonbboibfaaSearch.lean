/- The contracts of sort.Search and sort.SearchInts, walked in this program's own text.
   Conditions: the slice ascends; the predicate is monotone. -/
import Derived.Test.YtbeolonbboibfaaRow
import Derived.Deep.RegionWith
import Derived.Shelf.Abstract
namespace Go.Proofs.Ytbeolonbboibfaa
open Go.ChangeShapes Go.WideShapes Go.ChangeAt Go.RowKit

/-- r is where p turns true. -/
def Turn (n : Nat) (p : Nat → Bool) (r : Nat) : Prop := r ≤ n ∧ (∀ t, t < r → p t = false) ∧ (∀ t, r ≤ t → t < n → p t = true)

set_option maxRecDepth 100000 in
set_option maxHeartbeats 2000000 in
theorem search_any (g : Nat) (cb : Array Value) (n : Nat) (p : Nat → Bool) (w : World) (eg : ∀ args w, (callFunc g args).run Try.prog w = .ok (.enter g args) w) (hsz : n < 4611686018427387904)
    (hf : ∀ W i, Ext w W → i < n → Calls Try.prog g (#[.int .i64 i] ++ cb) W fun e w' => e = .returned (.bool (p i)) ∧ Ext W w')
    (hmono : ∀ a b, a ≤ b → b < n → p a = true → p b = true) :
    Calls Try.prog 37 #[.int .i64 n, .func (.func g) #[] cb] w fun e w' => ∃ r : Nat, Turn n p r ∧ e = .returned (.int .i64 r) ∧ Ext w w' := by
  have HF := Lib.hid hf
  have HM := Lib.hid hmono
  clear hf hmono
  go_enter Try.func37, Try.ntmps37
  go_wp2_with fail
  go_loopw [5, 6] (fun i j wr => ∃ lo hi : Nat, i = .int .i64 lo ∧ j = .int .i64 hi ∧ lo ≤ hi ∧ hi ≤ n ∧ Hid ((∀ t, t < lo → p t = false) ∧ (∀ t, hi ≤ t → t < n → p t = true)) ∧ Ext w wr) (fun i j _ => (intOf j - intOf i).toNat)
  case atStart => exact ⟨0, n, rfl, rfl, by omega, by omega, Lib.hid ⟨fun t ht => absurd ht (Nat.not_lt_zero _), fun t h1 h2 => absurd h2 (by omega)⟩, (by repeat (first | with_reducible exact Ext.refl _ | with_reducible assumption | (with_reducible refine Ext.drew ?_) | (with_reducible refine Ext.drewN ?_ _) | (with_reducible refine Ext.alloc ?_ _) | (with_reducible refine Ext.setCell ?_ ?_ _) | (with_reducible refine Ext.trans ?_ (by with_reducible assumption)) | omega | (focus (simp <;> omega))))⟩
  case round =>
    obtain ⟨lo, hi, rfl, rfl, hlh, hin, I, hxr⟩ := hrel
    by_cases hlt : lo < hi
    · have hlt' : (lo : Int) < (hi : Int) := by omega
      have hc := HF.out wr ((lo + hi) / 2) hxr (by omega)
      have em : (((lo + hi) / 2 : Nat) : Int) = ((lo : Int) + (hi : Int)) / 2 := by omega
      rw [em] at hc
      have EM := Lib.hid em
      clear em
      cases hp : p ((lo + hi) / 2) <;> rw [hp] at hc
      · have HP := Lib.hid hp
        clear hp
        go_wp2_with fail
        refine hc.mono ?_
        rintro e w1 ⟨rfl, hx1⟩
        go_wp2_with fail
        go_roundw
        case rel =>
          exact ⟨(lo + hi) / 2 + 1, hi, by rw [Int.natCast_add, EM.out]; rfl, rfl, by omega, hin, Lib.hid ⟨fun t ht => (by
            cases h : p t with
            | false => rfl
            | true => have := HM.out t ((lo + hi) / 2) (by omega) (by omega) h; rw [HP.out] at this; cases this), I.out.2⟩, (by repeat (first | with_reducible exact Ext.refl _ | with_reducible assumption | (with_reducible refine Ext.drew ?_) | (with_reducible refine Ext.drewN ?_ _) | (with_reducible refine Ext.alloc ?_ _) | (with_reducible refine Ext.setCell ?_ ?_ _) | (with_reducible refine Ext.trans ?_ (by with_reducible assumption)) | omega | (focus (simp <;> omega))))⟩
        case measure => simp [intOf]; omega
      · have HP := Lib.hid hp
        clear hp
        go_wp2_with fail
        refine hc.mono ?_
        rintro e w1 ⟨rfl, hx1⟩
        go_wp2_with fail
        go_roundw
        case rel => exact ⟨lo, (lo + hi) / 2, rfl, by rw [EM.out], by omega, by omega, Lib.hid ⟨I.out.1, fun t ht htn => HM.out ((lo + hi) / 2) t ht htn HP.out⟩, (by repeat (first | with_reducible exact Ext.refl _ | with_reducible assumption | (with_reducible refine Ext.drew ?_) | (with_reducible refine Ext.drewN ?_ _) | (with_reducible refine Ext.alloc ?_ _) | (with_reducible refine Ext.setCell ?_ ?_ _) | (with_reducible refine Ext.trans ?_ (by with_reducible assumption)) | omega | (focus (simp <;> omega))))⟩
        case measure => simp [intOf]; omega
    · obtain rfl : hi = lo := by omega
      have hge : (hi : Int) ≤ (hi : Int) := by omega
      go_wp2_with fail
      go_ret
      exact ⟨hi, ⟨hin, I.out.1, I.out.2⟩, rfl, (by repeat (first | with_reducible exact Ext.refl _ | with_reducible assumption | (with_reducible refine Ext.drew ?_) | (with_reducible refine Ext.drewN ?_ _) | (with_reducible refine Ext.alloc ?_ _) | (with_reducible refine Ext.setCell ?_ ?_ _) | (with_reducible refine Ext.trans ?_ (by with_reducible assumption)) | omega | (focus (simp <;> omega))))⟩

set_option maxHeartbeats 1000000 in
theorem sints_closure (ba bx b off n k : Nat) (z : Nat → Int) (x : Int) (i : Nat) (W : World) (hi : i < n)
    (ha : W.cell? ⟨ba, 0, none⟩ = some (.slice (some ⟨b, off, none⟩) n k)) (hx : W.cell? ⟨bx, 0, none⟩ = some (.int .i64 x)) (hc : W.cell? ⟨b, off + i, none⟩ = some (.int .i64 (z i))) :
    Calls Try.prog 47 (#[.int .i64 i] ++ #[.pointer (some ⟨ba, 0, none⟩), .pointer (some ⟨bx, 0, none⟩)]) W fun e w' => e = .returned (.bool (decide (x ≤ z i))) ∧ Ext W w' := by
  generalize z i = y at *
  have hiz : (i : Int) < (n : Int) := by omega

  go_enter Try.func47, Try.ntmps47
  go_wp2_with fail
  go_quiet (fail)
  go_wp2_with fail
  go_ret
  exact ⟨rfl, (by repeat (first | with_reducible exact Ext.refl _ | with_reducible assumption | (with_reducible refine Ext.drew ?_) | (with_reducible refine Ext.drewN ?_ _) | (with_reducible refine Ext.alloc ?_ _) | (with_reducible refine Ext.setCell ?_ ?_ _) | (with_reducible refine Ext.trans ?_ (by with_reducible assumption)) | omega | (focus (simp <;> omega))))⟩

set_option maxHeartbeats 1000000 in
theorem sints_any (b off n k : Nat) (z : Nat → Int) (x : Int) (w : World) (hb : b < w.heap.size) (hc : ∀ j, j < n → w.cell? ⟨b, off + j, none⟩ = some (.int .i64 (z j))) (hn : n < 4611686018427387904) (hs : ∀ i j, i ≤ j → j < n → z i ≤ z j) :
    Calls Try.prog 46 #[.slice (some ⟨b, off, none⟩) n k, .int .i64 x] w fun e w' => ∃ r : Nat, Turn n (fun j => decide (x ≤ z j)) r ∧ e = .returned (.int .i64 r) ∧ Ext w w' := by
  have hA := (Blk.new w [.slice (some ⟨b, off, none⟩) n k] 22).alloc (.cells #[.int .i64 x] 3)
  have hB := Blk.new1 w (.cells #[.slice (some ⟨b, off, none⟩) n k] 22) [.int .i64 x] 3
  have hE : Ext w ((w.alloc (.cells #[.slice (some ⟨b, off, none⟩) n k] 22)).alloc (.cells #[.int .i64 x] 3)) := ((Ext.refl w).alloc _).alloc _
  have hS := search_any 47 #[.pointer (some ⟨w.heap.size, 0, none⟩), .pointer (some ⟨w.heap.size + 1, 0, none⟩)] n (fun j => decide (x ≤ z j)) ((w.alloc (.cells #[.slice (some ⟨b, off, none⟩) n k] 22)).alloc (.cells #[.int .i64 x] 3))
    (Go.Proofs.enters_of Try.func47 (by kernel_rfl) rfl) hn
    (fun W i hW hi => sints_closure w.heap.size (w.heap.size + 1) b off n k z x i W hi ((hA.ext hW).at 0 _ rfl) ((hB.ext hW).at 0 _ rfl) (((hE.trans hW).cell hb).trans (hc i hi)))
    (fun i j hij hj h => by
      have := hs i j hij hj
      simp only [decide_eq_true_eq] at h ⊢
      omega)
  have HS := Lib.hid hS
  have HE := Lib.hid hE
  clear hS hA hB hc hs hE
  go_enter Try.func46, Try.ntmps46
  go_wp2_with fail
  refine HS.out.mono ?_
  rintro e w1 ⟨r, hr, rfl, hx1⟩
  have HR := Lib.hid hr
  clear hr
  go_wp2_with fail
  go_ret
  exact ⟨r, HR.out, rfl, HE.out.trans hx1⟩

end Go.Proofs.Ytbeolonbboibfaa
