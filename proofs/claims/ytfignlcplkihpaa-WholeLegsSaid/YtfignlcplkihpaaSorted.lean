/- The contract of gates.sorted.
   Conditions: the edges ascend and are in their ranges. -/
import Derived.Test.YtfignlcplkihpaaGates
namespace Go.Proofs.Ytfignlcplkihpaa
open Go.ChangeShapes Go.WideShapes Go.ChangeAt Go.RowKit

/-- Edges that ascend, in a period. -/
structure Asc (es : List Pl.Ed) (P : Nat) : Prop where
  up : es.Pairwise fun a b => Pl.key a < Pl.key b
  bd : ∀ e ∈ es, (0 ≤ e.a ∧ e.a ≤ (P : Int) - 1) ∧ (0 ≤ e.s ∧ e.s ≤ 5)
theorem Asc.at {es : List Pl.Ed} {P : Nat} (h : Asc es P) {j : Nat} {e : Pl.Ed} (hj : es[j]? = some e) : (0 ≤ e.a ∧ e.a ≤ (P : Int) - 1) ∧ (0 ≤ e.s ∧ e.s ≤ 5) := h.bd e (List.mem_of_getElem? hj)
theorem Asc.next {es : List Pl.Ed} {P : Nat} (h : Asc es P) {j : Nat} {p e : Pl.Ed} (h0 : es[j]? = some p) (h1 : es[j + 1]? = some e) : p.a < e.a ∨ (p.a = e.a ∧ p.s < e.s) := by
  have hk : Pl.key p < Pl.key e := by
    obtain ⟨i0, e0⟩ := List.getElem?_eq_some_iff.1 h0
    obtain ⟨i1, e1⟩ := List.getElem?_eq_some_iff.1 h1
    have := List.pairwise_iff_getElem.1 h.up j (j + 1) i0 i1 (by omega)
    rw [e0, e1] at this
    exact this
  have a := h.at h0
  have b := h.at h1
  unfold Pl.key at hk
  omega
set_option linter.unusedSimpArgs false in
set_option maxRecDepth 100000 in
set_option maxHeartbeats 8000000 in
theorem sorted_t (a : Option Addr) (k : Nat) (es : List Pl.Ed) (P : Nat) (w : World) (hr : RowE w a es) (h : Asc es P) (hl : es.length ≤ 1000000) (p1 : 1 ≤ P) (p2 : P ≤ 4096) :
    Calls Try.prog 30 #[.slice a es.length k, .int .i64 P] w fun e w' => e = .returned (.bool true) ∧ Ext w w' := by
  have H := Lib.hid h
  have HR := Lib.hid hr
  have wp : IntKind.i64.wrap ((P : Int) - 1) = (P : Int) - 1 := IntWalk.i64_in _ (by omega)
  have p1' : (1 : Int) ≤ (P : Int) := by omega
  have p2' : (P : Int) ≤ 4096 := by omega
  obtain ⟨n, hn⟩ : ∃ n, n = es.length := ⟨_, rfl⟩
  rw [← hn] at hl ⊢
  have HN := Lib.hid hn
  have hl' : (n : Int) ≤ 1000000 := by omega
  clear h hr hn
  go_enter Try.func30, Try.ntmps30
  go_wp2_with fail
  go_loopw [9] (fun i wr => ∃ j : Nat, j ≤ n ∧ i = .int .i64 j ∧ Ext w wr) (fun i _ => n - (intOf i).toNat)
  case atStart => exact ⟨0, by omega, rfl, (by repeat (first | with_reducible exact Ext.refl _ | with_reducible assumption | (with_reducible refine Ext.drew ?_) | (with_reducible refine Ext.drewN ?_ _) | (with_reducible refine Ext.alloc ?_ _) | (with_reducible refine Ext.setCell ?_ ?_ _) | (with_reducible refine Ext.trans ?_ (by with_reducible assumption)) | omega | (focus (simp <;> omega))))⟩
  case round =>
    obtain ⟨j, hj', rfl, hx⟩ := hrel
    by_cases hj : j < n
    · have hjl : j < es.length := by rw [← HN.out]; exact hj
      obtain ⟨e, he⟩ : ∃ e, es[j]? = some e := ⟨_, List.getElem?_eq_getElem hjl⟩
      obtain ⟨b, off, rfl, hb, hc⟩ := HR.out (fun h => by rw [h] at hjl; simp at hjl)
      have ⟨c0, c1, c2⟩ := hc j e he
      have c0 := (hx.cell hb).trans c0
      have c1 := (hx.cell hb).trans c1
      have c2 := (hx.cell hb).trans c2
      have hbr : b < wr.heap.size := Nat.lt_of_lt_of_le hb hx.size
      have ⟨⟨e1, e2⟩, e3, e4⟩ := H.out.at he
      have ej : (j : Int) < (n : Int) := by omega
      rcases Nat.eq_zero_or_pos j with hj0 | hj0
      · subst hj0
        simp only [Nat.zero_mul, Nat.add_zero] at c0 c1 c2
        clear hc
        go_wp2_with fail
        refine (gwithin_t _ _ _ _ e1 e2).mono ?_
        rintro ee w1 ⟨rfl, rfl⟩
        go_wp2_with fail
        refine (gwithin_t _ _ _ _ e3 e4).mono ?_
        rintro ee w1 ⟨rfl, rfl⟩
        go_upto_region 6 with fail
        go_quiet (fail)
        go_wp2_with fail
        go_roundw
        case rel => exact ⟨0 + 1, by omega, by go_num, (by repeat (first | with_reducible exact Ext.refl _ | with_reducible assumption | (with_reducible refine Ext.drew ?_) | (with_reducible refine Ext.drewN ?_ _) | (with_reducible refine Ext.alloc ?_ _) | (with_reducible refine Ext.setCell ?_ ?_ _) | (with_reducible refine Ext.trans ?_ (by with_reducible assumption)) | omega | (focus (simp <;> omega))))⟩
        case measure => first | (simp [intOf]; done) | (simp [intOf]; omega)
      · obtain ⟨p, hp⟩ : ∃ p, es[j - 1]? = some p := ⟨_, List.getElem?_eq_getElem (by omega)⟩
        have ⟨b0, b1, _⟩ := hc (j - 1) p hp
        have b0 := (hx.cell hb).trans b0
        have b1 := (hx.cell hb).trans b1
        have nx := H.out.next hp (by rw [show j - 1 + 1 = j by omega]; exact he)
        have wj : IntKind.i64.wrap ((j : Int) - 1) = (j : Int) - 1 := IntWalk.i64_in _ (by omega)
        have j1 : (0 : Int) ≤ (j : Int) - 1 := by omega
        have j2 : (j : Int) - 1 < (n : Int) := by omega
        have j3 : ((j : Int) - 1).toNat = j - 1 := by omega
        have d0 : decide ((0 : Int) < (j : Int)) = true := decide_eq_true (by omega)
        have d1 : decide (e.a < p.a) = false := decide_eq_false (by omega)
        have d3 : e.a = p.a → decide (e.s ≤ p.s) = false := fun h => decide_eq_false (by omega)
        have HC := Lib.hid hc
        clear hc nx
        by_cases q : e.a = p.a
        · have d2 : (e.a == p.a) = true := by simpa using q
          have d4 := d3 q
          clear d3
          obtain ⟨pa, ps, po⟩ := p
          obtain ⟨ea, es', eo⟩ := e
          clear hp he
          dsimp only at *
          subst q
          go_wp2_with fail
          refine (gwithin_t _ _ _ _ e1 e2).mono ?_
          rintro ee w1 ⟨rfl, rfl⟩
          go_wp2_with fail
          refine (gwithin_t _ _ _ _ e3 e4).mono ?_
          rintro ee w1 ⟨rfl, rfl⟩
          go_upto_region 6 with fail
          go_quiet (fail)
          go_wp2_with fail
          go_roundw
          case rel => exact ⟨j + 1, by omega, by go_num, (by repeat (first | with_reducible exact Ext.refl _ | with_reducible assumption | (with_reducible refine Ext.drew ?_) | (with_reducible refine Ext.drewN ?_ _) | (with_reducible refine Ext.alloc ?_ _) | (with_reducible refine Ext.setCell ?_ ?_ _) | (with_reducible refine Ext.trans ?_ (by with_reducible assumption)) | omega | (focus (simp <;> omega))))⟩
          case measure => first | (simp [intOf]; done) | (simp [intOf]; omega)
        · have d2 : (e.a == p.a) = false := by simpa using q
          clear d3
          obtain ⟨pa, ps, po⟩ := p
          obtain ⟨ea, es', eo⟩ := e
          clear hp he
          dsimp only at *
          go_wp2_with fail
          refine (gwithin_t _ _ _ _ e1 e2).mono ?_
          rintro ee w1 ⟨rfl, rfl⟩
          go_wp2_with fail
          refine (gwithin_t _ _ _ _ e3 e4).mono ?_
          rintro ee w1 ⟨rfl, rfl⟩
          go_upto_region 6 with fail
          go_quiet (fail)
          go_wp2_with fail
          go_roundw
          case rel => exact ⟨j + 1, by omega, by go_num, (by repeat (first | with_reducible exact Ext.refl _ | with_reducible assumption | (with_reducible refine Ext.drew ?_) | (with_reducible refine Ext.drewN ?_ _) | (with_reducible refine Ext.alloc ?_ _) | (with_reducible refine Ext.setCell ?_ ?_ _) | (with_reducible refine Ext.trans ?_ (by with_reducible assumption)) | omega | (focus (simp <;> omega))))⟩
          case measure => first | (simp [intOf]; done) | (simp [intOf]; omega)
    · obtain rfl : j = n := by omega
      have hge : (j : Int) ≤ (j : Int) := Int.le_refl _
      go_wp2_with fail
      go_ret
      exact ⟨rfl, (by repeat (first | with_reducible exact Ext.refl _ | with_reducible assumption | (with_reducible refine Ext.drew ?_) | (with_reducible refine Ext.drewN ?_ _) | (with_reducible refine Ext.alloc ?_ _) | (with_reducible refine Ext.setCell ?_ ?_ _) | (with_reducible refine Ext.trans ?_ (by with_reducible assumption)) | omega | (focus (simp <;> omega))))⟩

end Go.Proofs.Ytfignlcplkihpaa
