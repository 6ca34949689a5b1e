/- Lists of voltage wishes and of trips that came in: what their cells hold, behind further calls; how they are opened.
   Conditions: none beyond each lemma's own. -/
import Derived.Test.YtfignlcplkihpaaBlk
import Derived.Deep.SlicePairs
import Derived.Lib.SmallJoins
namespace Go.Proofs.Ytfignlcplkihpaa
open Go.ChangeShapes Go.WideShapes Go.ChangeAt Go.RowKit

/-- A slice of n pairs reads as x, y. -/
def Prs (w : World) (a : Option Addr) (n : Nat) (x y : Nat → Int) : Prop :=
  0 < n → ∃ b off, a = some ⟨b, off, none⟩ ∧ b < w.heap.size ∧ ∀ j, j < n → w.cell? ⟨b, off + j * 2, none⟩ = some (.int .i64 (x j)) ∧ w.cell? ⟨b, off + j * 2 + 1, none⟩ = some (.int .i64 (y j))
theorem Prs.ext {w w' : World} {a : Option Addr} {n : Nat} {x y : Nat → Int} (h : Prs w a n x y) (hx : Ext w w') : Prs w' a n x y := fun h0 => by
  obtain ⟨b, off, e, hb, hc⟩ := h h0
  exact ⟨b, off, e, Nat.lt_of_lt_of_le hb hx.size, fun j hj => ⟨(hx.cell hb).trans (hc j hj).1, (hx.cell hb).trans (hc j hj).2⟩⟩
/-- A slice of n short numbers reads as z. -/
def Shr (w : World) (a : Option Addr) (n : Nat) (z : Nat → Int) : Prop :=
  0 < n → ∃ b off, a = some ⟨b, off, none⟩ ∧ b < w.heap.size ∧ ∀ j, j < n → w.cell? ⟨b, off + j, none⟩ = some (.int .u16 (z j))
theorem Shr.ext {w w' : World} {a : Option Addr} {n : Nat} {z : Nat → Int} (h : Shr w a n z) (hx : Ext w w') : Shr w' a n z := fun h0 => by
  obtain ⟨b, off, e, hb, hc⟩ := h h0
  exact ⟨b, off, e, Nat.lt_of_lt_of_le hb hx.size, fun j hj => (hx.cell hb).trans (hc j hj)⟩

structure Wl where
  a : Option Addr
  n : Nat
  k : Nat
  x : Nat → Int
  y : Nat → Int
structure WlAt (w : World) (s : Wl) : Prop where
  row : Prs w s.a s.n s.x s.y
  i64 : ∀ j, j < s.n → I64 (s.x j) ∧ I64 (s.y j)
  len : s.n ≤ maxLen
structure Tl where
  a : Option Addr
  n : Nat
  k : Nat
  z : Nat → Int
structure TlAt (w : World) (s : Tl) : Prop where
  row : Shr w s.a s.n s.z
  u16 : ∀ j, j < s.n → 0 ≤ s.z j ∧ s.z j ≤ 65535
  len : s.n ≤ maxLen

theorem arr_four {α : Type} {cs : Array α} (h : cs.size = 4) : ∃ c0 c1 c2 c3, cs = #[c0, c1, c2, c3] := by
  obtain ⟨l⟩ := cs
  match l, h with
  | [c0, c1, c2, c3], _ => exact ⟨c0, c1, c2, c3, rfl⟩
theorem open_row4 {P : Program} {w : World} {r : Reach} {base : Nat} {t u : TypeId} {v : Value} (hts : P.cellTypes P.depth t = some (List.replicate 4 u)) (hu : P.underlying u = some (.int .i64))
    (h : ∃ cs, v = .agg cs ∧ cs.size = 4 ∧ Row.okWide P w r base t cs) : ∃ x y z q, v = .agg #[.int .i64 x, .int .i64 y, .int .i64 z, .int .i64 q] ∧ I64 x ∧ I64 y ∧ I64 z ∧ I64 q := by
  obtain ⟨cs, rfl, hs, hr⟩ := h
  obtain ⟨c0, c1, c2, c3, rfl⟩ := arr_four hs
  obtain ⟨x, rfl, hx⟩ := row_ints hts hu hr 0 _ rfl
  obtain ⟨y, rfl, hy⟩ := row_ints hts hu hr 1 _ rfl
  obtain ⟨z, rfl, hz⟩ := row_ints hts hu hr 2 _ rfl
  obtain ⟨q, rfl, hq⟩ := row_ints hts hu hr 3 _ rfl
  exact ⟨x, y, z, q, rfl, hx, hy, hz, hq⟩
theorem open_str4 {P : Program} {w : World} {r : Reach} {base : Nat} {t u : TypeId} {fs : Array Field} {v : Value} (ht : P.underlying t = some (.struct fs)) (hC : P.cellsOf t = 4) (hts : P.cellTypes P.depth t = some (List.replicate 4 u)) (hu : P.underlying u = some (.int .i64))
    (h : Value.okWide P w r base t v) : ∃ x y z q, v = .agg #[.int .i64 x, .int .i64 y, .int .i64 z, .int .i64 q] ∧ I64 x ∧ I64 y ∧ I64 z ∧ I64 q := by
  simp only [Value.okWide, ht, hC] at h
  exact open_row4 hts hu h

theorem cell_ltT {w : World} {a : Addr} {v : Value} (h : w.cell? a = some v) : a.block < w.heap.size ∧ a.spot = none := by
  unfold World.cell? at h
  split at h
  · rename_i c t f e
    split at h
    · cases h
    · rename_i hs
      refine ⟨(Array.getElem?_eq_some_iff.1 e).1, ?_⟩
      cases hh : a.spot with
      | none => rfl
      | some s => rw [hh] at hs; simp at hs
  · cases h
theorem add_none (b off j : Nat) : (⟨b, off, none⟩ : Addr).add j = ⟨b, off + j, none⟩ := by unfold Addr.add; split <;> simp_all
theorem wf_i64T {n : Int} (h : (Lit.int .i64 n).wf = true) : I64 n := by
  unfold Lit.wf at h
  rw [Bool.and_eq_true, decide_eq_true_iff, decide_eq_true_iff] at h
  exact has_i64 h
theorem wf_u16 {n : Int} (h : (Lit.int .u16 n).wf = true) : 0 ≤ n ∧ n ≤ 65535 := by
  have e1 : IntKind.u16.min = 0 := by decide
  have e2 : IntKind.u16.max = 65535 := by decide
  unfold Lit.wf at h
  rw [Bool.and_eq_true, decide_eq_true_iff, decide_eq_true_iff, e1, e2] at h
  exact h

theorem open_tl {H : Type} {enc : TypeId × Value → H} {P : Program} {w : World} {t e : TypeId} {fuel : Nat} {v : Value} {x : DataW H × List MemPlace} (ht : P.underlying t = some (.slice e)) (he : P.underlying e = some (.int .u16)) (hc : P.cellsOf e = 1)
    (h : DataW.trod enc P w 0 (fun _ => true) true fuel t [v] = some x) : ∃ s : Tl, v = .slice s.a s.n s.k ∧ TlAt w s := by
  rcases open_ints ht he hc h with ⟨hcs, _⟩ | ⟨a, len, cap, zs, hcs, _, hl, hm, hz, _, hcell, hwz⟩
  · cases hcs
    exact ⟨⟨none, 0, 0, fun _ => 0⟩, rfl, fun h => absurd h (Nat.lt_irrefl 0), fun j hj => absurd hj (Nat.not_lt_zero _), Nat.zero_le _⟩
  · cases hcs
    simp only [if_true] at hz
    refine ⟨⟨some a, len, cap, fun j => zs.getD j 0⟩, rfl, fun h0 => ?_, fun j hj => ?_, Nat.le_trans hl hm⟩
    · have h0' : 0 < len := h0
      have c0 := hcell 0 (by omega)
      have e0 : a.add 0 = a := by unfold Addr.add; rfl
      rw [e0] at c0
      obtain ⟨hb, hs⟩ := cell_ltT c0
      obtain ⟨b, off, sp⟩ := a
      dsimp only at hs hb
      subst hs
      refine ⟨b, off, rfl, hb, fun j hj => ?_⟩
      have hj' : j < len := hj
      have := hcell j (by omega)
      rw [add_none] at this
      exact this
    · have hj' : j < len := hj
      have e2 : zs.getD j 0 = zs[j]'(by omega) := by simp [List.getD, List.getElem?_eq_getElem (show j < zs.length by omega)]
      show 0 ≤ zs.getD j 0 ∧ zs.getD j 0 ≤ 65535
      rw [e2]
      exact wf_u16 (hwz _ (List.getElem_mem _))

/-- A cell that reads as an int holds one. -/
def intOfV : Value → Int | .int _ n => n | _ => 0
theorem trod_i64 {H : Type} {enc : TypeId × Value → H} {P : Program} {w : World} {base fuel : Nat} {spare : Nat → Bool} {held : Bool} {e : TypeId} {v : Value} {y : DataW H × List MemPlace} (he : P.underlying e = some (.int .i64))
    (h : DataW.trod enc P w base spare held fuel e [v] = some y) : v = .int .i64 (intOfV v) ∧ I64 (intOfV v) := by
  obtain ⟨m, hm, _, hw⟩ := DataW.trod_int he h
  have : v = .int .i64 m := by simpa using hm
  subst this
  exact ⟨rfl, wf_i64T hw⟩

theorem open_wl {H : Type} {enc : TypeId × Value → H} {P : Program} {w : World} {t e : TypeId} {f0 f1 : Field} {fuel : Nat} {v : Value} {x : DataW H × List MemPlace} (ht : P.underlying t = some (.slice e)) (he : P.underlying e = some (.struct #[f0, f1]))
    (ce : P.cellsOf e = 2) (o0 : f0.offset = 0) (o1 : f1.offset = 1) (c0 : P.cellsOf f0.type = 1) (c1 : P.cellsOf f1.type = 1) (u0 : P.underlying f0.type = some (.int .i64)) (u1 : P.underlying f1.type = some (.int .i64))
    (h : DataW.trod enc P w 0 (fun _ => true) true fuel t [v] = some x) : ∃ s : Wl, v = .slice s.a s.n s.k ∧ WlAt w s := by
  rcases Go.Deep.open_slice_pairs ht he ce o0 o1 c0 c1 h with ⟨hcs, _⟩ | ⟨a, len, cap, m, n, V0, V1, D0, D1, P0, P1, hcs, _, hl, hm, hmm, _, hx⟩
  · cases hcs
    exact ⟨⟨none, 0, 0, fun _ => 0, fun _ => 0⟩, rfl, fun h => absurd h (Nat.lt_irrefl 0), fun j hj => absurd hj (Nat.not_lt_zero _), Nat.zero_le _⟩
  · cases hcs
    simp only [if_true] at hmm
    refine ⟨⟨some a, len, cap, fun j => intOfV (V0 j), fun j => intOfV (V1 j)⟩, rfl, fun h0 => ?_, fun j hj => ?_, Nat.le_trans hl hm⟩
    · have h0' : 0 < len := h0
      have q0 := (hx 0 (by omega)).1
      have e0 : a.add (0 * 2) = a := by rw [Nat.zero_mul]; unfold Addr.add; rfl
      rw [e0] at q0
      obtain ⟨hb, hs⟩ := cell_ltT q0
      obtain ⟨b, off, sp⟩ := a
      dsimp only at hs hb
      subst hs
      refine ⟨b, off, rfl, hb, fun j hj => ?_⟩
      have hj' : j < len := hj
      obtain ⟨a1, a2, a3, a4⟩ := hx j (by omega)
      rw [add_none] at a1 a2
      have b0 := trod_i64 u0 a3
      have b1 := trod_i64 u1 a4
      rw [b0.1] at a1
      rw [b1.1] at a2
      exact ⟨a1, by rw [Nat.add_assoc]; exact a2⟩
    · have hj' : j < len := hj
      obtain ⟨_, _, a3, a4⟩ := hx j (by omega)
      exact ⟨(trod_i64 u0 a3).2, (trod_i64 u1 a4).2⟩

end Go.Proofs.Ytfignlcplkihpaa
