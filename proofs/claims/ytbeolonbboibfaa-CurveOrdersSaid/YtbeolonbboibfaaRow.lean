/- Slices of integers and curves that came in: what their cells hold, behind further calls; how they are opened.
   Conditions: none beyond each lemma's own. -/
import Derived.Test.YtbeolonbboibfaaBlk
import Derived.Test.YtbeolonbboibfaaPlainCurve
import Derived.Lib.SmallJoins
namespace Go.Proofs.Ytbeolonbboibfaa
open Go.ChangeShapes Go.WideShapes Go.ChangeAt Go.RowKit

/-- A slice of n integers reads as the list z. -/
def Row (w : World) (a : Option Addr) (n : Nat) (z : Nat → Int) : Prop :=
  0 < n → ∃ b off, a = some ⟨b, off, none⟩ ∧ b < w.heap.size ∧ ∀ j, j < n → w.cell? ⟨b, off + j, none⟩ = some (.int .i64 (z j))
theorem Row.ext {w w' : World} {a : Option Addr} {n : Nat} {z : Nat → Int} (h : Row w a n z) (hx : Ext w w') : Row w' a n z := fun h0 => by
  obtain ⟨b, off, e, hb, hc⟩ := h h0
  exact ⟨b, off, e, Nat.lt_of_lt_of_le hb hx.size, fun j hj => (hx.cell hb).trans (hc j hj)⟩
theorem Row.nil {w : World} (a : Option Addr) (z : Nat → Int) : Row w a 0 z := fun h => absurd h (Nat.lt_irrefl 0)
theorem Row.congr {w : World} {a : Option Addr} {n : Nat} {z z' : Nat → Int} (h : Row w a n z) (e : ∀ j, j < n → z' j = z j) : Row w a n z' := fun h0 => by
  obtain ⟨b, off, ea, hb, hc⟩ := h h0
  exact ⟨b, off, ea, hb, fun j hj => by rw [e j hj]; exact hc j hj⟩
/-- A block of the call's own, as a slice. -/
theorem Row.blk {w : World} {g n : Nat} {z : Nat → Int} {us : List Value} (h : Blk w g us) (e : ∀ j, j < n → us[j]? = some (.int .i64 (z j))) : Row w (some ⟨g, 0, none⟩) n z := fun _ =>
  ⟨g, 0, rfl, h.lt, fun j hj => by rw [Nat.zero_add]; exact h.at j _ (e j hj)⟩

structure Sl where
  a : Option Addr
  n : Nat
  k : Nat
  z : Nat → Int
structure SlAt (w : World) (s : Sl) : Prop where
  row : Row w s.a s.n s.z
  i64 : ∀ j, j < s.n → I64 (s.z j)
  len : s.n ≤ maxLen
theorem SlAt.ext {w w' : World} {s : Sl} (h : SlAt w s) (hx : Ext w w') : SlAt w' s := ⟨h.row.ext hx, h.i64, h.len⟩
structure Cu where
  a : Option Addr
  b : Option Addr
  k : Nat
  l : Nat
  v : Pl.Cv
structure CuAt (w : World) (c : Cu) : Prop where
  x : Row w c.a c.v.nx c.v.x
  y : Row w c.b c.v.ny c.v.y
  ix : ∀ j, j < c.v.nx → I64 (c.v.x j)
  iy : ∀ j, j < c.v.ny → I64 (c.v.y j)
  lx : c.v.nx ≤ maxLen
  ly : c.v.ny ≤ maxLen
theorem CuAt.ext {w w' : World} {c : Cu} (h : CuAt w c) (hx : Ext w w') : CuAt w' c := ⟨h.x.ext hx, h.y.ext hx, h.ix, h.iy, h.lx, h.ly⟩

theorem cell_lt {w : World} {a : Addr} {v : Value} (h : w.cell? a = some v) : a.block < w.heap.size ∧ a.spot = none := by
  unfold World.cell? at h
  split at h
  · rename_i c t f e
    split at h
    · cases h
    · rename_i hs
      refine ⟨(Array.getElem?_eq_some_iff.1 e).1, ?_⟩
      cases hh : a.spot with
      | none => rfl
      | some s => rw [hh] at hs; simp at hs
  · cases h

theorem wf_i64 {n : Int} (h : (Lit.int .i64 n).wf = true) : I64 n := by
  unfold Lit.wf at h
  rw [Bool.and_eq_true, decide_eq_true_iff, decide_eq_true_iff] at h
  exact has_i64 h

theorem open_sl {H : Type} {enc : TypeId × Value → H} {P : Program} {w : World} {t e : TypeId} {fuel : Nat} {v : Value} {x : DataW H × List MemPlace} (ht : P.underlying t = some (.slice e)) (he : P.underlying e = some (.int .i64)) (hc : P.cellsOf e = 1)
    (h : DataW.trod enc P w 0 (fun _ => true) true fuel t [v] = some x) : ∃ s : Sl, v = .slice s.a s.n s.k ∧ SlAt w s := by
  rcases open_ints ht he hc h with ⟨hcs, _⟩ | ⟨a, len, cap, zs, hcs, _, hl, hm, hz, _, hcell, hwz⟩
  · cases hcs
    exact ⟨⟨none, 0, 0, fun _ => 0⟩, rfl, Row.nil _ _, fun j hj => absurd hj (Nat.not_lt_zero _), Nat.zero_le _⟩
  · cases hcs
    simp only [if_true] at hz
    refine ⟨⟨some a, len, cap, fun j => zs.getD j 0⟩, rfl, fun h0 => ?_, fun j hj => ?_, Nat.le_trans hl hm⟩
    · have h0' : 0 < len := h0
      have c0 := hcell 0 (by omega)
      have e0 : a.add 0 = a := by unfold Addr.add; rfl
      rw [e0] at c0
      obtain ⟨hb, hs⟩ := cell_lt c0
      obtain ⟨b, off, sp⟩ := a
      dsimp only at hs hb
      subst hs
      refine ⟨b, off, rfl, hb, fun j hj => ?_⟩
      have hj' : j < len := hj
      have := hcell j (by omega)
      have e1 : (⟨b, off, none⟩ : Addr).add j = ⟨b, off + j, none⟩ := by unfold Addr.add; split <;> simp_all
      rw [e1] at this
      exact this
    · have hj' : j < len := hj
      have e2 : zs.getD j 0 = zs[j]'(by omega) := by simp [List.getD, List.getElem?_eq_getElem (show j < zs.length by omega)]
      show I64 (zs.getD j 0)
      rw [e2]
      exact wf_i64 (hwz _ (List.getElem_mem _))

theorem open_crv {H : Type} {enc : TypeId × Value → H} {w : World} {r : Reach} {base : Nat} {v : Value} {d : DataW H} {p : List MemPlace}
    (hv : Value.okWide Try.prog w r base 24 v) (h : DataW.Trod enc Try.prog w 0 (fun _ => true) true 24 v d p) :
    ∃ c : Cu, v = .agg #[.slice c.a c.v.nx c.k, .slice c.b c.v.ny c.l] ∧ CuAt w c := by
  obtain ⟨v0, v1, y0, y1, n, rfl, _, _, h0, h1⟩ := Go.Joins.open_agg2 Try.underlying24 (by kernel_rfl) (by kernel_rfl) hv h
  obtain ⟨s, rfl, hs⟩ := open_sl Try.underlying22 Try.underlying3 (by kernel_rfl) h0
  obtain ⟨u, rfl, hu⟩ := open_sl Try.underlying22 Try.underlying3 (by kernel_rfl) h1
  exact ⟨⟨s.a, u.a, s.k, u.k, ⟨s.n, u.n, s.z, u.z⟩⟩, rfl, hs.row, hu.row, hs.i64, hu.i64, hs.len, hu.len⟩

end Go.Proofs.Ytbeolonbboibfaa
