/- How the arguments of a law are opened: integers, arrays and structs of integers.
   Conditions: none beyond each lemma's own. -/
import Derived.Test.YtfignlcplkihpaaBase
namespace Go.Proofs.Ytfignlcplkihpaa
open Go.ChangeShapes Go.WideShapes Go.ChangeAt Go.RowKit

theorem ret_true {b : Bool} (h : b = true) : Ending.returned (.bool b) = Ending.returned (.bool true) := by rw [h]

/-- Two and three numbers at once. -/
def In30 (x : Int) : Prop := -1073741824 ≤ x ∧ x ≤ 1073741824
instance (x : Int) : Decidable (In30 x) := by unfold In30; exact inferInstance

/-- An int's bounds, behind a name (the long numerals are kept from the walk). -/
def I64 (x : Int) : Prop := -9223372036854775808 ≤ x ∧ x ≤ 9223372036854775807

theorem has_i64 {x : Int} (h : IntKind.i64.has x) : I64 x := by
  have e1 : IntKind.i64.min = -9223372036854775808 := by decide
  have e2 : IntKind.i64.max = 9223372036854775807 := by decide
  unfold IntKind.has at h
  rw [e1, e2] at h
  exact h
theorem has_u32 {x : Int} (h : IntKind.u32.has x) : 0 ≤ x ∧ x ≤ 4294967295 := by
  have e1 : IntKind.u32.min = 0 := by decide
  have e2 : IntKind.u32.max = 4294967295 := by decide
  unfold IntKind.has at h
  rw [e1, e2] at h
  exact h

theorem cell_i64 {P : Program} {w : World} {r : Reach} {base : Nat} {u : TypeId} {v : Value} (hu : P.underlying u = some (.int .i64)) (h : Cell.okWide P w r base u v) : ∃ x, v = .int .i64 x ∧ I64 x := by
  cases v <;> simp only [Cell.okWide, Cell.ok, hu] at h
  obtain ⟨rfl, hh⟩ := h
  exact ⟨_, rfl, has_i64 hh⟩

theorem cell_u32 {P : Program} {w : World} {r : Reach} {base : Nat} {u : TypeId} {v : Value} (hu : P.underlying u = some (.int .u32)) (h : Cell.okWide P w r base u v) : ∃ x, v = .int .u32 x ∧ (0 ≤ x ∧ x ≤ 4294967295) := by
  cases v <;> simp only [Cell.okWide, Cell.ok, hu] at h
  obtain ⟨rfl, hh⟩ := h
  exact ⟨_, rfl, has_u32 hh⟩

theorem open_i64 {P : Program} {w : World} {r : Reach} {base : Nat} {u : TypeId} {v : Value} (hu : P.underlying u = some (.int .i64)) (h : Value.okWide P w r base u v) : ∃ x, v = .int .i64 x ∧ I64 x := by
  simp only [Value.okWide, hu] at h
  exact cell_i64 hu h

theorem open_u32 {P : Program} {w : World} {r : Reach} {base : Nat} {u : TypeId} {v : Value} (hu : P.underlying u = some (.int .u32)) (h : Value.okWide P w r base u v) : ∃ x, v = .int .u32 x ∧ (0 ≤ x ∧ x ≤ 4294967295) := by
  simp only [Value.okWide, hu] at h
  exact cell_u32 hu h

theorem row_ints {P : Program} {w : World} {r : Reach} {base : Nat} {t u : TypeId} {cs : Array Value} {m : Nat} (hts : P.cellTypes P.depth t = some (List.replicate m u)) (hu : P.underlying u = some (.int .i64))
    (h : Row.okWide P w r base t cs) : ∀ (i : Nat) v, cs[i]? = some v → ∃ x, v = .int .i64 x ∧ I64 x := by
  obtain ⟨ts, h1, _, h3⟩ := h
  rw [hts] at h1
  cases h1
  intro i v hv
  obtain ⟨u', hu', hc⟩ := h3 i v hv
  have : u' = u := by
    rw [List.getElem?_replicate] at hu'
    split at hu' <;> simp at hu'
    exact hu'.symm
  subst this
  exact cell_i64 hu hc

theorem arr_two {α : Type} {cs : Array α} (h : cs.size = 2) : ∃ c0 c1, cs = #[c0, c1] := by
  obtain ⟨l⟩ := cs
  match l, h with
  | [c0, c1], _ => exact ⟨c0, c1, rfl⟩
theorem arr_three {α : Type} {cs : Array α} (h : cs.size = 3) : ∃ c0 c1 c2, cs = #[c0, c1, c2] := by
  obtain ⟨l⟩ := cs
  match l, h with
  | [c0, c1, c2], _ => exact ⟨c0, c1, c2, rfl⟩

theorem open_row2 {P : Program} {w : World} {r : Reach} {base : Nat} {t u : TypeId} {v : Value} (hts : P.cellTypes P.depth t = some (List.replicate 2 u)) (hu : P.underlying u = some (.int .i64))
    (h : ∃ cs, v = .agg cs ∧ cs.size = 2 ∧ Row.okWide P w r base t cs) : ∃ x y, v = .agg #[.int .i64 x, .int .i64 y] ∧ I64 x ∧ I64 y := by
  obtain ⟨cs, rfl, hs, hr⟩ := h
  obtain ⟨c0, c1, rfl⟩ := arr_two hs
  obtain ⟨x, rfl, hx⟩ := row_ints hts hu hr 0 _ rfl
  obtain ⟨y, rfl, hy⟩ := row_ints hts hu hr 1 _ rfl
  exact ⟨x, y, rfl, hx, hy⟩

theorem open_row3 {P : Program} {w : World} {r : Reach} {base : Nat} {t u : TypeId} {v : Value} (hts : P.cellTypes P.depth t = some (List.replicate 3 u)) (hu : P.underlying u = some (.int .i64))
    (h : ∃ cs, v = .agg cs ∧ cs.size = 3 ∧ Row.okWide P w r base t cs) : ∃ x y z, v = .agg #[.int .i64 x, .int .i64 y, .int .i64 z] ∧ I64 x ∧ I64 y ∧ I64 z := by
  obtain ⟨cs, rfl, hs, hr⟩ := h
  obtain ⟨c0, c1, c2, rfl⟩ := arr_three hs
  obtain ⟨x, rfl, hx⟩ := row_ints hts hu hr 0 _ rfl
  obtain ⟨y, rfl, hy⟩ := row_ints hts hu hr 1 _ rfl
  obtain ⟨z, rfl, hz⟩ := row_ints hts hu hr 2 _ rfl
  exact ⟨x, y, z, rfl, hx, hy, hz⟩

theorem open_arr2 {P : Program} {w : World} {r : Reach} {base : Nat} {t u e : TypeId} {n : Nat} {v : Value} (ht : P.underlying t = some (.array n e)) (hC : P.cellsOf t = 2) (hts : P.cellTypes P.depth t = some (List.replicate 2 u)) (hu : P.underlying u = some (.int .i64))
    (h : Value.okWide P w r base t v) : ∃ x y, v = .agg #[.int .i64 x, .int .i64 y] ∧ I64 x ∧ I64 y := by
  simp only [Value.okWide, ht, hC] at h
  exact open_row2 hts hu h
theorem open_arr3 {P : Program} {w : World} {r : Reach} {base : Nat} {t u e : TypeId} {n : Nat} {v : Value} (ht : P.underlying t = some (.array n e)) (hC : P.cellsOf t = 3) (hts : P.cellTypes P.depth t = some (List.replicate 3 u)) (hu : P.underlying u = some (.int .i64))
    (h : Value.okWide P w r base t v) : ∃ x y z, v = .agg #[.int .i64 x, .int .i64 y, .int .i64 z] ∧ I64 x ∧ I64 y ∧ I64 z := by
  simp only [Value.okWide, ht, hC] at h
  exact open_row3 hts hu h
theorem open_str2 {P : Program} {w : World} {r : Reach} {base : Nat} {t u : TypeId} {fs : Array Field} {v : Value} (ht : P.underlying t = some (.struct fs)) (hC : P.cellsOf t = 2) (hts : P.cellTypes P.depth t = some (List.replicate 2 u)) (hu : P.underlying u = some (.int .i64))
    (h : Value.okWide P w r base t v) : ∃ x y, v = .agg #[.int .i64 x, .int .i64 y] ∧ I64 x ∧ I64 y := by
  simp only [Value.okWide, ht, hC] at h
  exact open_row2 hts hu h

end Go.Proofs.Ytfignlcplkihpaa
