/- How a torque configuration and an input are opened.
   Conditions: none beyond each lemma's own. -/
import Derived.Test.YtphfgljfjfpomaaTorqueCheck
namespace Go.Proofs.Ytphfgljfjfpomaa
open Go.ChangeShapes Go.WideShapes Go.ChangeAt Go.RowKit

theorem open_str3 {P : Program} {w : World} {r : Reach} {base : Nat} {t u : TypeId} {fs : Array Field} {v : Value} (ht : P.underlying t = some (.struct fs)) (hC : P.cellsOf t = 3) (hts : P.cellTypes P.depth t = some (List.replicate 3 u)) (hu : P.underlying u = some (.int .i64))
    (h : Value.okWide P w r base t v) : ∃ x y z, v = .agg #[.int .i64 x, .int .i64 y, .int .i64 z] ∧ I64 x ∧ I64 y ∧ I64 z := by
  simp only [Value.okWide, ht, hC] at h
  exact open_row3 hts hu h

theorem eleven {α : Type} {cs : Array α} (h : cs.size = 11) : ∃ c0 c1 c2 c3 c4 c5 c6 c7 c8 c9 c10, cs = #[c0, c1, c2, c3, c4, c5, c6, c7, c8, c9, c10] := by
  obtain ⟨l⟩ := cs
  match l, h with
  | [c0, c1, c2, c3, c4, c5, c6, c7, c8, c9, c10], _ => exact ⟨c0, c1, c2, c3, c4, c5, c6, c7, c8, c9, c10, rfl⟩
theorem seven {α : Type} {l : List α} (h : l.length = 7) : ∃ c0 c1 c2 c3 c4 c5 c6, l = [c0, c1, c2, c3, c4, c5, c6] := by
  match l, h with
  | [c0, c1, c2, c3, c4, c5, c6], _ => exact ⟨c0, c1, c2, c3, c4, c5, c6, rfl⟩
theorem int_cell {H : Type} {enc : TypeId × Value → H} {w : World} {n : Nat} {c : Value} {y : DataW H × List MemPlace} (h : DataW.trod enc Try.prog w 0 (fun _ => true) true n 3 [c] = some y) : ∃ m, c = .int .i64 m := by
  obtain ⟨m, h0, _, _⟩ := DataW.trod_int Try.underlying3 h
  cases h0
  exact ⟨m, rfl⟩
theorem crv_cells {H : Type} {enc : TypeId × Value → H} {w : World} {n : Nat} {c0 c1 : Value} {y : DataW H × List MemPlace} (h : DataW.trod enc Try.prog w 0 (fun _ => true) true n 24 [c0, c1] = some y) :
    ∃ c : Cu, c0 = .slice c.a c.v.nx c.k ∧ c1 = .slice c.b c.v.ny c.l ∧ CuAt w c := by
  have e : Try.prog.cellsOf 22 = 1 := by kernel_rfl
  obtain ⟨y0, y1, m, _, _, h0, h1⟩ := trod_struct2 Try.underlying24 h
  dsimp only at h0 h1
  simp [e] at h0 h1
  obtain ⟨s, rfl, hs⟩ := open_sl (v := c0) Try.underlying22 Try.underlying3 (by kernel_rfl) h0
  obtain ⟨u, rfl, hu⟩ := open_sl (v := c1) Try.underlying22 Try.underlying3 (by kernel_rfl) h1
  exact ⟨⟨s.a, u.a, s.k, u.k, ⟨s.n, u.n, s.z, u.z⟩⟩, rfl, rfl, hs.row, hu.row, hs.i64, hu.i64, hs.len, hu.len⟩

theorem open_tc {H : Type} {enc : TypeId × Value → H} {w : World} {r : Reach} {base : Nat} {v : Value} {d : DataW H} {p : List MemPlace}
    (hv : Value.okWide Try.prog w r base 26 v) (h : DataW.Trod enc Try.prog w 0 (fun _ => true) true 26 v d p) :
    ∃ t : Tc, v = .agg #[.int .i64 t.most, .int .i64 t.per, .int .i64 t.mx, .slice t.c0.a t.c0.v.nx t.c0.k, .slice t.c0.b t.c0.v.ny t.c0.l, .slice t.c1.a t.c1.v.nx t.c1.k, .slice t.c1.b t.c1.v.ny t.c1.l, .slice t.c2.a t.c2.v.nx t.c2.k, .slice t.c2.b t.c2.v.ny t.c2.l, .slice t.c3.a t.c3.v.nx t.c3.k, .slice t.c3.b t.c3.v.ny t.c3.l] ∧ TcAt w t := by
  obtain ⟨cs, rfl, hsz⟩ := okWide_struct Try.underlying26 hv
  have hC : Try.prog.cellsOf 26 = 11 := by kernel_rfl
  obtain ⟨c0, c1, c2, c3, c4, c5, c6, c7, c8, c9, c10, rfl⟩ := eleven (hsz.trans hC)
  obtain ⟨fuel, hf⟩ := h
  obtain ⟨xs, n, _, _, _, hl, hg⟩ := DataW.trod_struct Try.underlying26 hf
  obtain ⟨y0, y1, y2, y3, y4, y5, y6, rfl⟩ := seven hl
  have e1 : Try.prog.cellsOf 3 = 1 := by kernel_rfl
  have e2 : Try.prog.cellsOf 24 = 2 := by kernel_rfl
  have g0 := hg 0 _ rfl
  have g1 := hg 1 _ rfl
  have g2 := hg 2 _ rfl
  have g3 := hg 3 _ rfl
  have g4 := hg 4 _ rfl
  have g5 := hg 5 _ rfl
  have g6 := hg 6 _ rfl
  try dsimp only at g0
  simp [e1, Value.cells] at g0
  try dsimp only at g1
  simp [e1, Value.cells] at g1
  try dsimp only at g2
  simp [e1, Value.cells] at g2
  try dsimp only at g3
  simp [e2, Value.cells] at g3
  try dsimp only at g4
  simp [e2, Value.cells] at g4
  try dsimp only at g5
  simp [e2, Value.cells] at g5
  try dsimp only at g6
  simp [e2, Value.cells] at g6
  obtain ⟨m0, rfl⟩ := int_cell (c := c0) g0
  obtain ⟨m1, rfl⟩ := int_cell (c := c1) g1
  obtain ⟨m2, rfl⟩ := int_cell (c := c2) g2
  obtain ⟨k0, rfl, rfl, h0⟩ := crv_cells (c0 := c3) (c1 := c4) g3
  obtain ⟨k1, rfl, rfl, h1⟩ := crv_cells (c0 := c5) (c1 := c6) g4
  obtain ⟨k2, rfl, rfl, h2⟩ := crv_cells (c0 := c7) (c1 := c8) g5
  obtain ⟨k3, rfl, rfl, h3⟩ := crv_cells (c0 := c9) (c1 := c10) g6
  exact ⟨⟨m0, m1, m2, k0, k1, k2, k3⟩, rfl, h0, h1, h2, h3⟩

end Go.Proofs.Ytphfgljfjfpomaa
