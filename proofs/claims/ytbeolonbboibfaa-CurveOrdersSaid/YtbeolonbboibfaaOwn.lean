/- Slices of integers that the call itself makes: what they hold behind an append, a call, a store into another block.
   Conditions: none beyond each lemma's own. -/
import Derived.Test.YtbeolonbboibfaaRow
import Derived.WalkKit
import Derived.Deep.AppendLies
namespace Go.Proofs.Ytbeolonbboibfaa
open Go.ChangeShapes Go.WideShapes Go.ChangeAt Go.RowKit

theorem info3 : (Try.prog.info? 3).map (fun i => (i.zero, i.size, i.bytes)) = some (some (.int .i64 0), 1, 8) := by kernel_rfl
/-- f's first n numbers, then z's. -/
def cat (n : Nat) (f z : Nat → Int) : Nat → Int := fun j => if j < n then f j else z (j - n)
def cellsOf (n : Nat) (f : Nat → Int) : List Value := (List.range n).map fun j => .int .i64 (f j)
theorem cellsOf_get {n : Nat} {f : Nat → Int} {j : Nat} {u : Value} (h : (cellsOf n f)[j]? = some u) : j < n ∧ u = .int .i64 (f j) := by
  unfold cellsOf at h
  rw [List.getElem?_map] at h
  by_cases hj : j < n
  · rw [List.getElem?_range hj] at h
    exact ⟨hj, (Option.some.inj h).symm⟩
  · rw [List.getElem?_eq_none (by simp; omega)] at h
    cases h
theorem cellsOf_at {n : Nat} {f : Nat → Int} {j : Nat} (h : j < n) : (cellsOf n f)[j]? = some (.int .i64 (f j)) := by
  unfold cellsOf
  rw [List.getElem?_map, List.getElem?_range h]
  rfl
theorem cellsOf_len (n : Nat) (f : Nat → Int) : (cellsOf n f).length = n := by unfold cellsOf; simp
theorem cellsOf_cat (n m : Nat) (f z : Nat → Int) : cellsOf n f ++ cellsOf m z = cellsOf (n + m) (cat n f z) := by
  apply List.ext_getElem?
  intro j
  by_cases h : j < n
  · rw [List.getElem?_append_left (by rw [cellsOf_len]; exact h), cellsOf_at h, cellsOf_at (by omega)]
    unfold cat; rw [if_pos h]
  · rw [List.getElem?_append_right (by rw [cellsOf_len]; omega), cellsOf_len]
    by_cases h2 : j < n + m
    · rw [cellsOf_at (by omega), cellsOf_at h2]
      unfold cat; rw [if_neg h]
    · rw [List.getElem?_eq_none (by rw [cellsOf_len]; omega), List.getElem?_eq_none (by rw [cellsOf_len]; omega)]
theorem cellsOf_congr {n : Nat} {f z : Nat → Int} (h : ∀ j, j < n → f j = z j) : cellsOf n f = cellsOf n z := by
  apply List.ext_getElem?
  intro j
  by_cases hj : j < n
  · rw [cellsOf_at hj, cellsOf_at hj, h j hj]
  · rw [List.getElem?_eq_none (by rw [cellsOf_len]; omega), List.getElem?_eq_none (by rw [cellsOf_len]; omega)]

/-- A slice's block. -/
def ab (a : Option Addr) : Option Nat := a.map (·.block)
theorem own_ab (a : Option Addr) (n k : Nat) : (Value.slice a n k).ownBlock = ab a := by cases a <;> rfl
/-- The slice holds n integers, in a block of the call's own from B on (or is nil and holds none). -/
structure OwnI (w : World) (B : Nat) (a : Option Addr) (n k : Nat) (f : Nat → Int) : Prop where
  own : w.ownsRow 0 3 1 (.slice a n k) n (cellsOf n f)
  lo : ∀ b, ab a = some b → B ≤ b ∧ b < w.heap.size
theorem OwnI.nil (w : World) (B : Nat) (f : Nat → Int) : OwnI w B none 0 0 f := ⟨World.ownsRow_nil _ _ _ _, fun b h => by cases h⟩
theorem OwnI.made (w : World) (B : Nat) (f : Nat → Int) (hB : B ≤ w.heap.size) : OwnI (w.alloc (.cells #[] 3)) B (some ⟨w.heap.size, 0, none⟩) 0 0 f :=
  ⟨World.ownsRow_made w #[] 0 (Nat.zero_le _) (Nat.zero_le _) rfl, fun b h => by cases h; exact ⟨hB, by simp⟩⟩
theorem OwnI.grown {w w' : World} {B n k : Nat} {a : Option Addr} {f : Nat → Int} {r : Option Nat} (h : OwnI w B a n k f) (hg : w.grownBy w' r) (hne : ab a = none ∨ ab a ≠ r) : OwnI w' B a n k f :=
  ⟨h.own.kept hg (by rw [own_ab]; exact hne), fun b hb => ⟨(h.lo b hb).1, Nat.lt_of_lt_of_le (h.lo b hb).2 hg.size⟩⟩
theorem OwnI.ext {w w' : World} {B n k : Nat} {a : Option Addr} {f : Nat → Int} (h : OwnI w B a n k f) (hx : Ext w w') : OwnI w' B a n k f :=
  h.grown (r := none) ⟨hx.os, hx.tape, hx.output, hx.size, fun j hj _ => hx.block j hj⟩ (by cases ab a <;> simp)
theorem OwnI.far {w : World} {B n k m o : Nat} {a : Option Addr} {f : Nat → Int} {v : Value} (h : OwnI w B a n k f) (hne : ∀ b, ab a = some b → b ≠ m) : OwnI (w.setCell ⟨m, o, none⟩ v) B a n k f := by
  refine h.grown (r := some m) ⟨rfl, rfl, rfl, by rw [setCell_size]; exact Nat.le_refl _, fun j _ hj => Below.heap_setCell w ⟨m, o, none⟩ v j (fun e => hj (by rw [e]))⟩ ?_
  cases hb : ab a with
  | none => exact .inl rfl
  | some b => exact .inr (fun e => hne b hb (Option.some.inj e))
theorem OwnI.alloc {w : World} {B n k : Nat} {a : Option Addr} {f : Nat → Int} (h : OwnI w B a n k f) (o : Obj) : OwnI (w.alloc o) B a n k f := h.ext ((Ext.refl w).alloc o)
theorem OwnI.drewN {w : World} {B n k : Nat} {a : Option Addr} {f : Nat → Int} (h : OwnI w B a n k f) (m : Nat) : OwnI (w.drewN m) B a n k f := ⟨h.own, h.lo⟩
theorem OwnI.congr {w : World} {B n k : Nat} {a : Option Addr} {f z : Nat → Int} (h : OwnI w B a n k f) (e : ∀ j, j < n → f j = z j) : OwnI w B a n k z :=
  ⟨by rw [← cellsOf_congr e]; exact h.own, h.lo⟩
theorem OwnI.weak {w : World} {B B' n k : Nat} {a : Option Addr} {f : Nat → Int} (h : OwnI w B a n k f) (hB : B' ≤ B) : OwnI w B' a n k f := ⟨h.own, fun b hb => ⟨Nat.le_trans hB (h.lo b hb).1, (h.lo b hb).2⟩⟩
theorem OwnI.row {w : World} {B n k : Nat} {a : Option Addr} {f : Nat → Int} (h : OwnI w B a n k f) : Row w a n f := fun h0 => by
  obtain ⟨g, c, e, _, hlt⟩ := h.own.form h0
  injection e with e1 e2 e3
  subst e1
  refine ⟨g, 0, rfl, hlt, fun j hj => ?_⟩
  have hc := h.own.cells (g := g) rfl j _ (cellsOf_at hj)
  have hadd : (⟨g, 0, none⟩ : Addr).add j = ⟨g, 0 + j, none⟩ := by unfold Addr.add; split <;> simp_all
  rw [hadd] at hc
  exact hc
theorem Blk.grown {w w' : World} {n : Nat} {us : List Value} {r : Option Nat} (h : Blk w n us) (hg : w.grownBy w' r) (hne : some n ≠ r) : Blk w' n us :=
  ⟨fun j v hj => (hg.cell_far ⟨n, j, none⟩ h.lt hne).trans (h.at j v hj), fun o => (hg.frozen_far ⟨n, o, none⟩ h.lt hne).trans (h.fr o), Nat.lt_of_lt_of_le h.lt hg.size⟩
theorem Ext.grown {w0 w w' : World} {r : Option Nat} (h : Ext w0 w) (hg : w.grownBy w' r) (hr : ∀ k, r = some k → w0.heap.size ≤ k) : Ext w0 w' := Below.grown h hg h.size hr

theorem app_side {w : World} {ad : Addr} {m : Nat} {z : Nat → Int} (hc : ∀ j, j < m → w.cell? (ad.add j) = some (.int .i64 (z j))) :
    (∀ (j : Nat) (u : Value), (cellsOf m z)[j]? = some u → w.cell? (ad.add j) = some u) ∧ (∀ u ∈ cellsOf m z, u.oneCell' = true) := by
  refine ⟨fun j u hj => ?_, fun u hu => ?_⟩
  · obtain ⟨hj', rfl⟩ := cellsOf_get hj
    exact hc j hj'
  · unfold cellsOf at hu
    obtain ⟨j, _, rfl⟩ := List.mem_map.1 hu
    rfl
theorem wp_app {o : Oper} {a : Act} {K : Act → World → Prop} {Q : Exit → Act → World → Prop} (w : World) (s x : Operand)
    (ho : o.op = .call { callee := .builtin .append, args := #[s, x], argTypes := #[22, 22] })
    {B n k : Nat} {sa : Option Addr} {f : Nat → Int} (hs : a.eval s = .slice sa n k) (h : OwnI w B sa n k f) (hB : B ≤ w.heap.size)
    (ad : Addr) (m c : Nat) (z : Nat → Int) (hx : a.eval x = .slice (some ad) m c) (hc : ∀ j, j < m → w.cell? (ad.add j) = some (.int .i64 (z j)))
    (hm : 0 < m) (hn : n + m ≤ 1000) (H : Nat) (hH : w.heap.size = H)
    (hK : ∀ g k' w', OwnI w' B (some ⟨g, 0, none⟩) (n + m) k' (cat n f z) → w.grownBy w' (ab sa) → (ab sa = some g ∨ g = H) → g < w'.heap.size → K (a.put o.dst (.slice (some ⟨g, 0, none⟩) (n + m) k')) w') : o.wp Try.prog a w K Q := by
  obtain ⟨i0, hi, hz0, hz1, hz2⟩ := info_parts info3
  obtain ⟨s1, s2⟩ := app_side hc
  refine wp_append_lies w s x 22 ho 0 3 i0 (.int .i64 0) 1 8 Try.underlying22 hi hz0 hz1 hz2 rfl (by decide) _ n (cellsOf n f) hs h.own ad m c (cellsOf m z) hx (by rw [cellsOf_len]; omega) s1 s2 hm (by unfold maxLen; omega) (by omega) (Nat.zero_le _) H hH ?_
  intro g cap w' hown hgrow hat hlt
  rw [own_ab] at hgrow hat
  rw [cellsOf_cat] at hown
  refine hK g cap w' ⟨hown, fun b hb => ?_⟩ hgrow hat hlt
  have eb : b = g := by cases hb; rfl
  subst eb
  refine ⟨?_, hlt⟩
  rcases hat with e | e
  · exact (h.lo _ e).1
  · omega
theorem wpList_app {ops : Array Oper} {rest : List Oper} {o : Oper} {a : Act} {Q : Exit → Act → World → Prop} (w : World) (hgd : o.guard = none) (s x : Operand)
    (ho : o.op = .call { callee := .builtin .append, args := #[s, x], argTypes := #[22, 22] })
    {B n k : Nat} {sa : Option Addr} {f : Nat → Int} (hs : a.eval s = .slice sa n k) (h : OwnI w B sa n k f) (hB : B ≤ w.heap.size)
    (ad : Addr) (m c : Nat) (z : Nat → Int) (hx : a.eval x = .slice (some ad) m c) (hc : ∀ j, j < m → w.cell? (ad.add j) = some (.int .i64 (z j)))
    (hm : 0 < m) (hn : n + m ≤ 1000) (H : Nat) (hH : w.heap.size = H)
    (hK : ∀ g k' w', OwnI w' B (some ⟨g, 0, none⟩) (n + m) k' (cat n f z) → w.grownBy w' (ab sa) → (ab sa = some g ∨ g = H) → g < w'.heap.size → wpList Try.prog ops Q rest (a.put o.dst (.slice (some ⟨g, 0, none⟩) (n + m) k')) w') : wpList Try.prog ops Q (o :: rest) a w :=
  wpList_plain hgd fun _ hK' => wp_app w s x ho hs h hB ad m c z hx hc hm hn H hH fun g k' w' h2 h3 h4 h5 => hK' _ _ (hK g k' w' h2 h3 h4 h5)
theorem step_app {ops : Array Oper} {o : Oper} {a : Act} {K : Act → World → Prop} {Q : Exit → Act → World → Prop} {E : Prop} (w : World) (hgd : o.guard = none) (s x : Operand)
    (ho : o.op = .call { callee := .builtin .append, args := #[s, x], argTypes := #[22, 22] })
    {B n k : Nat} {sa : Option Addr} {f : Nat → Int} (hs : a.eval s = .slice sa n k) (h : OwnI w B sa n k f) (hB : B ≤ w.heap.size)
    (ad : Addr) (m c : Nat) (z : Nat → Int) (hx : a.eval x = .slice (some ad) m c) (hc : ∀ j, j < m → w.cell? (ad.add j) = some (.int .i64 (z j)))
    (hm : 0 < m) (hn : n + m ≤ 1000) (H : Nat) (hH : w.heap.size = H)
    (hK : ∀ g k' w', OwnI w' B (some ⟨g, 0, none⟩) (n + m) k' (cat n f z) → w.grownBy w' (ab sa) → (ab sa = some g ∨ g = H) → g < w'.heap.size → K (a.put o.dst (.slice (some ⟨g, 0, none⟩) (n + m) k')) w') :
    if Region.wanted o (yielded ops a.tmps) = true then Oper.wp Try.prog o a w K Q else E := by
  have hw : Region.wanted o (yielded ops a.tmps) = true := by simp [Region.wanted, hgd]
  rw [if_pos hw]
  exact wp_app w s x ho hs h hB ad m c z hx hc hm hn H hH hK
theorem cell_al {W : World} {a : Addr} {u : Value} (o : Obj) (h : W.cell? a = some u) : (W.alloc o).cell? a = some u := (World.grownBy_alloc W o none).cell h (by simp)
theorem cell_st {W : World} {n m o o' : Nat} {u v : Value} (hne : n ≠ m) (h : W.cell? ⟨m, o', none⟩ = some u) : (W.setCell ⟨n, o, none⟩ v).cell? ⟨m, o', none⟩ = some u := by
  rw [World.cell?_setCell_other]
  · exact h
  · intro e; injection e with e1; exact hne e1
theorem cell_dr {W : World} {a : Addr} {v : Value} (h : W.cell? a = some v) : W.drew.cell? a = some v := h
/-- The one number that is laid in a block of its own. -/
theorem one_news {w : World} {g : Nat} {y : Int} {us : List Value} (h : Blk w g (.int .i64 y :: us)) : ∀ j, j < 1 → w.cell? ((⟨g, 0, none⟩ : Addr).add j) = some (.int .i64 ((fun _ => y) j)) := fun j hj => by
  obtain rfl : j = 0 := by omega
  have hadd : (⟨g, 0, none⟩ : Addr).add 0 = ⟨g, 0, none⟩ := by simp [Addr.add]
  rw [hadd]
  exact h.at 0 _ rfl

end Go.Proofs.Ytbeolonbboibfaa
