/- Blocks of the call's own: what their cells hold behind stores, further calls and new blocks.
   Conditions: none beyond each lemma's own. -/
import Derived.Test.YtfignlcplkihpaaFrame
namespace Go.Proofs.Ytfignlcplkihpaa
open Go.ChangeShapes Go.WideShapes Go.ChangeAt Go.RowKit

def Blk (w : World) (n : Nat) (us : List Value) : Prop :=
  (∀ j v, us[j]? = some v → w.cell? ⟨n, j, none⟩ = some v) ∧ (∀ o, w.frozen? ⟨n, o, none⟩ = false) ∧ n < w.heap.size
theorem Blk.at {w : World} {n : Nat} {us : List Value} (h : Blk w n us) (j : Nat) (v : Value) (hj : us[j]? = some v) : w.cell? ⟨n, j, none⟩ = some v := h.1 j v hj
theorem Blk.fr {w : World} {n : Nat} {us : List Value} (h : Blk w n us) : ∀ o, w.frozen? ⟨n, o, none⟩ = false := h.2.1
theorem Blk.lt {w : World} {n : Nat} {us : List Value} (h : Blk w n us) : n < w.heap.size := h.2.2
theorem Blk.ext {W w1 : World} {n : Nat} {us : List Value} (h : Blk W n us) (hx : Ext W w1) : Blk w1 n us :=
  ⟨fun j v hj => (hx.cell h.lt).trans (h.1 j v hj), fun o => (hx.frozen h.lt).trans (h.2.1 o), Nat.lt_of_lt_of_le h.lt hx.size⟩
theorem Blk.alloc {W : World} {n : Nat} {us : List Value} (h : Blk W n us) (o : Obj) : Blk (W.alloc o) n us := h.ext ((Ext.refl W).alloc o)
theorem Blk.drew {W : World} {n : Nat} {us : List Value} (h : Blk W n us) : Blk W.drew n us := h
theorem Blk.drewN {W : World} {n : Nat} {us : List Value} (h : Blk W n us) (k : Nat) : Blk (W.drewN k) n us := h
theorem cell_of_blk {w : World} {g : Nat} {cs : Array Value} {t : TypeId} (h : w.heap[g]? = some (.cells cs t)) {i : Nat} : w.cell? ⟨g, i, none⟩ = cs[i]? := by simp [World.cell?, h]
theorem Blk.new (W : World) (us : List Value) (t : TypeId) : Blk (W.alloc (.cells ⟨us⟩ t)) W.heap.size us := by
  refine ⟨fun j v hj => ?_, fun o => by simp [go_sem], by simp⟩
  have e : (W.alloc (.cells ⟨us⟩ t)).heap[W.heap.size]? = some (.cells ⟨us⟩ t) := (MapKept.heap_alloc W _).1
  rw [cell_of_blk e]
  simpa using hj
/-- A new block behind another one. -/
theorem Blk.new1 (W : World) (o : Obj) (us : List Value) (t : TypeId) : Blk ((W.alloc o).alloc (.cells ⟨us⟩ t)) (W.heap.size + 1) us := by
  have h := Blk.new (W.alloc o) us t
  have e : (W.alloc o).heap.size = W.heap.size + 1 := by simp
  rw [e] at h; exact h
theorem Blk.far {W : World} {n m o : Nat} {us : List Value} (h : Blk W n us) (hne : m ≠ n) (v : Value) : Blk (W.setCell ⟨m, o, none⟩ v) n us := by
  refine ⟨fun j u hj => ?_, fun o' => (World.frozen?_setCell _ _ _ _).trans (h.2.1 o'), by rw [setCell_size]; exact h.lt⟩
  rw [World.cell?_setCell_other]
  · exact h.1 j u hj
  · intro e; injection e with e1; exact hne e1
theorem Blk.set {W : World} {n : Nat} {us : List Value} (h : Blk W n us) (i : Nat) (v : Value) (hi : i < us.length) : Blk (W.setCell ⟨n, i, none⟩ v) n (us.set i v) := by
  refine ⟨fun j u hj => ?_, fun o' => (World.frozen?_setCell _ _ _ _).trans (h.2.1 o'), by rw [setCell_size]; exact h.lt⟩
  by_cases e : i = j
  · subst e
    rw [List.getElem?_set_self hi] at hj
    cases hj
    exact setCell_cell_same (h.1 i us[i] (by simp [hi]))
  · rw [List.getElem?_set_ne e] at hj
    exact setCell_cell_off v e (h.1 j u hj)

end Go.Proofs.Ytfignlcplkihpaa
