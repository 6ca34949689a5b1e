/- Two slices of the call's own that lie in a struct of its own: what is known of them behind allocs, appends, stores.
   Conditions: each lemma's own. -/
import Derived.Test.YtbeolonbboibfaaInts
import Derived.Test.YtbeolonbboibfaaHeldB
namespace Go.Proofs.Ytbeolonbboibfaa
open Go.ChangeShapes Go.WideShapes Go.ChangeAt Go.RowKit

structure Two (w0 W : World) (t B : Nat) (us : List Value) (a1 : Option Addr) (n1 k1 : Nat) (f1 : Nat → Int) (a2 : Option Addr) (n2 k2 : Nat) (f2 : Nat → Int) : Prop where
  o1 : OwnI W B a1 n1 k1 f1
  o2 : OwnI W B a2 n2 k2 f2
  dis : ∀ b, ab a1 = some b → ab a2 = some b → False
  ext : Ext w0 W
  blk : Blk W t us
  lo : w0.heap.size ≤ t
  lt : t < B
  le : B ≤ W.heap.size
section
variable {w0 W W' : World} {t B : Nat} {us : List Value} {a1 a2 : Option Addr} {n1 k1 n2 k2 : Nat} {f1 f2 : Nat → Int}
theorem Two.alloc (h : Two w0 W t B us a1 n1 k1 f1 a2 n2 k2 f2) (o : Obj) : Two w0 (W.alloc o) t B us a1 n1 k1 f1 a2 n2 k2 f2 :=
  ⟨h.o1.alloc o, h.o2.alloc o, h.dis, h.ext.alloc o, h.blk.alloc o, h.lo, h.lt, by have := h.le; simp; omega⟩
theorem Two.drew (h : Two w0 W t B us a1 n1 k1 f1 a2 n2 k2 f2) : Two w0 W.drew t B us a1 n1 k1 f1 a2 n2 k2 f2 :=
  ⟨⟨h.o1.own, h.o1.lo⟩, ⟨h.o2.own, h.o2.lo⟩, h.dis, h.ext.drew, h.blk.drew, h.lo, h.lt, h.le⟩
theorem ab_or {a : Option Addr} {r : Option Nat} (h : ∀ b, ab a = some b → r = some b → False) : ab a = none ∨ ab a ≠ r := by
  cases e : ab a with
  | none => exact .inl rfl
  | some b => exact .inr (fun e2 => h b e e2.symm)
theorem Two.app1 (h : Two w0 W t B us a1 n1 k1 f1 a2 n2 k2 f2) {g m k : Nat} {z : Nat → Int} (hown : OwnI W' B (some ⟨g, 0, none⟩) m k z) (hg : W.grownBy W' (ab a1)) (hat : ab a1 = some g ∨ g = W.heap.size) :
    Two w0 W' t B us (some ⟨g, 0, none⟩) m k z a2 n2 k2 f2 := by
  refine ⟨hown, h.o2.grown hg (ab_or fun b e1 e2 => h.dis b e2 e1), fun b e1 e2 => ?_, h.ext.grown hg (fun k e => ?_), h.blk.grown hg (fun e => ?_), h.lo, h.lt, Nat.le_trans h.le hg.size⟩
  · have eb : g = b := Option.some.inj e1
    subst eb
    rcases hat with e | e
    · exact h.dis g e e2
    · have := (h.o2.lo g e2).2; omega
  · have := (h.o1.lo k e).1; have := h.lo; have := h.lt; omega
  · have := (h.o1.lo t e.symm).1; have := h.lt; omega
theorem Two.app2 (h : Two w0 W t B us a1 n1 k1 f1 a2 n2 k2 f2) {g m k : Nat} {z : Nat → Int} (hown : OwnI W' B (some ⟨g, 0, none⟩) m k z) (hg : W.grownBy W' (ab a2)) (hat : ab a2 = some g ∨ g = W.heap.size) :
    Two w0 W' t B us a1 n1 k1 f1 (some ⟨g, 0, none⟩) m k z := by
  refine ⟨h.o1.grown hg (ab_or h.dis), hown, fun b e1 e2 => ?_, h.ext.grown hg (fun k e => ?_), h.blk.grown hg (fun e => ?_), h.lo, h.lt, Nat.le_trans h.le hg.size⟩
  · have eb : g = b := Option.some.inj e2
    subst eb
    rcases hat with e | e
    · exact h.dis g e1 e
    · have := (h.o1.lo g e1).2; omega
  · have := (h.o2.lo k e).1; have := h.lo; have := h.lt; omega
  · have := (h.o2.lo t e.symm).1; have := h.lt; omega
theorem Two.set (h : Two w0 W t B us a1 n1 k1 f1 a2 n2 k2 f2) (j : Nat) (v : Value) (hj : j < us.length) : Two w0 (W.setCell ⟨t, j, none⟩ v) t B (us.set j v) a1 n1 k1 f1 a2 n2 k2 f2 :=
  ⟨h.o1.far (fun b hb => by have := (h.o1.lo b hb).1; have := h.lt; omega), h.o2.far (fun b hb => by have := (h.o2.lo b hb).1; have := h.lt; omega), h.dis, h.ext.setCell h.lo _, h.blk.set j v hj, h.lo, h.lt, by rw [setCell_size]; exact h.le⟩
theorem Two.congr (h : Two w0 W t B us a1 n1 k1 f1 a2 n2 k2 f2) {z1 z2 : Nat → Int} (e1 : ∀ j, j < n1 → f1 j = z1 j) (e2 : ∀ j, j < n2 → f2 j = z2 j) : Two w0 W t B us a1 n1 k1 z1 a2 n2 k2 z2 :=
  ⟨h.o1.congr e1, h.o2.congr e2, h.dis, h.ext, h.blk, h.lo, h.lt, h.le⟩
/-- A one-number block survives an append to one of the two, if it was laid behind it. -/
theorem Two.far1 (h : Two w0 W t B us a1 n1 k1 f1 a2 n2 k2 f2) {g : Nat} (hg : W.heap.size ≤ g) : some g ≠ ab a1 := fun e => by have := (h.o1.lo g e.symm).2; omega
theorem Two.far2 (h : Two w0 W t B us a1 n1 k1 f1 a2 n2 k2 f2) {g : Nat} (hg : W.heap.size ≤ g) : some g ≠ ab a2 := fun e => by have := (h.o2.lo g e.symm).2; omega
theorem ne_app {a : Option Addr} {g g' H : Nat} (hat : ab a = some g ∨ g = H) (hn : some g' ≠ ab a) (hl : g' < H) : some g' ≠ ab (some ⟨g, 0, none⟩ : Option Addr) := fun e => by
  have eg : g' = g := Option.some.inj e
  subst eg
  rcases hat with h | h
  · exact hn h.symm
  · omega
theorem Two.start (w0 : World) (v1 v2 : Value) (ty : TypeId) (f1 f2 : Nat → Int) : Two w0 (w0.alloc (.cells #[v1, v2] ty)) w0.heap.size (w0.heap.size + 1) [v1, v2] none 0 0 f1 none 0 0 f2 :=
  ⟨OwnI.nil _ _ _, OwnI.nil _ _ _, (fun b e => by cases e), (Ext.refl w0).alloc _, Blk.new w0 [v1, v2] ty, Nat.le_refl _, Nat.lt_succ_self _, by simp⟩
end

end Go.Proofs.Ytbeolonbboibfaa
