/- What every walk of this seat leans on: the relation 'Ext' (nothing that was there has turned), laws on interface values and errors.
   Conditions: none beyond each lemma's own. -/
import Derived.Test.YtfignlcplkihpaaRows
import Derived.WalkKit
import Derived.ProofKit
import Derived.OpenShut
import Derived.Below
import Derived.ChangeOld
import Derived.WalkLawsBesides
import Derived.WalkSpells
import Derived.LaidEql
import Derived.Lib.Hide
import Derived.Outline
import Derived.Handy
import Derived.Deep.QuietTactic
import Derived.BigQuiet
import Derived.Test.YtfignlcplkihpaaPlain
namespace Go
section
variable {P : Program} (w : World)

theorem run_equalIn_iface_int (d : Nat) {ti tn : TypeId} {ms : Array (String × TypeId)} {i : TypeInfo} {k : IntKind} (a b : Int)
    (hi : P.underlying ti = some (.interface ms)) (hn : P.underlying tn = some (.int k)) (hinfo : P.info? tn = some i) (hcomp : i.comparable = true) :
    (Op.equalIn (d + 2) ti (.iface tn (.int k a)) (.iface tn (.int k b))).run P w = .ok (a == b) w := by
  simp [Op.equalIn, run_underlying hi, run_underlying hn, typeInfo, hinfo, hcomp]

/-- '==' on arrays of three integers: element by element. -/
theorem run_equalIn_arr3 (d : Nat) {t e : TypeId} {k : IntKind} (a0 a1 a2 b0 b1 b2 : Int) (ht : P.underlying t = some (.array 3 e)) (he : P.underlying e = some (.int k)) {i : TypeInfo} (hi : P.info? e = some i) (hs : i.size = 1) :
    (Op.equalIn (d + 2) t (.agg #[.int k a0, .int k a1, .int k a2]) (.agg #[.int k b0, .int k b1, .int k b2])).run P w = .ok (a0 == b0 && (a1 == b1 && a2 == b2)) w := by
  simp [Op.equalIn, run_underlying ht, run_underlying he, sizeOf, typeInfo, hi, hs, part, isAgg, List.range']
  by_cases h0 : a0 = b0 <;> by_cases h1 : a1 = b1 <;> by_cases h2 : a2 = b2 <;> simp [h0, h1, h2]
theorem ite_lt_max (x y : Int) : (if x < y then y else x) = max x y := by rw [Int.max_def]; split <;> split <;> omega
theorem ite_lt_min (x y : Int) : (if y < x then y else x) = min x y := by rw [Int.min_def]; split <;> split <;> omega
@[go_sem ↓] theorem run_max2w (ts : Array TypeId) (t : TypeId) (k k' : IntKind) (x y : Int) : (Builtin.max_ ts t #[.int k x, .int k' y]).run P w = .ok (.int k (max x y)) w := by
  rw [← ite_lt_max]; simp [Builtin.max_, Builtin.max2]
@[go_sem ↓] theorem run_min2w (ts : Array TypeId) (t : TypeId) (k k' : IntKind) (x y : Int) : (Builtin.min_ ts t #[.int k x, .int k' y]).run P w = .ok (.int k (min x y)) w := by
  rw [← ite_lt_min]; simp [Builtin.min_, Builtin.min2]
@[go_sem ↓] theorem run_max3w (ts : Array TypeId) (t : TypeId) (k k' k'' : IntKind) (x y z : Int) : (Builtin.max_ ts t #[.int k x, .int k' y, .int k'' z]).run P w = .ok (.int k (max x (max y z))) w := by
  simp [Builtin.max_, Builtin.max2, ite_lt_max]
@[go_sem ↓] theorem run_min3w (ts : Array TypeId) (t : TypeId) (k k' k'' : IntKind) (x y z : Int) : (Builtin.min_ ts t #[.int k x, .int k' y, .int k'' z]).run P w = .ok (.int k (min x (min y z))) w := by
  simp [Builtin.min_, Builtin.min2, ite_lt_min]
@[go_sem ↓] theorem run_max4w (ts : Array TypeId) (t : TypeId) (k k1 k2 k3 : IntKind) (x y z u : Int) : (Builtin.max_ ts t #[.int k x, .int k1 y, .int k2 z, .int k3 u]).run P w = .ok (.int k (max x (max y (max z u)))) w := by
  simp [Builtin.max_, Builtin.max2, ite_lt_max]
@[go_sem ↓] theorem run_max6w (ts : Array TypeId) (t : TypeId) (k k1 k2 k3 k4 k5 : IntKind) (x y z u v q : Int) : (Builtin.max_ ts t #[.int k x, .int k1 y, .int k2 z, .int k3 u, .int k4 v, .int k5 q]).run P w = .ok (.int k (max x (max y (max z (max u (max v q)))))) w := by
  simp [Builtin.max_, Builtin.max2, ite_lt_max]
end
end Go
namespace Go.Proofs.Ytfignlcplkihpaa
open Go.ChangeShapes Go.WideShapes Go.ChangeAt Go.RowKit

/-- The world w' is w with new blocks: nothing that was there has turned. -/
def Ext (w w' : World) : Prop := Below w.heap.size w w'
theorem Ext.refl (w : World) : Ext w w := Below.refl _ _
theorem Ext.size {a b : World} (h : Ext a b) : a.heap.size ≤ b.heap.size := Below.size h
theorem Ext.trans {a b c : World} (h : Ext a b) (k : Ext b c) : Ext a c := Below.trans h (Below.mono k (Below.size h))
theorem Ext.drew {a b : World} (h : Ext a b) : Ext a b.drew := Below.drew h
theorem Ext.drewN {a b : World} (h : Ext a b) (n : Nat) : Ext a (b.drewN n) := ⟨h.os, h.tape, h.output, h.size, h.block⟩
theorem Ext.alloc {a b : World} (h : Ext a b) (o : Obj) : Ext a (b.alloc o) := Below.alloc h (Below.size h) o
theorem Ext.setCell {a b : World} (h : Ext a b) {p : Addr} (hp : a.heap.size ≤ p.block) (v : Value) : Ext a (b.setCell p v) := Below.setCell h hp v
theorem Ext.cell {a b : World} (h : Ext a b) {n o : Nat} (hn : n < a.heap.size) : b.cell? ⟨n, o, none⟩ = a.cell? ⟨n, o, none⟩ := Below.cell (p := ⟨n, o, none⟩) h hn
theorem Ext.frozen {a b : World} (h : Ext a b) {n o : Nat} (hn : n < a.heap.size) : b.frozen? ⟨n, o, none⟩ = a.frozen? ⟨n, o, none⟩ := Below.frozen (p := ⟨n, o, none⟩) h hn
/-- What a walk wants of it: old cells and old marks read as they did. -/
theorem Ext.bc {W w1 : World} (h : Ext W w1) : (∀ b o, b < W.heap.size → w1.cell? ⟨b, o, none⟩ = W.cell? ⟨b, o, none⟩) ∧ (∀ b o, b < W.heap.size → w1.frozen? ⟨b, o, none⟩ = W.frozen? ⟨b, o, none⟩) :=
  ⟨fun _ _ hb => h.cell hb, fun _ _ hb => h.frozen hb⟩
/-- An array of three integers that a call of our own laid, behind a further call. -/
theorem Ext.arr3 {W w1 : World} (h : Ext W w1) {n : Nat} {u0 u1 u2 : Value} (hn : n < W.heap.size) (h0 : W.cell? ⟨n, 0, none⟩ = some u0) (h1 : W.cell? ⟨n, 1, none⟩ = some u1) (h2 : W.cell? ⟨n, 2, none⟩ = some u2) (hf : ∀ o, W.frozen? ⟨n, o, none⟩ = false) :
    w1.cell? ⟨n, 0, none⟩ = some u0 ∧ w1.cell? ⟨n, 1, none⟩ = some u1 ∧ w1.cell? ⟨n, 2, none⟩ = some u2 ∧ (∀ o, w1.frozen? ⟨n, o, none⟩ = false) ∧ n < w1.heap.size :=
  ⟨(h.cell hn).trans h0, (h.cell hn).trans h1, (h.cell hn).trans h2, fun o => (h.frozen hn).trans (hf o), Nat.lt_of_lt_of_le hn h.size⟩

/-- The same, of an array that was laid just ahead of the call. -/
theorem Ext.arr3_new {W w1 : World} {u0 u1 u2 : Value} {t : TypeId} (h : Ext (W.alloc (.cells #[u0, u1, u2] t)) w1) :
    w1.cell? ⟨W.heap.size, 0, none⟩ = some u0 ∧ w1.cell? ⟨W.heap.size, 1, none⟩ = some u1 ∧ w1.cell? ⟨W.heap.size, 2, none⟩ = some u2 ∧ (∀ o, w1.frozen? ⟨W.heap.size, o, none⟩ = false) ∧ W.heap.size < w1.heap.size :=
  h.arr3 (by simp) (by simp [go_sem]) (by simp [go_sem]) (by simp [go_sem]) (fun o => by simp [go_sem])

/-- And of an elder one, where another block was laid ahead of the call. -/
theorem Ext.arr3_old {W w1 : World} {o : Obj} (h : Ext (W.alloc o) w1) {n : Nat} {u0 u1 u2 : Value} (hn : n < W.heap.size) (h0 : W.cell? ⟨n, 0, none⟩ = some u0) (h1 : W.cell? ⟨n, 1, none⟩ = some u1) (h2 : W.cell? ⟨n, 2, none⟩ = some u2) (hf : ∀ o, W.frozen? ⟨n, o, none⟩ = false) :
    w1.cell? ⟨n, 0, none⟩ = some u0 ∧ w1.cell? ⟨n, 1, none⟩ = some u1 ∧ w1.cell? ⟨n, 2, none⟩ = some u2 ∧ (∀ o, w1.frozen? ⟨n, o, none⟩ = false) ∧ n < w1.heap.size :=
  (((Ext.refl W).alloc o).trans h).arr3 hn h0 h1 h2 hf

/-- Block n holds an array of three cells of the call's own. -/
def Arr3 (w : World) (n : Nat) (u0 u1 u2 : Value) : Prop :=
  w.cell? ⟨n, 0, none⟩ = some u0 ∧ w.cell? ⟨n, 1, none⟩ = some u1 ∧ w.cell? ⟨n, 2, none⟩ = some u2 ∧ (∀ o, w.frozen? ⟨n, o, none⟩ = false) ∧ n < w.heap.size
theorem Arr3.ext {W w1 : World} {n : Nat} {u0 u1 u2 : Value} (h : Arr3 W n u0 u1 u2) (hx : Ext W w1) : Arr3 w1 n u0 u1 u2 := hx.arr3 h.2.2.2.2 h.1 h.2.1 h.2.2.1 h.2.2.2.1
theorem Arr3.new (W : World) (u0 u1 u2 : Value) (t : TypeId) : Arr3 (W.alloc (.cells #[u0, u1, u2] t)) W.heap.size u0 u1 u2 := Ext.arr3_new (Ext.refl _)
theorem Arr3.alloc {W : World} {n : Nat} {u0 u1 u2 : Value} (h : Arr3 W n u0 u1 u2) (o : Obj) : Arr3 (W.alloc o) n u0 u1 u2 := h.ext ((Ext.refl W).alloc o)
theorem setCell_cell_same {W : World} {p : Addr} {u v : Value} (h : W.cell? p = some u) : (W.setCell p v).cell? p = some v := World.cell?_setCell_same _ _ _ h
theorem setCell_cell_off {W : World} {n o o' : Nat} {u : Value} (v : Value) (ho : o ≠ o') (h : W.cell? ⟨n, o', none⟩ = some u) : (W.setCell ⟨n, o, none⟩ v).cell? ⟨n, o', none⟩ = some u := by
  rw [World.cell?_setCell_other]
  · exact h
  · intro e; injection e with _ e2; exact ho e2
theorem setCell_size (W : World) (p : Addr) (v : Value) : (W.setCell p v).heap.size = W.heap.size := by simp [World.setCell]
theorem Arr3.set0 {W : World} {n : Nat} {u0 u1 u2 : Value} (h : Arr3 W n u0 u1 u2) (v : Value) : Arr3 (W.setCell ⟨n, 0, none⟩ v) n v u1 u2 :=
  ⟨setCell_cell_same h.1, setCell_cell_off v (by decide) h.2.1, setCell_cell_off v (by decide) h.2.2.1, fun o => (World.frozen?_setCell _ _ _ _).trans (h.2.2.2.1 o), by rw [setCell_size]; exact h.2.2.2.2⟩
theorem Arr3.set1 {W : World} {n : Nat} {u0 u1 u2 : Value} (h : Arr3 W n u0 u1 u2) (v : Value) : Arr3 (W.setCell ⟨n, 1, none⟩ v) n u0 v u2 :=
  ⟨setCell_cell_off v (by decide) h.1, setCell_cell_same h.2.1, setCell_cell_off v (by decide) h.2.2.1, fun o => (World.frozen?_setCell _ _ _ _).trans (h.2.2.2.1 o), by rw [setCell_size]; exact h.2.2.2.2⟩
theorem Arr3.set2 {W : World} {n : Nat} {u0 u1 u2 : Value} (h : Arr3 W n u0 u1 u2) (v : Value) : Arr3 (W.setCell ⟨n, 2, none⟩ v) n u0 u1 v :=
  ⟨setCell_cell_off v (by decide) h.1, setCell_cell_off v (by decide) h.2.1, setCell_cell_same h.2.2.1, fun o => (World.frozen?_setCell _ _ _ _).trans (h.2.2.2.1 o), by rw [setCell_size]; exact h.2.2.2.2⟩

/-- A call that only computes, inside a region that draws its order. -/
theorem quiet_left {P : Program} {f : FuncId} {args : Array Value} {w : World} {n : Nat} {v : Value}
    (h : Calls P f args (w.drewN n) fun e w' => e = .returned v ∧ w.drewN n = w') : Calls P f args (w.drewN n) fun e w' => e = .returned v ∧ ∃ m, w' = w.drewN m :=
  h.mono fun _ _ ⟨he, hm⟩ => ⟨he, n, hm.symm⟩

/-- An error of the program: its number, 0 for none. -/
def errv (n : Int) : Value := if n = 0 then .nilIface else .iface 66 (.int .i64 n)
theorem errv_0 : errv 0 = .nilIface := rfl
theorem errv_3 : errv 3 = .iface 66 (.int .i64 3) := rfl

theorem info_int : ∃ i, Try.prog.info? 3 = some i ∧ i.size = 1 := by
  refine ⟨(Try.prog.info? 3).get (by kernel_rfl), ?_, ?_⟩
  · exact (Option.some_get _).symm
  · kernel_rfl
@[go_sem] theorem eql_arr3 (a0 a1 a2 b0 b1 b2 : Int) (w : World) :
    (Op.equalIn 10000 38 (.agg #[.int .i64 a0, .int .i64 a1, .int .i64 a2]) (.agg #[.int .i64 b0, .int .i64 b1, .int .i64 b2])).run Try.prog w = .ok (a0 == b0 && (a1 == b1 && a2 == b2)) w := by
  obtain ⟨i, hi, hs⟩ := info_int
  exact run_equalIn_arr3 w 9998 a0 a1 a2 b0 b1 b2 Try.underlying38 Try.underlying3 hi hs

end Go.Proofs.Ytfignlcplkihpaa
