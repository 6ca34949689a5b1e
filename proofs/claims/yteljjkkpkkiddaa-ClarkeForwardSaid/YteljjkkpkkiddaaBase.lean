/- What every walk of this seat leans on: the relation 'Ext' (nothing that was there has turned), laws on interface values and errors.
   Conditions: none beyond each lemma's own. -/
import Derived.Test.YteljjkkpkkiddaaRows
import Derived.WalkKit
import Derived.ProofKit
import Derived.OpenShut
import Derived.Below
import Derived.ChangeOld
import Derived.WalkLawsBesides
import Derived.WalkSpells
import Derived.LaidEql
import Derived.Lib.Hide
import Derived.Outline
import Derived.Handy
import Derived.Test.YteljjkkpkkiddaaPlain
namespace Go
section
variable {P : Program} (w : World)

theorem run_equalIn_iface_int (d : Nat) {ti tn : TypeId} {ms : Array (String × TypeId)} {i : TypeInfo} {k : IntKind} (a b : Int)
    (hi : P.underlying ti = some (.interface ms)) (hn : P.underlying tn = some (.int k)) (hinfo : P.info? tn = some i) (hcomp : i.comparable = true) :
    (Op.equalIn (d + 2) ti (.iface tn (.int k a)) (.iface tn (.int k b))).run P w = .ok (a == b) w := by
  simp [Op.equalIn, run_underlying hi, run_underlying hn, typeInfo, hinfo, hcomp]

/-- '==' on arrays of three integers: element by element. -/
theorem run_equalIn_arr3 (d : Nat) {t e : TypeId} {k : IntKind} (a0 a1 a2 b0 b1 b2 : Int) (ht : P.underlying t = some (.array 3 e)) (he : P.underlying e = some (.int k)) {i : TypeInfo} (hi : P.info? e = some i) (hs : i.size = 1) :
    (Op.equalIn (d + 2) t (.agg #[.int k a0, .int k a1, .int k a2]) (.agg #[.int k b0, .int k b1, .int k b2])).run P w = .ok (a0 == b0 && (a1 == b1 && a2 == b2)) w := by
  simp [Op.equalIn, run_underlying ht, run_underlying he, sizeOf, typeInfo, hi, hs, part, isAgg, List.range']
  by_cases h0 : a0 = b0 <;> by_cases h1 : a1 = b1 <;> by_cases h2 : a2 = b2 <;> simp [h0, h1, h2]
theorem ite_lt_max (x y : Int) : (if x < y then y else x) = max x y := by rw [Int.max_def]; split <;> split <;> omega
theorem ite_lt_min (x y : Int) : (if y < x then y else x) = min x y := by rw [Int.min_def]; split <;> split <;> omega
@[go_sem ↓] theorem run_max2w (ts : Array TypeId) (t : TypeId) (k k' : IntKind) (x y : Int) : (Builtin.max_ ts t #[.int k x, .int k' y]).run P w = .ok (.int k (max x y)) w := by
  rw [← ite_lt_max]; simp [Builtin.max_, Builtin.max2]
@[go_sem ↓] theorem run_min2w (ts : Array TypeId) (t : TypeId) (k k' : IntKind) (x y : Int) : (Builtin.min_ ts t #[.int k x, .int k' y]).run P w = .ok (.int k (min x y)) w := by
  rw [← ite_lt_min]; simp [Builtin.min_, Builtin.min2]
@[go_sem ↓] theorem run_max3w (ts : Array TypeId) (t : TypeId) (k k' k'' : IntKind) (x y z : Int) : (Builtin.max_ ts t #[.int k x, .int k' y, .int k'' z]).run P w = .ok (.int k (max x (max y z))) w := by
  simp [Builtin.max_, Builtin.max2, ite_lt_max]
@[go_sem ↓] theorem run_min3w (ts : Array TypeId) (t : TypeId) (k k' k'' : IntKind) (x y z : Int) : (Builtin.min_ ts t #[.int k x, .int k' y, .int k'' z]).run P w = .ok (.int k (min x (min y z))) w := by
  simp [Builtin.min_, Builtin.min2, ite_lt_min]
@[go_sem ↓] theorem run_max4w (ts : Array TypeId) (t : TypeId) (k k1 k2 k3 : IntKind) (x y z u : Int) : (Builtin.max_ ts t #[.int k x, .int k1 y, .int k2 z, .int k3 u]).run P w = .ok (.int k (max x (max y (max z u)))) w := by
  simp [Builtin.max_, Builtin.max2, ite_lt_max]
@[go_sem ↓] theorem run_max6w (ts : Array TypeId) (t : TypeId) (k k1 k2 k3 k4 k5 : IntKind) (x y z u v q : Int) : (Builtin.max_ ts t #[.int k x, .int k1 y, .int k2 z, .int k3 u, .int k4 v, .int k5 q]).run P w = .ok (.int k (max x (max y (max z (max u (max v q)))))) w := by
  simp [Builtin.max_, Builtin.max2, ite_lt_max]
end
end Go
namespace Go.Proofs.Yteljjkkpkkiddaa
open Go.ChangeShapes Go.WideShapes Go.ChangeAt Go.RowKit

/-- The world w' is w with new blocks: nothing that was there has turned. -/
def Ext (w w' : World) : Prop := Below w.heap.size w w'
theorem Ext.refl (w : World) : Ext w w := Below.refl _ _
theorem Ext.size {a b : World} (h : Ext a b) : a.heap.size ≤ b.heap.size := Below.size h
theorem Ext.trans {a b c : World} (h : Ext a b) (k : Ext b c) : Ext a c := Below.trans h (Below.mono k (Below.size h))
theorem Ext.drew {a b : World} (h : Ext a b) : Ext a b.drew := Below.drew h
theorem Ext.drewN {a b : World} (h : Ext a b) (n : Nat) : Ext a (b.drewN n) := ⟨h.os, h.tape, h.output, h.size, h.block⟩
theorem Ext.alloc {a b : World} (h : Ext a b) (o : Obj) : Ext a (b.alloc o) := Below.alloc h (Below.size h) o
theorem Ext.setCell {a b : World} (h : Ext a b) {p : Addr} (hp : a.heap.size ≤ p.block) (v : Value) : Ext a (b.setCell p v) := Below.setCell h hp v
theorem Ext.cell {a b : World} (h : Ext a b) {n o : Nat} (hn : n < a.heap.size) : b.cell? ⟨n, o, none⟩ = a.cell? ⟨n, o, none⟩ := Below.cell (p := ⟨n, o, none⟩) h hn
theorem Ext.frozen {a b : World} (h : Ext a b) {n o : Nat} (hn : n < a.heap.size) : b.frozen? ⟨n, o, none⟩ = a.frozen? ⟨n, o, none⟩ := Below.frozen (p := ⟨n, o, none⟩) h hn
/-- What a walk wants of it: old cells and old marks read as they did. -/
theorem Ext.bc {W w1 : World} (h : Ext W w1) : (∀ b o, b < W.heap.size → w1.cell? ⟨b, o, none⟩ = W.cell? ⟨b, o, none⟩) ∧ (∀ b o, b < W.heap.size → w1.frozen? ⟨b, o, none⟩ = W.frozen? ⟨b, o, none⟩) :=
  ⟨fun _ _ hb => h.cell hb, fun _ _ hb => h.frozen hb⟩
/-- An array of three integers that a call of our own laid, behind a further call. -/
theorem Ext.arr3 {W w1 : World} (h : Ext W w1) {n : Nat} {u0 u1 u2 : Value} (hn : n < W.heap.size) (h0 : W.cell? ⟨n, 0, none⟩ = some u0) (h1 : W.cell? ⟨n, 1, none⟩ = some u1) (h2 : W.cell? ⟨n, 2, none⟩ = some u2) (hf : ∀ o, W.frozen? ⟨n, o, none⟩ = false) :
    w1.cell? ⟨n, 0, none⟩ = some u0 ∧ w1.cell? ⟨n, 1, none⟩ = some u1 ∧ w1.cell? ⟨n, 2, none⟩ = some u2 ∧ ∀ o, w1.frozen? ⟨n, o, none⟩ = false :=
  ⟨(h.cell hn).trans h0, (h.cell hn).trans h1, (h.cell hn).trans h2, fun o => (h.frozen hn).trans (hf o)⟩

/-- An error of the program: its number, 0 for none. -/
def errv (n : Int) : Value := if n = 0 then .nilIface else .iface 51 (.int .i64 n)
theorem errv_0 : errv 0 = .nilIface := rfl
theorem errv_3 : errv 3 = .iface 51 (.int .i64 3) := rfl

theorem info_int : ∃ i, Try.prog.info? 3 = some i ∧ i.size = 1 := by
  refine ⟨(Try.prog.info? 3).get (by kernel_rfl), ?_, ?_⟩
  · exact (Option.some_get _).symm
  · kernel_rfl
@[go_sem] theorem eql_arr3 (a0 a1 a2 b0 b1 b2 : Int) (w : World) :
    (Op.equalIn 10000 22 (.agg #[.int .i64 a0, .int .i64 a1, .int .i64 a2]) (.agg #[.int .i64 b0, .int .i64 b1, .int .i64 b2])).run Try.prog w = .ok (a0 == b0 && (a1 == b1 && a2 == b2)) w := by
  obtain ⟨i, hi, hs⟩ := info_int
  exact run_equalIn_arr3 w 9998 a0 a1 a2 b0 b1 b2 Try.underlying22 Try.underlying3 hi hs

end Go.Proofs.Yteljjkkpkkiddaa
