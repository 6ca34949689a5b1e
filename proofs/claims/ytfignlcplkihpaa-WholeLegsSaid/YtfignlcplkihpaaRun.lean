/- The contract of gates.Run.
   Conditions: what it is given is in its ranges. -/
import Derived.Test.YtfignlcplkihpaaGates
import Derived.Deep.DeepCutAuto
import Derived.Test.YtfignlcplkihpaaHeldB
namespace Go.Proofs.Ytfignlcplkihpaa
open Go.ChangeShapes Go.WideShapes Go.ChangeAt Go.RowKit

/-- What Run is given. -/
structure RunOK (C : Pl.GC) (m : Pl.Sim) (P : Nat) : Prop where
  beg : Pl.Beg m
  per : PerOK P
  dead : 1 ≤ C.dead ∧ C.dead ≤ 1024
  trip : 0 ≤ C.trip ∧ C.trip ≤ P
  legs : ∀ i, i < 3 → 0 ≤ C.f i ∧ C.f i ≤ C.g i ∧ C.g i ≤ P
theorem es_cnt (C : Pl.GC) {m : Pl.Sim} (h : Pl.Beg m) : ∀ k, (Pl.sim C m k).es.length ≤ k
  | 0 => by show m.es.length ≤ 0; rw [h.es]; exact Nat.le_refl _
  | k + 1 => by
    have ih := es_cnt C h k
    rcases Pl.emits_or C (Pl.sim C m k) (k / 3) (k % 3) with ⟨e, he⟩ | ⟨_, _, e⟩
    · have ee : (Pl.sim C m (k + 1)).es = (Pl.sim C m k).es ++ [e] := he.es
      rw [ee]; simp; omega
    · have ee : (Pl.sim C m (k + 1)).es = (Pl.sim C m k).es := e
      rw [ee]; omega

def stlist (s d : Nat → Int) : List Value := [.int .i64 (s 0), .int .i64 (d 0), .int .i64 (s 1), .int .i64 (d 1), .int .i64 (s 2), .int .i64 (d 2)]
theorem stlist_at (s d : Nat → Int) {i : Nat} (hi : i < 3) : (stlist s d)[i * 2]? = some (.int .i64 (s i)) ∧ (stlist s d)[i * 2 + 1]? = some (.int .i64 (d i)) := by
  match i, hi with
  | 0, _ => exact ⟨rfl, rfl⟩
  | 1, _ => exact ⟨rfl, rfl⟩
  | 2, _ => exact ⟨rfl, rfl⟩
theorem stlist_s (s d : Nat → Int) {i : Nat} (hi : i < 3) (v : Int) : (stlist s d).set (i * 2) (.int .i64 v) = stlist (Pl.upd s i v) d := by
  match i, hi with
  | 0, _ => rfl
  | 1, _ => rfl
  | 2, _ => rfl
theorem stlist_d (s d : Nat → Int) {i : Nat} (hi : i < 3) (v : Int) : (stlist s d).set (i * 2 + 1) (.int .i64 v) = stlist s (Pl.upd d i v) := by
  match i, hi with
  | 0, _ => rfl
  | 1, _ => rfl
  | 2, _ => rfl
def lglist (C : Pl.GC) : List Value := [.int .i64 (C.f 0), .int .i64 (C.g 0), .int .i64 (C.f 1), .int .i64 (C.g 1), .int .i64 (C.f 2), .int .i64 (C.g 2)]
theorem lglist_at (C : Pl.GC) {i : Nat} (hi : i < 3) : (lglist C)[i * 2]? = some (.int .i64 (C.f i)) ∧ (lglist C)[i * 2 + 1]? = some (.int .i64 (C.g i)) := by
  match i, hi with
  | 0, _ => exact ⟨rfl, rfl⟩
  | 1, _ => exact ⟨rfl, rfl⟩
  | 2, _ => exact ⟨rfl, rfl⟩
/-- The memory of Run: sides, idles, the legs that are asked for, the signals so far. -/
structure RM (C : Pl.GC) (m : Pl.Sim) (P : Nat) (w W : World) (B : Nat) (s d : Nat → Int) (sl : Value) (a : Option Addr) (c : Nat) (es : List Pl.Ed) : Prop where
  st : Blk W w.heap.size (stlist s d)
  lg : Blk W (w.heap.size + 1) (lglist C)
  rg : Blk W (w.heap.size + 1 + 1) [.int .i64 0, .bool false, .bool false, .bool false, .bool false, .bool false, .bool false, .slice none 0 0]
  rs : Blk W (w.heap.size + 1 + 1 + 1) [.int .i64 0, .int .i64 0, .int .i64 0, .int .i64 0, .int .i64 0, .int .i64 0]
  gt : Blk W B [.int .i64 P, .bool (m.s 0 == 2), .bool (m.s 0 == 1), .bool (m.s 1 == 2), .bool (m.s 1 == 1), .bool (m.s 2 == 2), .bool (m.s 2 == 1), sl]
  own : OwnE W (B + 1) a c es
  le : w.heap.size + 1 + 1 + 1 < B
  ext : Ext w W
section
variable {C : Pl.GC} {m : Pl.Sim} {P : Nat} {w W W' : World} {B : Nat} {s d : Nat → Int} {sl : Value} {a : Option Addr} {c : Nat} {es : List Pl.Ed}
theorem RM.nx (h : RM C m P w W B s d sl a c es) (hx : Ext W W') : RM C m P w W' B s d sl a c es :=
  ⟨h.st.ext hx, h.lg.ext hx, h.rg.ext hx, h.rs.ext hx, h.gt.ext hx, h.own.ext hx, h.le, h.ext.trans hx⟩
theorem RM.al (h : RM C m P w W B s d sl a c es) (o : Obj) : RM C m P w (W.alloc o) B s d sl a c es := h.nx ((Ext.refl W).alloc o)
theorem RM.dr (h : RM C m P w W B s d sl a c es) : RM C m P w W.drew B s d sl a c es := h.nx (Ext.refl W).drew
theorem RM.drN (h : RM C m P w W B s d sl a c es) (n : Nat) : RM C m P w (W.drewN n) B s d sl a c es := h.nx ((Ext.refl W).drewN n)
theorem RM.sz (h : RM C m P w W B s d sl a c es) : B + 1 ≤ W.heap.size := h.gt.lt
theorem RM.app (h : RM C m P w W B s d sl a c es) {g c' : Nat} {fs : List Pl.Ed} (hown : OwnE W' (B + 1) (some ⟨g, 0, none⟩) c' fs) (hg : W.grownBy W' (ab a)) : RM C m P w W' B s d sl (some ⟨g, 0, none⟩) c' fs := by
  have far : ∀ n, n ≤ B → some n ≠ ab a := fun n hn e => by have := (h.own.lo n e.symm).1; omega
  have hle := h.le
  exact ⟨h.st.grown hg (far _ (by omega)), h.lg.grown hg (far _ (by omega)), h.rg.grown hg (far _ (by omega)), h.rs.grown hg (far _ (by omega)), h.gt.grown hg (far _ (by omega)), hown, hle, h.ext.grown hg (fun k e => by have := (h.own.lo k e).1; omega)⟩
theorem RM.setG (h : RM C m P w W B s d sl a c es) (v : Value) : RM C m P w (W.setCell ⟨B, 7, none⟩ v) B s d v a c es := by
  have hle := h.le
  exact ⟨h.st.far (by omega) v, h.lg.far (by omega) v, h.rg.far (by omega) v, h.rs.far (by omega) v, h.gt.set 7 v (by simp), h.own.far (fun b hb => by have := (h.own.lo b hb).1; omega), hle, h.ext.setCell (by simp; omega) v⟩
theorem RM.setS (h : RM C m P w W B s d sl a c es) {i : Nat} (hi : i < 3) (v : Int) : RM C m P w (W.setCell ⟨w.heap.size, i * 2, none⟩ (.int .i64 v)) B (Pl.upd s i v) d sl a c es := by
  have hle := h.le
  have hl : (stlist s d).length = 6 := rfl
  refine ⟨?_, h.lg.far (by omega) _, h.rg.far (by omega) _, h.rs.far (by omega) _, h.gt.far (by omega) _, h.own.far (fun b hb => by have := (h.own.lo b hb).1; omega), hle, h.ext.setCell (Nat.le_refl _) _⟩
  rw [← stlist_s s d hi v]
  exact h.st.set (i * 2) _ (by rw [hl]; omega)
theorem RM.setD (h : RM C m P w W B s d sl a c es) {i : Nat} (hi : i < 3) (v : Int) : RM C m P w (W.setCell ⟨w.heap.size, i * 2 + 1, none⟩ (.int .i64 v)) B s (Pl.upd d i v) sl a c es := by
  have hle := h.le
  have hl : (stlist s d).length = 6 := rfl
  refine ⟨?_, h.lg.far (by omega) _, h.rg.far (by omega) _, h.rs.far (by omega) _, h.gt.far (by omega) _, h.own.far (fun b hb => by have := (h.own.lo b hb).1; omega), hle, h.ext.setCell (Nat.le_refl _) _⟩
  rw [← stlist_d s d hi v]
  exact h.st.set (i * 2 + 1) _ (by rw [hl]; omega)
end
theorem upd_upd {α : Type} (f : Nat → α) (i : Nat) (x y : α) : Pl.upd (Pl.upd f i x) i y = Pl.upd f i y := by
  funext j; unfold Pl.upd; split <;> rfl

theorem run_ret {W : World} {n1 n2 : Nat} {u0 u1 u2 u3 u4 u5 u6 u7 x0 x1 x2 x3 x4 x5 e : Value} {tmps : Array Value} (Z : Blk W n1 [u0, u1, u2, u3, u4, u5, u6, u7]) (X : Blk W n2 [x0, x1, x2, x3, x4, x5]) (h : tmps[10]? = some (.pointer (some ⟨n1, 0, none⟩))) (h1 : tmps[11]? = some (.pointer (some ⟨n2, 0, none⟩))) (h2 : tmps[12]? = some e) :
    (results Try.f11 tmps).run Try.prog W = .ok (.tuple #[.agg #[u0, u1, u2, u3, u4, u5, u6, u7], .agg #[x0, x1, x2, x3, x4, x5], e]) W := by
  have z0 := Z.at 0 _ rfl
  have z1 := Z.at 1 _ rfl
  have z2 := Z.at 2 _ rfl
  have z3 := Z.at 3 _ rfl
  have z4 := Z.at 4 _ rfl
  have z5 := Z.at 5 _ rfl
  have z6 := Z.at 6 _ rfl
  have z7 := Z.at 7 _ rfl
  have y0 := X.at 0 _ rfl
  have y1 := X.at 1 _ rfl
  have y2 := X.at 2 _ rfl
  have y3 := X.at 3 _ rfl
  have y4 := X.at 4 _ rfl
  have y5 := X.at 5 _ rfl
  simp [results, Try.results11, go_sem, h, h1, h2, z0, z1, z2, z3, z4, z5, z6, z7, y0, y1, y2, y3, y4, y5]

set_option linter.unusedSimpArgs false in
set_option maxRecDepth 100000 in
set_option maxHeartbeats 6000000 in
theorem run_any (C : Pl.GC) (m : Pl.Sim) (P : Nat) (w : World) (h : RunOK C m P) :
    Calls Try.prog 11 #[.agg #[.int .i64 (m.s 0), .int .i64 (m.d 0), .int .i64 (m.s 1), .int .i64 (m.d 1), .int .i64 (m.s 2), .int .i64 (m.d 2)], .agg #[.int .i64 (C.f 0), .int .i64 (C.g 0), .int .i64 (C.f 1), .int .i64 (C.g 1), .int .i64 (C.f 2), .int .i64 (C.g 2)], .int .i64 P, .int .i64 C.dead, .int .i64 C.trip] w fun e w' => ∃ a k, e = .returned (.tuple #[.agg #[.int .i64 P, .bool (m.s 0 == 2), .bool (m.s 0 == 1), .bool (m.s 1 == 2), .bool (m.s 1 == 1), .bool (m.s 2 == 2), .bool (m.s 2 == 1), .slice a (Pl.sim C m (3 * P)).es.length k], .agg #[.int .i64 ((Pl.sim C m (3 * P)).s 0), .int .i64 ((Pl.sim C m (3 * P)).d 0), .int .i64 ((Pl.sim C m (3 * P)).s 1), .int .i64 ((Pl.sim C m (3 * P)).d 1), .int .i64 ((Pl.sim C m (3 * P)).s 2), .int .i64 ((Pl.sim C m (3 * P)).d 2)], .nilIface]) ∧ RowE w' a (Pl.sim C m (3 * P)).es ∧ (∀ b, ab a = some b → w.heap.size ≤ b) ∧ Ext w w' := by
  have ⟨p1, p2⟩ := h.per
  have ⟨d1, d2⟩ := h.dead
  have ⟨t1, t2⟩ := h.trip
  have ⟨l01, l02, l03⟩ := h.legs 0 (by omega)
  have ⟨l11, l12, l13⟩ := h.legs 1 (by omega)
  have ⟨l21, l22, l23⟩ := h.legs 2 (by omega)
  have HW := Lib.hid (fun i t V => wanted_any C i t V)
  have HR := Lib.hid (fun V => granges_t m.s m.d P C.dead V (fun i hi => ⟨h.beg.s i hi, h.beg.d i hi⟩) h.per h.dead)
  have H := Lib.hid h
  clear h
  have A := Blk.new w [.int .i64 (m.s 0), .int .i64 (m.d 0), .int .i64 (m.s 1), .int .i64 (m.d 1), .int .i64 (m.s 2), .int .i64 (m.d 2)] 29
  have A := A.alloc (.cells #[.int .i64 (C.f 0), .int .i64 (C.g 0), .int .i64 (C.f 1), .int .i64 (C.g 1), .int .i64 (C.f 2), .int .i64 (C.g 2)] 45)
  have A := A.alloc (.cells #[.int .i64 0, .bool false, .bool false, .bool false, .bool false, .bool false, .bool false, .slice none 0 0] 52)
  have A := A.alloc (.cells #[.int .i64 0, .int .i64 0, .int .i64 0, .int .i64 0, .int .i64 0, .int .i64 0] 29)
  have L := Blk.new (w.alloc (.cells #[.int .i64 (m.s 0), .int .i64 (m.d 0), .int .i64 (m.s 1), .int .i64 (m.d 1), .int .i64 (m.s 2), .int .i64 (m.d 2)] 29)) [.int .i64 (C.f 0), .int .i64 (C.g 0), .int .i64 (C.f 1), .int .i64 (C.g 1), .int .i64 (C.f 2), .int .i64 (C.g 2)] 45
  rw [show (w.alloc (.cells #[.int .i64 (m.s 0), .int .i64 (m.d 0), .int .i64 (m.s 1), .int .i64 (m.d 1), .int .i64 (m.s 2), .int .i64 (m.d 2)] 29)).heap.size = w.heap.size + 1 by simp] at L
  have L := L.alloc (.cells #[.int .i64 0, .bool false, .bool false, .bool false, .bool false, .bool false, .bool false, .slice none 0 0] 52)
  have L := L.alloc (.cells #[.int .i64 0, .int .i64 0, .int .i64 0, .int .i64 0, .int .i64 0, .int .i64 0] 29)
  have G := Blk.new ((w.alloc (.cells #[.int .i64 (m.s 0), .int .i64 (m.d 0), .int .i64 (m.s 1), .int .i64 (m.d 1), .int .i64 (m.s 2), .int .i64 (m.d 2)] 29)).alloc (.cells #[.int .i64 (C.f 0), .int .i64 (C.g 0), .int .i64 (C.f 1), .int .i64 (C.g 1), .int .i64 (C.f 2), .int .i64 (C.g 2)] 45)) [.int .i64 0, .bool false, .bool false, .bool false, .bool false, .bool false, .bool false, .slice none 0 0] 52
  rw [show ((w.alloc (.cells #[.int .i64 (m.s 0), .int .i64 (m.d 0), .int .i64 (m.s 1), .int .i64 (m.d 1), .int .i64 (m.s 2), .int .i64 (m.d 2)] 29)).alloc (.cells #[.int .i64 (C.f 0), .int .i64 (C.g 0), .int .i64 (C.f 1), .int .i64 (C.g 1), .int .i64 (C.f 2), .int .i64 (C.g 2)] 45)).heap.size = w.heap.size + 1 + 1 by simp] at G
  have G := G.alloc (.cells #[.int .i64 0, .int .i64 0, .int .i64 0, .int .i64 0, .int .i64 0, .int .i64 0] 29)
  have Z := Blk.new (((w.alloc (.cells #[.int .i64 (m.s 0), .int .i64 (m.d 0), .int .i64 (m.s 1), .int .i64 (m.d 1), .int .i64 (m.s 2), .int .i64 (m.d 2)] 29)).alloc (.cells #[.int .i64 (C.f 0), .int .i64 (C.g 0), .int .i64 (C.f 1), .int .i64 (C.g 1), .int .i64 (C.f 2), .int .i64 (C.g 2)] 45)).alloc (.cells #[.int .i64 0, .bool false, .bool false, .bool false, .bool false, .bool false, .bool false, .slice none 0 0] 52)) [.int .i64 0, .int .i64 0, .int .i64 0, .int .i64 0, .int .i64 0, .int .i64 0] 29
  rw [show (((w.alloc (.cells #[.int .i64 (m.s 0), .int .i64 (m.d 0), .int .i64 (m.s 1), .int .i64 (m.d 1), .int .i64 (m.s 2), .int .i64 (m.d 2)] 29)).alloc (.cells #[.int .i64 (C.f 0), .int .i64 (C.g 0), .int .i64 (C.f 1), .int .i64 (C.g 1), .int .i64 (C.f 2), .int .i64 (C.g 2)] 45)).alloc (.cells #[.int .i64 0, .bool false, .bool false, .bool false, .bool false, .bool false, .bool false, .slice none 0 0] 52)).heap.size = w.heap.size + 1 + 1 + 1 by simp] at Z
  have E : Ext w ((((w.alloc (.cells #[.int .i64 (m.s 0), .int .i64 (m.d 0), .int .i64 (m.s 1), .int .i64 (m.d 1), .int .i64 (m.s 2), .int .i64 (m.d 2)] 29)).alloc (.cells #[.int .i64 (C.f 0), .int .i64 (C.g 0), .int .i64 (C.f 1), .int .i64 (C.g 1), .int .i64 (C.f 2), .int .i64 (C.g 2)] 45)).alloc (.cells #[.int .i64 0, .bool false, .bool false, .bool false, .bool false, .bool false, .bool false, .slice none 0 0] 52)).alloc (.cells #[.int .i64 0, .int .i64 0, .int .i64 0, .int .i64 0, .int .i64 0, .int .i64 0] 29)) := ((((Ext.refl w).alloc _).alloc _).alloc _).alloc _
  have ix30 : ∀ w, (Instr.index 45 (.agg #[.int .i64 (C.f 0), .int .i64 (C.g 0), .int .i64 (C.f 1), .int .i64 (C.g 1), .int .i64 (C.f 2), .int .i64 (C.g 2)]) (.int .i64 0)).run Try.prog w = .ok (.agg #[.int .i64 (C.f 0), .int .i64 (C.g 0)]) w := fun _ => by kernel_rfl
  have ix31 : ∀ w, (Instr.index 45 (.agg #[.int .i64 (C.f 0), .int .i64 (C.g 0), .int .i64 (C.f 1), .int .i64 (C.g 1), .int .i64 (C.f 2), .int .i64 (C.g 2)]) (.int .i64 1)).run Try.prog w = .ok (.agg #[.int .i64 (C.f 1), .int .i64 (C.g 1)]) w := fun _ => by kernel_rfl
  have ix32 : ∀ w, (Instr.index 45 (.agg #[.int .i64 (C.f 0), .int .i64 (C.g 0), .int .i64 (C.f 1), .int .i64 (C.g 1), .int .i64 (C.f 2), .int .i64 (C.g 2)]) (.int .i64 2)).run Try.prog w = .ok (.agg #[.int .i64 (C.f 2), .int .i64 (C.g 2)]) w := fun _ => by kernel_rfl
  go_enter Try.func11, Try.ntmps11
  go_wp2_with fail
  refine (HR.out _).mono ?_
  rintro e w1 ⟨rfl, hx1⟩
  have A := A.ext hx1
  have L := L.ext hx1
  have G := G.ext hx1
  have Z := Z.ext hx1
  have E := E.trans hx1
  have a0 := A.at 0 _ rfl
  have a1 := A.at 1 _ rfl
  have a2 := A.at 2 _ rfl
  have a3 := A.at 3 _ rfl
  have a4 := A.at 4 _ rfl
  have a5 := A.at 5 _ rfl
  have al := A.lt
  have af := A.fr
  have l0 := L.at 0 _ rfl
  have l1 := L.at 1 _ rfl
  have l2 := L.at 2 _ rfl
  have l3 := L.at 3 _ rfl
  have l4 := L.at 4 _ rfl
  have l5 := L.at 5 _ rfl
  have ll := L.lt
  have lf := L.fr
  go_wp2_with fail
  refine (gwithin_t _ _ _ _ t1 t2).mono ?_
  rintro e w1' ⟨rfl, rfl⟩
  go_wp2_with fail
  have A3 := ((A.alloc (.cells #[.int .i64 (C.f 0), .int .i64 (C.g 0)] 44)).alloc (.cells #[.int .i64 (C.f 1), .int .i64 (C.g 1)] 44)).alloc (.cells #[.int .i64 (C.f 2), .int .i64 (C.g 2)] 44)
  have L3 := ((L.alloc (.cells #[.int .i64 (C.f 0), .int .i64 (C.g 0)] 44)).alloc (.cells #[.int .i64 (C.f 1), .int .i64 (C.g 1)] 44)).alloc (.cells #[.int .i64 (C.f 2), .int .i64 (C.g 2)] 44)
  have G3 := ((G.alloc (.cells #[.int .i64 (C.f 0), .int .i64 (C.g 0)] 44)).alloc (.cells #[.int .i64 (C.f 1), .int .i64 (C.g 1)] 44)).alloc (.cells #[.int .i64 (C.f 2), .int .i64 (C.g 2)] 44)
  have Z3 := ((Z.alloc (.cells #[.int .i64 (C.f 0), .int .i64 (C.g 0)] 44)).alloc (.cells #[.int .i64 (C.f 1), .int .i64 (C.g 1)] 44)).alloc (.cells #[.int .i64 (C.f 2), .int .i64 (C.g 2)] 44)
  have E3 := ((E.alloc (.cells #[.int .i64 (C.f 0), .int .i64 (C.g 0)] 44)).alloc (.cells #[.int .i64 (C.f 1), .int .i64 (C.g 1)] 44)).alloc (.cells #[.int .i64 (C.f 2), .int .i64 (C.g 2)] 44)
  have q0 := A3.at 0 _ rfl
  have q1 := A3.at 1 _ rfl
  have q2 := A3.at 2 _ rfl
  have q3 := A3.at 3 _ rfl
  have q4 := A3.at 4 _ rfl
  have q5 := A3.at 5 _ rfl
  have ql := A3.lt
  have qf := A3.fr
  refine wp_loop_rounds 4 ?_
  rw [rounds_succ]
  go_wp2_with fail
  rw [rounds_succ]
  go_wp2_with fail
  rw [rounds_succ]
  go_wp2_with fail
  rw [rounds_succ]
  go_wp2_with fail
  refine (on_any m.s m.d _).mono ?_
  rintro e w2 ⟨rfl, hx2⟩
  have A := A3.ext hx2
  have L := L3.ext hx2
  have G := G3.ext hx2
  have Z := Z3.ext hx2
  have E := E3.trans hx2
  have hsz := hx2.size
  have hsz1 := Z3.lt
  have h0 : (Pl.sim C m 0).es = [] := H.out.beg.es
  have hg0 : Blk (w2.alloc (.cells #[.int .i64 P, .bool (m.s 0 == 2), .bool (m.s 0 == 1), .bool (m.s 1 == 2), .bool (m.s 1 == 1), .bool (m.s 2 == 2), .bool (m.s 2 == 1), .slice none 0 0] 52)) w2.heap.size [.int .i64 P, .bool (m.s 0 == 2), .bool (m.s 0 == 1), .bool (m.s 1 == 2), .bool (m.s 1 == 1), .bool (m.s 2 == 2), .bool (m.s 2 == 1), .slice none (Pl.sim C m 0).es.length 0] := by rw [h0]; exact Blk.new w2 [.int .i64 P, .bool (m.s 0 == 2), .bool (m.s 0 == 1), .bool (m.s 1 == 2), .bool (m.s 1 == 1), .bool (m.s 2 == 2), .bool (m.s 2 == 1), .slice none 0 0] 52
  have ho0 : OwnE (w2.alloc (.cells #[.int .i64 P, .bool (m.s 0 == 2), .bool (m.s 0 == 1), .bool (m.s 1 == 2), .bool (m.s 1 == 1), .bool (m.s 2 == 2), .bool (m.s 2 == 1), .slice none 0 0] 52)) (w2.heap.size + 1) none 0 (Pl.sim C m 0).es := by rw [h0]; exact OwnE.nil _ _
  have R0 : RM C m P w (w2.alloc (.cells #[.int .i64 P, .bool (m.s 0 == 2), .bool (m.s 0 == 1), .bool (m.s 1 == 2), .bool (m.s 1 == 1), .bool (m.s 2 == 2), .bool (m.s 2 == 1), .slice none 0 0] 52)) w2.heap.size (Pl.sim C m (3 * 0)).s (Pl.sim C m (3 * 0)).d (.slice none (Pl.sim C m (3 * 0)).es.length 0) none 0 (Pl.sim C m (3 * 0)).es :=
    ⟨A.alloc _, L.alloc _, G.alloc _, Z.alloc _, hg0, ho0, by omega, E.alloc _⟩
  clear h0 hg0 ho0 A L G Z E A3 L3 G3 Z3 E3 q0 q1 q2 q3 q4 q5 ql qf a0 a1 a2 a3 a4 a5 al af l0 l1 l2 l3 l4 l5 ll lf hsz hsz1 hx2 hx1
  go_wp2_with fail
  go_loopw [63] (fun i wr => ∃ (t : Nat) (a : Option Addr) (c : Nat), t ≤ P ∧ i = .int .i64 t ∧ RM C m P w wr w2.heap.size (Pl.sim C m (3 * t)).s (Pl.sim C m (3 * t)).d (.slice a (Pl.sim C m (3 * t)).es.length c) a c (Pl.sim C m (3 * t)).es) (fun i _ => P - (intOf i).toNat)
  case atStart => exact ⟨0, none, 0, by omega, rfl, R0⟩
  case round =>
    clear R0
    obtain ⟨t, a, c, ht, rfl, R⟩ := hrel
    by_cases htp : t < P
    · have htp' : (t : Int) < (P : Int) := by omega
      have HR0 := Lib.hid R
      clear R
      go_wp2_with fail
      go_loopw [66] (fun i wr => ∃ (q : Nat) (a : Option Addr) (c : Nat), q ≤ 3 ∧ i = .int .i64 q ∧ RM C m P w wr w2.heap.size (Pl.sim C m (3 * t + q)).s (Pl.sim C m (3 * t + q)).d (.slice a (Pl.sim C m (3 * t + q)).es.length c) a c (Pl.sim C m (3 * t + q)).es) (fun i _ => 3 - (intOf i).toNat)
      case atStart => exact ⟨0, a, c, by omega, rfl, HR0.out⟩
      case round =>
        clear HR0 a c
        obtain ⟨q, a, c, hq, rfl, R⟩ := hrel
        by_cases hq3 : q < 3
        · have hq' : (q : Int) < 3 := by omega
          have hq0 : (0 : Int) ≤ (q : Int) := by omega
          obtain ⟨s, hs⟩ : ∃ s, s = (Pl.sim C m (3 * t + q)).s := ⟨_, rfl⟩
          obtain ⟨d, hd⟩ : ∃ d, d = (Pl.sim C m (3 * t + q)).d := ⟨_, rfl⟩
          obtain ⟨es, he⟩ : ∃ es, es = (Pl.sim C m (3 * t + q)).es := ⟨_, rfl⟩
          have sb := (Pl.inv C H.out.beg (3 * t + q)).s q hq3
          have db := (Pl.inv C H.out.beg (3 * t + q)).d q hq3
          have eb := es_cnt C H.out.beg (3 * t + q)
          rw [← hs] at R sb
          rw [← hd] at R db
          rw [← he] at R eb
          obtain ⟨sb0, sb1⟩ := sb
          have db0 := db.1
          have db1 : d q ≤ 4096 := by have := db.2; omega
          have tP : t ≤ 4096 := by omega
          have hk3 : (3 * t + q) / 3 = t := by omega
          have hk4 : (3 * t + q) % 3 = q := by omega
          have hsim : Pl.sim C m (3 * t + q + 1) = Pl.sstep C (Pl.sim C m (3 * t + q)) t q := by
            show Pl.sstep C _ ((3 * t + q) / 3) ((3 * t + q) % 3) = _
            rw [hk3, hk4]
          have HSIM := Lib.hid hsim
          have HS := Lib.hid hs
          have HD := Lib.hid hd
          have HES := Lib.hid he
          clear hs hd he db hsim hk3 hk4
          have wd : IntKind.i64.wrap (d q + 1) = d q + 1 := IntWalk.i64_in _ (by omega)
          have k_lf := R.lg.at (q * 2) _ (lglist_at C hq3).1
          have k_lg := R.lg.at (q * 2 + 1) _ (lglist_at C hq3).2
          go_upto_region 16 with fail
          go_region_held3 (fun V => V.cell? ⟨w.heap.size + 1, q * 2, none⟩ = some (.int .i64 (C.f q)) ∧ V.cell? ⟨w.heap.size + 1, q * 2 + 1, none⟩ = some (.int .i64 (C.g q))) ((refine ⟨?_, ?_⟩ <;> assumption))
            (first | (go_at_call 28; refine (HW.out q (t : Int) _).mono ?_; rintro e w9 ⟨rfl, hx9⟩; have hx9' : Ext wr w9 := (by repeat (first | with_reducible exact Ext.refl _ | with_reducible assumption | (with_reducible refine Ext.drew ?_) | (with_reducible refine Ext.drewN ?_ _) | (with_reducible refine Ext.alloc ?_ _) | (with_reducible refine Ext.setCell ?_ ?_ _) | (with_reducible refine Ext.trans ?_ (by with_reducible assumption)) | omega | (focus (simp <;> omega)))); have k_lf := (R.nx hx9').lg.at (q * 2) _ (lglist_at C hq3).1; have k_lg := (R.nx hx9').lg.at (q * 2 + 1) _ (lglist_at C hq3).2))
          have R := R.nx hx9'
          clear k_lf k_lg
          have wb := Pl.want_in C q (t : Int)
          obtain ⟨v, hv⟩ : ∃ v, v = Pl.want C q (t : Int) := ⟨_, rfl⟩
          rw [← hv] at wb
          have HV := Lib.hid hv
          rw [← hv]
          clear hv
          obtain ⟨wb0, wb1⟩ := wb
          by_cases z : s q = 0
          · have z1 : (s q == 0) = true := by simpa using z
            by_cases u : v = 0
            · have u1 : (v == 0) = true := by simpa using u
              have k_s := R.st.at (q * 2) _ (stlist_at s d hq3).1
              have k_d := R.st.at (q * 2 + 1) _ (stlist_at s d hq3).2
              have k_f := R.st.fr
              have k_l := R.st.lt
              go_upto_region 23 with fail
              go_wp2_with fail
              go_roundw
              case rel =>
                refine ⟨q + 1, a, c, by omega, by go_num, ?_⟩
                rw [show 3 * t + (q + 1) = 3 * t + q + 1 by omega, HSIM.out, Pl.step_no (.inl (by rw [← HS.out]; exact z)) (.inr (.inl (by rw [← HV.out]; exact u))), ← HS.out, ← HD.out, ← HES.out]
                exact R.setD hq3 (min (d q + 1) 4096)
              case measure => first | (simp [intOf]; done) | (simp [intOf]; omega)
            · have u1 : (v == 0) = false := by simpa using u
              by_cases x : C.dead ≤ d q
              · have x1 : decide (C.dead ≤ d q) = true := decide_eq_true x
                have k_s := R.st.at (q * 2) _ (stlist_at s d hq3).1
                have k_d := R.st.at (q * 2 + 1) _ (stlist_at s d hq3).2
                have k_f := R.st.fr
                have k_l := R.st.lt
                go_upto_region 21 with fail
                go_cut [] (fun wx => ∃ g c', RM C m P w wx w2.heap.size s d (.slice (some ⟨g, 0, none⟩) (es ++ [(⟨t, Pl.nmb q (v), true⟩ : Pl.Ed)]).length c') (some ⟨g, 0, none⟩) c' (es ++ [(⟨t, Pl.nmb q (v), true⟩ : Pl.Ed)]))
                case first =>
                  clear k_s k_d k_f k_l
                  have HR1 := Lib.hid R
                  clear R
                  have R := HR1.out.dr
                  refine wp_region_B (fun V => V.cell? ⟨w2.heap.size, 7, none⟩ = some (.slice a es.length c) ∧ V.cell? ⟨w.heap.size, q * 2, none⟩ = some (.int .i64 (s q))) [10] (by kernel_rfl) ?_
                  have hS := And.intro (R.gt.at 7 _ rfl) (R.st.at (q * 2) _ (stlist_at s d hq3).1)
                  refine wpAnyB_take0 (i := 0) (v := ?_) rfl (by kernel_rfl) (by kernel_rfl) (by kernel_rfl) (by kernel_rfl) (fun _ _ _ h => h) (Or.inl ⟨by rfl, ?_⟩) (fun _ => hS) ?_
                  rotate_left
                  · (intro V; go_simp; (try with_reducible rfl))
                  (try simp only [Act.put, List.setIfInBounds_toArray, List.set_cons_zero, List.set_cons_succ])
                  refine wpAnyB_take (i := 1) (v := ?_) rfl (by kernel_rfl) (by kernel_rfl) (by kernel_rfl) (by kernel_rfl) (by kernel_rfl) (by kernel_rfl) (fun _ _ _ h => h) (Or.inl ⟨by rfl, ?_⟩) hS ?_
                  rotate_left
                  · (intro V hV; obtain ⟨v1, v2⟩ := hV; skip; go_simp; (try with_reducible rfl))
                  (try simp only [Act.put, List.setIfInBounds_toArray, List.set_cons_zero, List.set_cons_succ])
                  refine wpAnyB_take0 (i := 2) (v := ?_) rfl (by kernel_rfl) (by kernel_rfl) (by kernel_rfl) (by kernel_rfl) (fun _ _ _ h => h) (Or.inl ⟨by rfl, ?_⟩) (fun _ => hS) ?_
                  rotate_left
                  · (intro V; go_simp; (try with_reducible rfl))
                  (try simp only [Act.put, List.setIfInBounds_toArray, List.set_cons_zero, List.set_cons_succ])
                  refine wpAnyB_take0 (i := 3) (v := ?_) rfl (by kernel_rfl) (by kernel_rfl) (by kernel_rfl) (by kernel_rfl) (fun _ _ _ h => h) (Or.inl ⟨by rfl, ?_⟩) (fun _ => hS) ?_
                  rotate_left
                  · (intro V; go_simp; (try with_reducible rfl))
                  (try simp only [Act.put, List.setIfInBounds_toArray, List.set_cons_zero, List.set_cons_succ])
                  refine wpAnyB_take0 (i := 4) (v := ?_) rfl (by kernel_rfl) (by kernel_rfl) (by kernel_rfl) (by kernel_rfl) (fun _ _ _ h => h) (Or.inl ⟨by rfl, ?_⟩) (fun _ => hS) ?_
                  rotate_left
                  · (intro V; go_simp; (try with_reducible rfl))
                  (try simp only [Act.put, List.setIfInBounds_toArray, List.set_cons_zero, List.set_cons_succ])
                  refine wpAnyB_ready (rs := [5]) (by kernel_rfl) (by simp) ?_
                  refine AllReadyB.cons rfl (fun K hK => ?_) AllReadyB.nil
                  go_simp
                  refine (number_any q (v) _ hq3).mono ?_
                  rintro e w8 ⟨rfl, rfl⟩
                  (try go_wp2_with fail)
                  refine hK.out _ _ (fun _ => hS) ?_
                  clear hK K
                  (try simp only [Act.put, List.setIfInBounds_toArray, List.set_cons_zero, List.set_cons_succ])
                  refine wpAnyB_take0 (i := 6) (v := ?_) rfl (by kernel_rfl) (by kernel_rfl) (by kernel_rfl) (by kernel_rfl) (fun _ _ _ h => h) (Or.inl ⟨by rfl, ?_⟩) (fun _ => hS) ?_
                  rotate_left
                  · (intro V; go_simp; (try with_reducible rfl))
                  (try simp only [Act.put, List.setIfInBounds_toArray, List.set_cons_zero, List.set_cons_succ])
                  refine wpAnyB_ready (rs := [7]) (by kernel_rfl) (by simp) ?_
                  refine AllReadyB.cons rfl (fun K hK => ?_) AllReadyB.nil
                  go_simp
                  have X : Blk (w9.drew.alloc (.cells #[.int .i64 t, .int .i64 (Pl.nmb q (v)), .bool true] 78)) w9.heap.size [.int .i64 t, .int .i64 (Pl.nmb q (v)), .bool true] := Blk.new w9.drew [.int .i64 t, .int .i64 (Pl.nmb q (v)), .bool true] 78
                  have R := R.al (.cells #[.int .i64 t, .int .i64 (Pl.nmb q (v)), .bool true] 78)
                  have hS := And.intro (R.gt.at 7 _ rfl) (R.st.at (q * 2) _ (stlist_at s d hq3).1)
                  refine hK.out _ _ (fun _ => hS) ?_
                  clear hK K
                  (try simp only [Act.put, List.setIfInBounds_toArray, List.set_cons_zero, List.set_cons_succ])
                  refine wpAnyB_ready (rs := [8]) (by kernel_rfl) (by simp) ?_
                  refine AllReadyB.cons rfl (fun K hK => ?_) AllReadyB.nil
                  refine eapp_step (w9.drew.alloc (.cells #[.int .i64 t, .int .i64 (Pl.nmb q (v)), .bool true] 78)) rfl (.tmp 127) (.tmp 133) rfl rfl R.own (by have := R.sz; exact this) w9.heap.size 1 ⟨t, Pl.nmb q (v), true⟩ rfl X (by omega) _ rfl ?_
                  intro g c' w11 hown hgrow hat hlt
                  have R := R.app hown hgrow
                  have hS := And.intro (R.gt.at 7 _ rfl) (R.st.at (q * 2) _ (stlist_at s d hq3).1)
                  clear hown hgrow hat hlt X
                  (try go_simp)
                  refine hK.out _ _ (fun _ => hS) ?_
                  clear hK K
                  (try simp only [Act.put, List.setIfInBounds_toArray, List.set_cons_zero, List.set_cons_succ])
                  refine wpAnyB_take0 (i := 9) (v := ?_) rfl (by kernel_rfl) (by kernel_rfl) (by kernel_rfl) (by kernel_rfl) (fun _ _ _ h => h) (Or.inl ⟨by rfl, ?_⟩) (fun _ => hS) ?_
                  rotate_left
                  · (intro V; go_simp; (try with_reducible rfl))
                  (try simp only [Act.put, List.setIfInBounds_toArray, List.set_cons_zero, List.set_cons_succ])
                  refine wpAnyB_ready (rs := [10]) (by kernel_rfl) (by simp) ?_
                  refine AllReadyB.cons rfl (fun K hK => ?_) AllReadyB.nil
                  have b9 := R.gt.at 7 _ rfl
                  have bf9 := R.gt.fr
                  have bl9 := R.gt.lt
                  go_simp
                  refine hK.out _ _ (fun h => absurd h (by decide)) ?_
                  clear hK K
                  (try simp only [Act.put, List.setIfInBounds_toArray, List.set_cons_zero, List.set_cons_succ])
                  clear b9 bf9 bl9
                  have R := R.setG (.slice (some ⟨g, 0, none⟩) (es.length + 1) c')
                  have elen : (es ++ [(⟨t, Pl.nmb q (v), true⟩ : Pl.Ed)]).length = es.length + 1 := by simp
                  refine wpAnyB_done (by kernel_rfl) ?_ _
                  go_wp2_with fail
                  go_meet
                  refine ⟨g, c', ?_⟩
                  rw [elen]
                  exact R
                clear k_s k_d k_f k_l R
                obtain ⟨g, c', R⟩ := hcut
                have k_s := R.st.at (q * 2) _ (stlist_at s d hq3).1
                have k_d := R.st.at (q * 2 + 1) _ (stlist_at s d hq3).2
                have k_f := R.st.fr
                have k_l := R.st.lt
                go_wp2_with fail
                go_roundw
                case rel =>
                  refine ⟨q + 1, some ⟨g, 0, none⟩, c', by omega, by go_num, ?_⟩
                  rw [show 3 * t + (q + 1) = 3 * t + q + 1 by omega, HSIM.out, Pl.step_on (by rw [← HS.out]; exact z) (by rw [← HV.out]; exact u) (by rw [← HD.out]; exact x), ← HS.out, ← HD.out, ← HES.out, ← HV.out]
                  exact (R.setS hq3 v).setD hq3 (min (d q + 1) 4096)
                case measure => first | (simp [intOf]; done) | (simp [intOf]; omega)
              · have x1 : decide (C.dead ≤ d q) = false := decide_eq_false x
                have k_s := R.st.at (q * 2) _ (stlist_at s d hq3).1
                have k_d := R.st.at (q * 2 + 1) _ (stlist_at s d hq3).2
                have k_f := R.st.fr
                have k_l := R.st.lt
                go_upto_region 23 with fail
                go_wp2_with fail
                go_roundw
                case rel =>
                  refine ⟨q + 1, a, c, by omega, by go_num, ?_⟩
                  rw [show 3 * t + (q + 1) = 3 * t + q + 1 by omega, HSIM.out, Pl.step_no (.inl (by rw [← HS.out]; exact z)) (.inr (.inr (by rw [← HD.out]; omega))), ← HS.out, ← HD.out, ← HES.out]
                  exact R.setD hq3 (min (d q + 1) 4096)
                case measure => first | (simp [intOf]; done) | (simp [intOf]; omega)
          · have z1 : (s q == 0) = false := by simpa using z
            have z2 : (s q != 0) = true := by simpa using z
            by_cases y : s q = v
            · have y1 : (s q == v) = true := by simpa using y
              have k_s := R.st.at (q * 2) _ (stlist_at s d hq3).1
              have k_d := R.st.at (q * 2 + 1) _ (stlist_at s d hq3).2
              have k_f := R.st.fr
              have k_l := R.st.lt
              go_upto_region 23 with fail
              go_wp2_with fail
              go_roundw
              case rel =>
                refine ⟨q + 1, a, c, by omega, by go_num, ?_⟩
                rw [show 3 * t + (q + 1) = 3 * t + q + 1 by omega, HSIM.out, Pl.step_no (.inr (by rw [← HS.out, ← HV.out]; exact y)) (.inl (by rw [← HS.out]; exact z)), ← HS.out, ← HD.out, ← HES.out]
                exact R.setD hq3 (min (d q + 1) 4096)
              case measure => first | (simp [intOf]; done) | (simp [intOf]; omega)
            · have y1 : (s q == v) = false := by simpa using y
              have y2 : (s q != v) = true := by simpa using y
              have k_s := R.st.at (q * 2) _ (stlist_at s d hq3).1
              have k_d := R.st.at (q * 2 + 1) _ (stlist_at s d hq3).2
              have k_f := R.st.fr
              have k_l := R.st.lt
              go_upto_region 18 with fail
              go_cut [] (fun wx => ∃ g c', RM C m P w wx w2.heap.size s d (.slice (some ⟨g, 0, none⟩) (es ++ [(⟨t, Pl.nmb q (s q), false⟩ : Pl.Ed)]).length c') (some ⟨g, 0, none⟩) c' (es ++ [(⟨t, Pl.nmb q (s q), false⟩ : Pl.Ed)]))
              case first =>
                clear k_s k_d k_f k_l
                have HR1 := Lib.hid R
                clear R
                have R := HR1.out.dr
                refine wp_region_B (fun V => V.cell? ⟨w2.heap.size, 7, none⟩ = some (.slice a es.length c) ∧ V.cell? ⟨w.heap.size, q * 2, none⟩ = some (.int .i64 (s q))) [13] (by kernel_rfl) ?_
                have hS := And.intro (R.gt.at 7 _ rfl) (R.st.at (q * 2) _ (stlist_at s d hq3).1)
                refine wpAnyB_take0 (i := 0) (v := ?_) rfl (by kernel_rfl) (by kernel_rfl) (by kernel_rfl) (by kernel_rfl) (fun _ _ _ h => h) (Or.inl ⟨by rfl, ?_⟩) (fun _ => hS) ?_
                rotate_left
                · (intro V; go_simp; (try with_reducible rfl))
                (try simp only [Act.put, List.setIfInBounds_toArray, List.set_cons_zero, List.set_cons_succ])
                refine wpAnyB_take (i := 1) (v := ?_) rfl (by kernel_rfl) (by kernel_rfl) (by kernel_rfl) (by kernel_rfl) (by kernel_rfl) (by kernel_rfl) (fun _ _ _ h => h) (Or.inl ⟨by rfl, ?_⟩) hS ?_
                rotate_left
                · (intro V hV; obtain ⟨v1, v2⟩ := hV; skip; go_simp; (try with_reducible rfl))
                (try simp only [Act.put, List.setIfInBounds_toArray, List.set_cons_zero, List.set_cons_succ])
                refine wpAnyB_take0 (i := 2) (v := ?_) rfl (by kernel_rfl) (by kernel_rfl) (by kernel_rfl) (by kernel_rfl) (fun _ _ _ h => h) (Or.inl ⟨by rfl, ?_⟩) (fun _ => hS) ?_
                rotate_left
                · (intro V; go_simp; (try with_reducible rfl))
                (try simp only [Act.put, List.setIfInBounds_toArray, List.set_cons_zero, List.set_cons_succ])
                refine wpAnyB_take0 (i := 3) (v := ?_) rfl (by kernel_rfl) (by kernel_rfl) (by kernel_rfl) (by kernel_rfl) (fun _ _ _ h => h) (Or.inl ⟨by rfl, ?_⟩) (fun _ => hS) ?_
                rotate_left
                · (intro V; go_simp; (try with_reducible rfl))
                (try simp only [Act.put, List.setIfInBounds_toArray, List.set_cons_zero, List.set_cons_succ])
                refine wpAnyB_take0 (i := 4) (v := ?_) rfl (by kernel_rfl) (by kernel_rfl) (by kernel_rfl) (by kernel_rfl) (fun _ _ _ h => h) (Or.inl ⟨by rfl, ?_⟩) (fun _ => hS) ?_
                rotate_left
                · (intro V; go_simp; (try with_reducible rfl))
                (try simp only [Act.put, List.setIfInBounds_toArray, List.set_cons_zero, List.set_cons_succ])
                refine wpAnyB_take0 (i := 5) (v := ?_) rfl (by kernel_rfl) (by kernel_rfl) (by kernel_rfl) (by kernel_rfl) (fun _ _ _ h => h) (Or.inl ⟨by rfl, ?_⟩) (fun _ => hS) ?_
                rotate_left
                · (intro V; go_simp; (try with_reducible rfl))
                (try simp only [Act.put, List.setIfInBounds_toArray, List.set_cons_zero, List.set_cons_succ])
                refine wpAnyB_take0 (i := 6) (v := ?_) rfl (by kernel_rfl) (by kernel_rfl) (by kernel_rfl) (by kernel_rfl) (fun _ _ _ h => h) (Or.inl ⟨by rfl, ?_⟩) (fun _ => hS) ?_
                rotate_left
                · (intro V; go_simp; (try with_reducible rfl))
                (try simp only [Act.put, List.setIfInBounds_toArray, List.set_cons_zero, List.set_cons_succ])
                refine wpAnyB_take (i := 7) (v := ?_) rfl (by kernel_rfl) (by kernel_rfl) (by kernel_rfl) (by kernel_rfl) (by kernel_rfl) (by kernel_rfl) (fun _ _ _ h => h) (Or.inl ⟨by rfl, ?_⟩) hS ?_
                rotate_left
                · (intro V hV; obtain ⟨v1, v2⟩ := hV; skip; go_simp; (try with_reducible rfl))
                (try simp only [Act.put, List.setIfInBounds_toArray, List.set_cons_zero, List.set_cons_succ])
                refine wpAnyB_ready (rs := [8]) (by kernel_rfl) (by simp) ?_
                refine AllReadyB.cons rfl (fun K hK => ?_) AllReadyB.nil
                go_simp
                refine (number_any q (s q) _ hq3).mono ?_
                rintro e w8 ⟨rfl, rfl⟩
                (try go_wp2_with fail)
                refine hK.out _ _ (fun _ => hS) ?_
                clear hK K
                (try simp only [Act.put, List.setIfInBounds_toArray, List.set_cons_zero, List.set_cons_succ])
                refine wpAnyB_take0 (i := 9) (v := ?_) rfl (by kernel_rfl) (by kernel_rfl) (by kernel_rfl) (by kernel_rfl) (fun _ _ _ h => h) (Or.inl ⟨by rfl, ?_⟩) (fun _ => hS) ?_
                rotate_left
                · (intro V; go_simp; (try with_reducible rfl))
                (try simp only [Act.put, List.setIfInBounds_toArray, List.set_cons_zero, List.set_cons_succ])
                refine wpAnyB_ready (rs := [10]) (by kernel_rfl) (by simp) ?_
                refine AllReadyB.cons rfl (fun K hK => ?_) AllReadyB.nil
                go_simp
                have X : Blk (w9.drew.alloc (.cells #[.int .i64 t, .int .i64 (Pl.nmb q (s q)), .bool false] 78)) w9.heap.size [.int .i64 t, .int .i64 (Pl.nmb q (s q)), .bool false] := Blk.new w9.drew [.int .i64 t, .int .i64 (Pl.nmb q (s q)), .bool false] 78
                have R := R.al (.cells #[.int .i64 t, .int .i64 (Pl.nmb q (s q)), .bool false] 78)
                have hS := And.intro (R.gt.at 7 _ rfl) (R.st.at (q * 2) _ (stlist_at s d hq3).1)
                refine hK.out _ _ (fun _ => hS) ?_
                clear hK K
                (try simp only [Act.put, List.setIfInBounds_toArray, List.set_cons_zero, List.set_cons_succ])
                refine wpAnyB_ready (rs := [11]) (by kernel_rfl) (by simp) ?_
                refine AllReadyB.cons rfl (fun K hK => ?_) AllReadyB.nil
                refine eapp_step (w9.drew.alloc (.cells #[.int .i64 t, .int .i64 (Pl.nmb q (s q)), .bool false] 78)) rfl (.tmp 91) (.tmp 100) rfl rfl R.own (by have := R.sz; exact this) w9.heap.size 1 ⟨t, Pl.nmb q (s q), false⟩ rfl X (by omega) _ rfl ?_
                intro g c' w11 hown hgrow hat hlt
                have R := R.app hown hgrow
                have hS := And.intro (R.gt.at 7 _ rfl) (R.st.at (q * 2) _ (stlist_at s d hq3).1)
                clear hown hgrow hat hlt X
                (try go_simp)
                refine hK.out _ _ (fun _ => hS) ?_
                clear hK K
                (try simp only [Act.put, List.setIfInBounds_toArray, List.set_cons_zero, List.set_cons_succ])
                refine wpAnyB_take0 (i := 12) (v := ?_) rfl (by kernel_rfl) (by kernel_rfl) (by kernel_rfl) (by kernel_rfl) (fun _ _ _ h => h) (Or.inl ⟨by rfl, ?_⟩) (fun _ => hS) ?_
                rotate_left
                · (intro V; go_simp; (try with_reducible rfl))
                (try simp only [Act.put, List.setIfInBounds_toArray, List.set_cons_zero, List.set_cons_succ])
                refine wpAnyB_ready (rs := [13]) (by kernel_rfl) (by simp) ?_
                refine AllReadyB.cons rfl (fun K hK => ?_) AllReadyB.nil
                have b9 := R.gt.at 7 _ rfl
                have bf9 := R.gt.fr
                have bl9 := R.gt.lt
                go_simp
                refine hK.out _ _ (fun h => absurd h (by decide)) ?_
                clear hK K
                (try simp only [Act.put, List.setIfInBounds_toArray, List.set_cons_zero, List.set_cons_succ])
                clear b9 bf9 bl9
                have R := R.setG (.slice (some ⟨g, 0, none⟩) (es.length + 1) c')
                have elen : (es ++ [(⟨t, Pl.nmb q (s q), false⟩ : Pl.Ed)]).length = es.length + 1 := by simp
                refine wpAnyB_done (by kernel_rfl) ?_ _
                go_wp2_with fail
                go_meet
                refine ⟨g, c', ?_⟩
                rw [elen]
                exact R
              clear k_s k_d k_f k_l R
              obtain ⟨g, c', R⟩ := hcut
              have k_s := R.st.at (q * 2) _ (stlist_at s d hq3).1
              have k_d := R.st.at (q * 2 + 1) _ (stlist_at s d hq3).2
              have k_f := R.st.fr
              have k_l := R.st.lt
              have x1 : decide (C.dead ≤ 0) = false := decide_eq_false (by omega)
              by_cases u : v = 0
              · have u1 : (v == 0) = true := by simpa using u
                go_wp2_with fail
                go_roundw
                case rel =>
                  refine ⟨q + 1, some ⟨g, 0, none⟩, c', by omega, by go_num, ?_⟩
                  rw [show 3 * t + (q + 1) = 3 * t + q + 1 by omega, HSIM.out, Pl.step_off (by rw [← HS.out]; exact z) (by rw [← HS.out, ← HV.out]; exact y), ← HS.out, ← HD.out, ← HES.out]
                  have R := ((R.setS hq3 0).setD hq3 0).setD hq3 1
                  rw [upd_upd] at R
                  exact R
                case measure => first | (simp [intOf]; done) | (simp [intOf]; omega)
              · have u1 : (v == 0) = false := by simpa using u
                go_wp2_with fail
                go_roundw
                case rel =>
                  refine ⟨q + 1, some ⟨g, 0, none⟩, c', by omega, by go_num, ?_⟩
                  rw [show 3 * t + (q + 1) = 3 * t + q + 1 by omega, HSIM.out, Pl.step_off (by rw [← HS.out]; exact z) (by rw [← HS.out, ← HV.out]; exact y), ← HS.out, ← HD.out, ← HES.out]
                  have R := ((R.setS hq3 0).setD hq3 0).setD hq3 1
                  rw [upd_upd] at R
                  exact R
                case measure => first | (simp [intOf]; done) | (simp [intOf]; omega)
        · obtain rfl : q = 3 := by omega
          go_wp2_with fail
          go_roundw
          case rel => exact ⟨t + 1, a, c, by omega, by go_num, R⟩
          case measure => first | (simp [intOf]; done) | (simp [intOf]; omega)
    · obtain rfl : P = t := by omega
      have hge : (P : Int) ≤ (P : Int) := Int.le_refl _
      have b_a := R.st
      have b0 := b_a.at 0 _ rfl
      have b1 := b_a.at 1 _ rfl
      have b2 := b_a.at 2 _ rfl
      have b3 := b_a.at 3 _ rfl
      have b4 := b_a.at 4 _ rfl
      have b5 := b_a.at 5 _ rfl
      have bl := b_a.lt
      have c0 := R.gt.at 0 _ rfl
      have c1 := R.gt.at 1 _ rfl
      have c2 := R.gt.at 2 _ rfl
      have c3 := R.gt.at 3 _ rfl
      have c4 := R.gt.at 4 _ rfl
      have c5 := R.gt.at 5 _ rfl
      have c6 := R.gt.at 6 _ rfl
      have c7 := R.gt.at 7 _ rfl
      have cl := R.gt.lt
      have cf := R.gt.fr
      have r0 := R.rg.at 0 _ rfl
      have r1 := R.rg.at 1 _ rfl
      have r2 := R.rg.at 2 _ rfl
      have r3 := R.rg.at 3 _ rfl
      have r4 := R.rg.at 4 _ rfl
      have r5 := R.rg.at 5 _ rfl
      have r6 := R.rg.at 6 _ rfl
      have r7 := R.rg.at 7 _ rfl
      have rl := R.rg.lt
      have rf := R.rg.fr
      have x0 := R.rs.at 0 _ rfl
      have x1 := R.rs.at 1 _ rfl
      have x2 := R.rs.at 2 _ rfl
      have x3 := R.rs.at 3 _ rfl
      have x4 := R.rs.at 4 _ rfl
      have x5 := R.rs.at 5 _ rfl
      have xl := R.rs.lt
      have xf := R.rs.fr
      have n1 : w2.heap.size ≠ w.heap.size + 1 + 1 := by have := R.le; omega
      have n2 : w2.heap.size ≠ w.heap.size + 1 + 1 + 1 := by have := R.le; omega
      have HRR := Lib.hid R
      clear R b_a
      go_upto_region 26 with fail
      refine wp_region_B (fun V => Blk V w2.heap.size [.int .i64 P, .bool (m.s 0 == 2), .bool (m.s 0 == 1), .bool (m.s 1 == 2), .bool (m.s 1 == 1), .bool (m.s 2 == 2), .bool (m.s 2 == 1), .slice a (Pl.sim C m (3 * P)).es.length c] ∧ Blk V w.heap.size (stlist (Pl.sim C m (3 * P)).s (Pl.sim C m (3 * P)).d)) [3] (by kernel_rfl) ?_
      have hS := And.intro HRR.out.dr.gt HRR.out.dr.st
      clear b0 b1 b2 b3 b4 b5 bl c0 c1 c2 c3 c4 c5 c6 c7 cl cf
      refine wpAnyB_take (i := 0) (v := ?_) rfl (by kernel_rfl) (by kernel_rfl) (by kernel_rfl) (by kernel_rfl) (by kernel_rfl) (by kernel_rfl) (fun _ _ _ h => h) (Or.inl ⟨by rfl, ?_⟩) hS ?_
      rotate_left
      · (intro V hV; obtain ⟨v1, v2⟩ := hV; have e0 := v1.at 0 _ rfl; have e1 := v1.at 1 _ rfl; have e2 := v1.at 2 _ rfl; have e3 := v1.at 3 _ rfl; have e4 := v1.at 4 _ rfl; have e5 := v1.at 5 _ rfl; have e6 := v1.at 6 _ rfl; have e7 := v1.at 7 _ rfl; go_simp; (try with_reducible rfl))
      (try simp only [Act.put, List.setIfInBounds_toArray, List.set_cons_zero, List.set_cons_succ])
      refine wpAnyB_take (i := 1) (v := ?_) rfl (by kernel_rfl) (by kernel_rfl) (by kernel_rfl) (by kernel_rfl) (by kernel_rfl) (by kernel_rfl) (fun _ _ _ h => h) (Or.inl ⟨by rfl, ?_⟩) hS ?_
      rotate_left
      · (intro V hV; obtain ⟨v1, v2⟩ := hV; have e0 := v2.at 0 _ rfl; have e1 := v2.at 1 _ rfl; have e2 := v2.at 2 _ rfl; have e3 := v2.at 3 _ rfl; have e4 := v2.at 4 _ rfl; have e5 := v2.at 5 _ rfl; go_simp; (try with_reducible rfl))
      (try simp only [Act.put, List.setIfInBounds_toArray, List.set_cons_zero, List.set_cons_succ])
      refine wpAnyB_ready (rs := [2]) (by kernel_rfl) (by simp) ?_
      refine AllReadyB.cons rfl (fun K hK => ?_) AllReadyB.nil
      go_simp
      have hS2 := hS
      refine hK.out _ _ (fun _ => And.intro ?_ ?_) ?_
      · (repeat (first | with_reducible refine Blk.drew ?_ | (with_reducible refine Blk.far ?_ (by omega) _)))
        with_reducible exact HRR.out.gt
      · (repeat (first | with_reducible refine Blk.drew ?_ | (with_reducible refine Blk.far ?_ (by omega) _)))
        with_reducible exact HRR.out.st
      clear hK K
      (try simp only [Act.put, List.setIfInBounds_toArray, List.set_cons_zero, List.set_cons_succ])
      refine wpAnyB_ready (rs := [3]) (by kernel_rfl) (by simp) ?_
      refine AllReadyB.cons rfl (fun K hK => ?_) AllReadyB.nil
      go_simp
      refine hK.out _ _ (fun h => absurd h (by decide)) ?_
      clear hK K
      (try simp only [Act.put, List.setIfInBounds_toArray, List.set_cons_zero, List.set_cons_succ])
      refine wpAnyB_ready (rs := [4]) (by kernel_rfl) (by simp) ?_
      refine AllReadyB.cons rfl (fun K hK => ?_) AllReadyB.nil
      go_simp
      refine hK.out _ _ (fun h => absurd h (by decide)) ?_
      clear hK K
      (try simp only [Act.put, List.setIfInBounds_toArray, List.set_cons_zero, List.set_cons_succ])
      refine wpAnyB_done (by kernel_rfl) ?_ _
      go_wp2_with fail
      refine bodyPost_ret (run_ret ((((((((((((((HRR.out.rg.set 0 (.int .i64 P) (by simp)).set 1 (.bool (m.s 0 == 2)) (by simp)).set 2 (.bool (m.s 0 == 1)) (by simp)).set 3 (.bool (m.s 1 == 2)) (by simp)).set 4 (.bool (m.s 1 == 1)) (by simp)).set 5 (.bool (m.s 2 == 2)) (by simp)).set 6 (.bool (m.s 2 == 1)) (by simp)).set 7 (.slice a (Pl.sim C m (3 * P)).es.length c) (by simp)).far (m := w.heap.size + 1 + 1 + 1) (o := 0) (by omega) (.int .i64 ((Pl.sim C m (3 * P)).s 0))).far (m := w.heap.size + 1 + 1 + 1) (o := 1) (by omega) (.int .i64 ((Pl.sim C m (3 * P)).d 0))).far (m := w.heap.size + 1 + 1 + 1) (o := 2) (by omega) (.int .i64 ((Pl.sim C m (3 * P)).s 1))).far (m := w.heap.size + 1 + 1 + 1) (o := 3) (by omega) (.int .i64 ((Pl.sim C m (3 * P)).d 1))).far (m := w.heap.size + 1 + 1 + 1) (o := 4) (by omega) (.int .i64 ((Pl.sim C m (3 * P)).s 2))).far (m := w.heap.size + 1 + 1 + 1) (o := 5) (by omega) (.int .i64 ((Pl.sim C m (3 * P)).d 2))).drew ((((((((((((((HRR.out.rs.far (m := w.heap.size + 1 + 1) (o := 0) (by omega) (.int .i64 P)).far (m := w.heap.size + 1 + 1) (o := 1) (by omega) (.bool (m.s 0 == 2))).far (m := w.heap.size + 1 + 1) (o := 2) (by omega) (.bool (m.s 0 == 1))).far (m := w.heap.size + 1 + 1) (o := 3) (by omega) (.bool (m.s 1 == 2))).far (m := w.heap.size + 1 + 1) (o := 4) (by omega) (.bool (m.s 1 == 1))).far (m := w.heap.size + 1 + 1) (o := 5) (by omega) (.bool (m.s 2 == 2))).far (m := w.heap.size + 1 + 1) (o := 6) (by omega) (.bool (m.s 2 == 1))).far (m := w.heap.size + 1 + 1) (o := 7) (by omega) (.slice a (Pl.sim C m (3 * P)).es.length c)).set 0 (.int .i64 ((Pl.sim C m (3 * P)).s 0)) (by simp)).set 1 (.int .i64 ((Pl.sim C m (3 * P)).d 0)) (by simp)).set 2 (.int .i64 ((Pl.sim C m (3 * P)).s 1)) (by simp)).set 3 (.int .i64 ((Pl.sim C m (3 * P)).d 1)) (by simp)).set 4 (.int .i64 ((Pl.sim C m (3 * P)).s 2)) (by simp)).set 5 (.int .i64 ((Pl.sim C m (3 * P)).d 2)) (by simp)).drew rfl rfl rfl) rfl ⟨a, c, rfl, ?_, ?_, ?_⟩
      · refine OwnE.row (B := w2.heap.size + 1) (k := c) ?_
        (repeat (first | with_reducible refine OwnE.drew ?_ | (with_reducible refine OwnE.far ?_ (fun b hb => by have := (HRR.out.own.lo b hb).1; have := HRR.out.le; omega))))
        with_reducible exact HRR.out.own
      · intro b hb
        have q1 := (HRR.out.own.lo b hb).1
        have q2 := HRR.out.le
        omega
      · (repeat (first | with_reducible refine Ext.drew ?_ | (with_reducible refine Ext.setCell ?_ (by simp; omega) _)))
        with_reducible exact HRR.out.ext


end Go.Proofs.Ytfignlcplkihpaa
