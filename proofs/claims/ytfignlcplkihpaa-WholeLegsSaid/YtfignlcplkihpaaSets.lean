/- A whole block is stored, cell by cell: the block itself, other blocks, rows of edges, Ext.
   Conditions: each lemma's own. -/
import Derived.Test.YtfignlcplkihpaaGates
namespace Go.Proofs.Ytfignlcplkihpaa
open Go.ChangeShapes Go.WideShapes Go.ChangeAt Go.RowKit

theorem RowE.far {w : World} {a : Option Addr} {es : List Pl.Ed} {n : Nat} (h : RowE w a es) (hne : es ≠ [] → ∀ x, ab a = some x → x ≠ n) (o : Nat) (v : Value) : RowE (w.setCell ⟨n, o, none⟩ v) a es := fun h0 => by
  obtain ⟨b, off, rfl, hb, hc⟩ := h h0
  have ne : n ≠ b := fun e => hne h0 b rfl e.symm
  exact ⟨b, off, rfl, by rw [setCell_size]; exact hb, fun j e hj => ⟨cell_st ne (hc j e hj).1, cell_st ne (hc j e hj).2.1, cell_st ne (hc j e hj).2.2⟩⟩
theorem RowE.drew {w : World} {a : Option Addr} {es : List Pl.Ed} (h : RowE w a es) : RowE w.drew a es := h
theorem RowE.new {w : World} {a : Option Addr} {es : List Pl.Ed} (h : RowE w a es) : es ≠ [] → ∀ x, ab a = some x → x ≠ w.heap.size := fun h0 x hx => by
  obtain ⟨b, off, rfl, hb, _⟩ := h h0
  have e : b = x := by simpa [ab] using hx
  omega
theorem RowE.old {w : World} {a : Option Addr} {es : List Pl.Ed} {n : Nat} (h : RowE w a es) (hn : w.heap.size ≤ n) : es ≠ [] → ∀ x, ab a = some x → x ≠ n := fun h0 x hx => by
  obtain ⟨b, off, rfl, hb, _⟩ := h h0
  have e : b = x := by simpa [ab] using hx
  omega
theorem set6 {W : World} {n : Nat} {z0 z1 z2 z3 z4 z5 : Value} (X : Blk W n [z0, z1, z2, z3, z4, z5]) (u0 u1 u2 u3 u4 u5 : Value) : Blk ((((((W.setCell ⟨n, 0, none⟩ u0).setCell ⟨n, 1, none⟩ u1).setCell ⟨n, 2, none⟩ u2).setCell ⟨n, 3, none⟩ u3).setCell ⟨n, 4, none⟩ u4).setCell ⟨n, 5, none⟩ u5) n [u0, u1, u2, u3, u4, u5] := by
  have X1 : Blk (W.setCell ⟨n, 0, none⟩ u0) n [u0, z1, z2, z3, z4, z5] := X.set 0 u0 (by simp)
  have X2 : Blk ((W.setCell ⟨n, 0, none⟩ u0).setCell ⟨n, 1, none⟩ u1) n [u0, u1, z2, z3, z4, z5] := X1.set 1 u1 (by simp)
  have X3 : Blk (((W.setCell ⟨n, 0, none⟩ u0).setCell ⟨n, 1, none⟩ u1).setCell ⟨n, 2, none⟩ u2) n [u0, u1, u2, z3, z4, z5] := X2.set 2 u2 (by simp)
  have X4 : Blk ((((W.setCell ⟨n, 0, none⟩ u0).setCell ⟨n, 1, none⟩ u1).setCell ⟨n, 2, none⟩ u2).setCell ⟨n, 3, none⟩ u3) n [u0, u1, u2, u3, z4, z5] := X3.set 3 u3 (by simp)
  have X5 : Blk (((((W.setCell ⟨n, 0, none⟩ u0).setCell ⟨n, 1, none⟩ u1).setCell ⟨n, 2, none⟩ u2).setCell ⟨n, 3, none⟩ u3).setCell ⟨n, 4, none⟩ u4) n [u0, u1, u2, u3, u4, z5] := X4.set 4 u4 (by simp)
  have X6 : Blk ((((((W.setCell ⟨n, 0, none⟩ u0).setCell ⟨n, 1, none⟩ u1).setCell ⟨n, 2, none⟩ u2).setCell ⟨n, 3, none⟩ u3).setCell ⟨n, 4, none⟩ u4).setCell ⟨n, 5, none⟩ u5) n [u0, u1, u2, u3, u4, u5] := X5.set 5 u5 (by simp)
  exact X6
theorem far6 {W : World} {n m : Nat} {us : List Value} (X : Blk W n us) (h : m ≠ n) (u0 u1 u2 u3 u4 u5 : Value) : Blk ((((((W.setCell ⟨m, 0, none⟩ u0).setCell ⟨m, 1, none⟩ u1).setCell ⟨m, 2, none⟩ u2).setCell ⟨m, 3, none⟩ u3).setCell ⟨m, 4, none⟩ u4).setCell ⟨m, 5, none⟩ u5) n us := by
  have X1 := X.far (o := 0) h u0
  have X2 := X1.far (o := 1) h u1
  have X3 := X2.far (o := 2) h u2
  have X4 := X3.far (o := 3) h u3
  have X5 := X4.far (o := 4) h u4
  have X6 := X5.far (o := 5) h u5
  exact X6
theorem ext6 {w W : World} {n : Nat} (E : Ext w W) (h : w.heap.size ≤ n) (u0 u1 u2 u3 u4 u5 : Value) : Ext w ((((((W.setCell ⟨n, 0, none⟩ u0).setCell ⟨n, 1, none⟩ u1).setCell ⟨n, 2, none⟩ u2).setCell ⟨n, 3, none⟩ u3).setCell ⟨n, 4, none⟩ u4).setCell ⟨n, 5, none⟩ u5) := by
  have E1 := E.setCell (p := ⟨n, 0, none⟩) h u0
  have E2 := E1.setCell (p := ⟨n, 1, none⟩) h u1
  have E3 := E2.setCell (p := ⟨n, 2, none⟩) h u2
  have E4 := E3.setCell (p := ⟨n, 3, none⟩) h u3
  have E5 := E4.setCell (p := ⟨n, 4, none⟩) h u4
  have E6 := E5.setCell (p := ⟨n, 5, none⟩) h u5
  exact E6
theorem row6 {W : World} {n : Nat} {a : Option Addr} {es : List Pl.Ed} (R : RowE W a es) (h : es ≠ [] → ∀ x, ab a = some x → x ≠ n) (u0 u1 u2 u3 u4 u5 : Value) : RowE ((((((W.setCell ⟨n, 0, none⟩ u0).setCell ⟨n, 1, none⟩ u1).setCell ⟨n, 2, none⟩ u2).setCell ⟨n, 3, none⟩ u3).setCell ⟨n, 4, none⟩ u4).setCell ⟨n, 5, none⟩ u5) a es := by
  have R1 := R.far h 0 u0
  have R2 := R1.far h 1 u1
  have R3 := R2.far h 2 u2
  have R4 := R3.far h 3 u3
  have R5 := R4.far h 4 u4
  have R6 := R5.far h 5 u5
  exact R6
theorem set8 {W : World} {n : Nat} {z0 z1 z2 z3 z4 z5 z6 z7 : Value} (X : Blk W n [z0, z1, z2, z3, z4, z5, z6, z7]) (u0 u1 u2 u3 u4 u5 u6 u7 : Value) : Blk ((((((((W.setCell ⟨n, 0, none⟩ u0).setCell ⟨n, 1, none⟩ u1).setCell ⟨n, 2, none⟩ u2).setCell ⟨n, 3, none⟩ u3).setCell ⟨n, 4, none⟩ u4).setCell ⟨n, 5, none⟩ u5).setCell ⟨n, 6, none⟩ u6).setCell ⟨n, 7, none⟩ u7) n [u0, u1, u2, u3, u4, u5, u6, u7] := by
  have X1 : Blk (W.setCell ⟨n, 0, none⟩ u0) n [u0, z1, z2, z3, z4, z5, z6, z7] := X.set 0 u0 (by simp)
  have X2 : Blk ((W.setCell ⟨n, 0, none⟩ u0).setCell ⟨n, 1, none⟩ u1) n [u0, u1, z2, z3, z4, z5, z6, z7] := X1.set 1 u1 (by simp)
  have X3 : Blk (((W.setCell ⟨n, 0, none⟩ u0).setCell ⟨n, 1, none⟩ u1).setCell ⟨n, 2, none⟩ u2) n [u0, u1, u2, z3, z4, z5, z6, z7] := X2.set 2 u2 (by simp)
  have X4 : Blk ((((W.setCell ⟨n, 0, none⟩ u0).setCell ⟨n, 1, none⟩ u1).setCell ⟨n, 2, none⟩ u2).setCell ⟨n, 3, none⟩ u3) n [u0, u1, u2, u3, z4, z5, z6, z7] := X3.set 3 u3 (by simp)
  have X5 : Blk (((((W.setCell ⟨n, 0, none⟩ u0).setCell ⟨n, 1, none⟩ u1).setCell ⟨n, 2, none⟩ u2).setCell ⟨n, 3, none⟩ u3).setCell ⟨n, 4, none⟩ u4) n [u0, u1, u2, u3, u4, z5, z6, z7] := X4.set 4 u4 (by simp)
  have X6 : Blk ((((((W.setCell ⟨n, 0, none⟩ u0).setCell ⟨n, 1, none⟩ u1).setCell ⟨n, 2, none⟩ u2).setCell ⟨n, 3, none⟩ u3).setCell ⟨n, 4, none⟩ u4).setCell ⟨n, 5, none⟩ u5) n [u0, u1, u2, u3, u4, u5, z6, z7] := X5.set 5 u5 (by simp)
  have X7 : Blk (((((((W.setCell ⟨n, 0, none⟩ u0).setCell ⟨n, 1, none⟩ u1).setCell ⟨n, 2, none⟩ u2).setCell ⟨n, 3, none⟩ u3).setCell ⟨n, 4, none⟩ u4).setCell ⟨n, 5, none⟩ u5).setCell ⟨n, 6, none⟩ u6) n [u0, u1, u2, u3, u4, u5, u6, z7] := X6.set 6 u6 (by simp)
  have X8 : Blk ((((((((W.setCell ⟨n, 0, none⟩ u0).setCell ⟨n, 1, none⟩ u1).setCell ⟨n, 2, none⟩ u2).setCell ⟨n, 3, none⟩ u3).setCell ⟨n, 4, none⟩ u4).setCell ⟨n, 5, none⟩ u5).setCell ⟨n, 6, none⟩ u6).setCell ⟨n, 7, none⟩ u7) n [u0, u1, u2, u3, u4, u5, u6, u7] := X7.set 7 u7 (by simp)
  exact X8
theorem far8 {W : World} {n m : Nat} {us : List Value} (X : Blk W n us) (h : m ≠ n) (u0 u1 u2 u3 u4 u5 u6 u7 : Value) : Blk ((((((((W.setCell ⟨m, 0, none⟩ u0).setCell ⟨m, 1, none⟩ u1).setCell ⟨m, 2, none⟩ u2).setCell ⟨m, 3, none⟩ u3).setCell ⟨m, 4, none⟩ u4).setCell ⟨m, 5, none⟩ u5).setCell ⟨m, 6, none⟩ u6).setCell ⟨m, 7, none⟩ u7) n us := by
  have X1 := X.far (o := 0) h u0
  have X2 := X1.far (o := 1) h u1
  have X3 := X2.far (o := 2) h u2
  have X4 := X3.far (o := 3) h u3
  have X5 := X4.far (o := 4) h u4
  have X6 := X5.far (o := 5) h u5
  have X7 := X6.far (o := 6) h u6
  have X8 := X7.far (o := 7) h u7
  exact X8
theorem ext8 {w W : World} {n : Nat} (E : Ext w W) (h : w.heap.size ≤ n) (u0 u1 u2 u3 u4 u5 u6 u7 : Value) : Ext w ((((((((W.setCell ⟨n, 0, none⟩ u0).setCell ⟨n, 1, none⟩ u1).setCell ⟨n, 2, none⟩ u2).setCell ⟨n, 3, none⟩ u3).setCell ⟨n, 4, none⟩ u4).setCell ⟨n, 5, none⟩ u5).setCell ⟨n, 6, none⟩ u6).setCell ⟨n, 7, none⟩ u7) := by
  have E1 := E.setCell (p := ⟨n, 0, none⟩) h u0
  have E2 := E1.setCell (p := ⟨n, 1, none⟩) h u1
  have E3 := E2.setCell (p := ⟨n, 2, none⟩) h u2
  have E4 := E3.setCell (p := ⟨n, 3, none⟩) h u3
  have E5 := E4.setCell (p := ⟨n, 4, none⟩) h u4
  have E6 := E5.setCell (p := ⟨n, 5, none⟩) h u5
  have E7 := E6.setCell (p := ⟨n, 6, none⟩) h u6
  have E8 := E7.setCell (p := ⟨n, 7, none⟩) h u7
  exact E8
theorem row8 {W : World} {n : Nat} {a : Option Addr} {es : List Pl.Ed} (R : RowE W a es) (h : es ≠ [] → ∀ x, ab a = some x → x ≠ n) (u0 u1 u2 u3 u4 u5 u6 u7 : Value) : RowE ((((((((W.setCell ⟨n, 0, none⟩ u0).setCell ⟨n, 1, none⟩ u1).setCell ⟨n, 2, none⟩ u2).setCell ⟨n, 3, none⟩ u3).setCell ⟨n, 4, none⟩ u4).setCell ⟨n, 5, none⟩ u5).setCell ⟨n, 6, none⟩ u6).setCell ⟨n, 7, none⟩ u7) a es := by
  have R1 := R.far h 0 u0
  have R2 := R1.far h 1 u1
  have R3 := R2.far h 2 u2
  have R4 := R3.far h 3 u3
  have R5 := R4.far h 4 u4
  have R6 := R5.far h 5 u5
  have R7 := R6.far h 6 u6
  have R8 := R7.far h 7 u7
  exact R8
theorem set9 {W : World} {n : Nat} {z0 z1 z2 z3 z4 z5 z6 z7 z8 : Value} (X : Blk W n [z0, z1, z2, z3, z4, z5, z6, z7, z8]) (u0 u1 u2 u3 u4 u5 u6 u7 u8 : Value) : Blk (((((((((W.setCell ⟨n, 0, none⟩ u0).setCell ⟨n, 1, none⟩ u1).setCell ⟨n, 2, none⟩ u2).setCell ⟨n, 3, none⟩ u3).setCell ⟨n, 4, none⟩ u4).setCell ⟨n, 5, none⟩ u5).setCell ⟨n, 6, none⟩ u6).setCell ⟨n, 7, none⟩ u7).setCell ⟨n, 8, none⟩ u8) n [u0, u1, u2, u3, u4, u5, u6, u7, u8] := by
  have X1 : Blk (W.setCell ⟨n, 0, none⟩ u0) n [u0, z1, z2, z3, z4, z5, z6, z7, z8] := X.set 0 u0 (by simp)
  have X2 : Blk ((W.setCell ⟨n, 0, none⟩ u0).setCell ⟨n, 1, none⟩ u1) n [u0, u1, z2, z3, z4, z5, z6, z7, z8] := X1.set 1 u1 (by simp)
  have X3 : Blk (((W.setCell ⟨n, 0, none⟩ u0).setCell ⟨n, 1, none⟩ u1).setCell ⟨n, 2, none⟩ u2) n [u0, u1, u2, z3, z4, z5, z6, z7, z8] := X2.set 2 u2 (by simp)
  have X4 : Blk ((((W.setCell ⟨n, 0, none⟩ u0).setCell ⟨n, 1, none⟩ u1).setCell ⟨n, 2, none⟩ u2).setCell ⟨n, 3, none⟩ u3) n [u0, u1, u2, u3, z4, z5, z6, z7, z8] := X3.set 3 u3 (by simp)
  have X5 : Blk (((((W.setCell ⟨n, 0, none⟩ u0).setCell ⟨n, 1, none⟩ u1).setCell ⟨n, 2, none⟩ u2).setCell ⟨n, 3, none⟩ u3).setCell ⟨n, 4, none⟩ u4) n [u0, u1, u2, u3, u4, z5, z6, z7, z8] := X4.set 4 u4 (by simp)
  have X6 : Blk ((((((W.setCell ⟨n, 0, none⟩ u0).setCell ⟨n, 1, none⟩ u1).setCell ⟨n, 2, none⟩ u2).setCell ⟨n, 3, none⟩ u3).setCell ⟨n, 4, none⟩ u4).setCell ⟨n, 5, none⟩ u5) n [u0, u1, u2, u3, u4, u5, z6, z7, z8] := X5.set 5 u5 (by simp)
  have X7 : Blk (((((((W.setCell ⟨n, 0, none⟩ u0).setCell ⟨n, 1, none⟩ u1).setCell ⟨n, 2, none⟩ u2).setCell ⟨n, 3, none⟩ u3).setCell ⟨n, 4, none⟩ u4).setCell ⟨n, 5, none⟩ u5).setCell ⟨n, 6, none⟩ u6) n [u0, u1, u2, u3, u4, u5, u6, z7, z8] := X6.set 6 u6 (by simp)
  have X8 : Blk ((((((((W.setCell ⟨n, 0, none⟩ u0).setCell ⟨n, 1, none⟩ u1).setCell ⟨n, 2, none⟩ u2).setCell ⟨n, 3, none⟩ u3).setCell ⟨n, 4, none⟩ u4).setCell ⟨n, 5, none⟩ u5).setCell ⟨n, 6, none⟩ u6).setCell ⟨n, 7, none⟩ u7) n [u0, u1, u2, u3, u4, u5, u6, u7, z8] := X7.set 7 u7 (by simp)
  have X9 : Blk (((((((((W.setCell ⟨n, 0, none⟩ u0).setCell ⟨n, 1, none⟩ u1).setCell ⟨n, 2, none⟩ u2).setCell ⟨n, 3, none⟩ u3).setCell ⟨n, 4, none⟩ u4).setCell ⟨n, 5, none⟩ u5).setCell ⟨n, 6, none⟩ u6).setCell ⟨n, 7, none⟩ u7).setCell ⟨n, 8, none⟩ u8) n [u0, u1, u2, u3, u4, u5, u6, u7, u8] := X8.set 8 u8 (by simp)
  exact X9
theorem far9 {W : World} {n m : Nat} {us : List Value} (X : Blk W n us) (h : m ≠ n) (u0 u1 u2 u3 u4 u5 u6 u7 u8 : Value) : Blk (((((((((W.setCell ⟨m, 0, none⟩ u0).setCell ⟨m, 1, none⟩ u1).setCell ⟨m, 2, none⟩ u2).setCell ⟨m, 3, none⟩ u3).setCell ⟨m, 4, none⟩ u4).setCell ⟨m, 5, none⟩ u5).setCell ⟨m, 6, none⟩ u6).setCell ⟨m, 7, none⟩ u7).setCell ⟨m, 8, none⟩ u8) n us := by
  have X1 := X.far (o := 0) h u0
  have X2 := X1.far (o := 1) h u1
  have X3 := X2.far (o := 2) h u2
  have X4 := X3.far (o := 3) h u3
  have X5 := X4.far (o := 4) h u4
  have X6 := X5.far (o := 5) h u5
  have X7 := X6.far (o := 6) h u6
  have X8 := X7.far (o := 7) h u7
  have X9 := X8.far (o := 8) h u8
  exact X9
theorem ext9 {w W : World} {n : Nat} (E : Ext w W) (h : w.heap.size ≤ n) (u0 u1 u2 u3 u4 u5 u6 u7 u8 : Value) : Ext w (((((((((W.setCell ⟨n, 0, none⟩ u0).setCell ⟨n, 1, none⟩ u1).setCell ⟨n, 2, none⟩ u2).setCell ⟨n, 3, none⟩ u3).setCell ⟨n, 4, none⟩ u4).setCell ⟨n, 5, none⟩ u5).setCell ⟨n, 6, none⟩ u6).setCell ⟨n, 7, none⟩ u7).setCell ⟨n, 8, none⟩ u8) := by
  have E1 := E.setCell (p := ⟨n, 0, none⟩) h u0
  have E2 := E1.setCell (p := ⟨n, 1, none⟩) h u1
  have E3 := E2.setCell (p := ⟨n, 2, none⟩) h u2
  have E4 := E3.setCell (p := ⟨n, 3, none⟩) h u3
  have E5 := E4.setCell (p := ⟨n, 4, none⟩) h u4
  have E6 := E5.setCell (p := ⟨n, 5, none⟩) h u5
  have E7 := E6.setCell (p := ⟨n, 6, none⟩) h u6
  have E8 := E7.setCell (p := ⟨n, 7, none⟩) h u7
  have E9 := E8.setCell (p := ⟨n, 8, none⟩) h u8
  exact E9
theorem row9 {W : World} {n : Nat} {a : Option Addr} {es : List Pl.Ed} (R : RowE W a es) (h : es ≠ [] → ∀ x, ab a = some x → x ≠ n) (u0 u1 u2 u3 u4 u5 u6 u7 u8 : Value) : RowE (((((((((W.setCell ⟨n, 0, none⟩ u0).setCell ⟨n, 1, none⟩ u1).setCell ⟨n, 2, none⟩ u2).setCell ⟨n, 3, none⟩ u3).setCell ⟨n, 4, none⟩ u4).setCell ⟨n, 5, none⟩ u5).setCell ⟨n, 6, none⟩ u6).setCell ⟨n, 7, none⟩ u7).setCell ⟨n, 8, none⟩ u8) a es := by
  have R1 := R.far h 0 u0
  have R2 := R1.far h 1 u1
  have R3 := R2.far h 2 u2
  have R4 := R3.far h 3 u3
  have R5 := R4.far h 4 u4
  have R6 := R5.far h 5 u5
  have R7 := R6.far h 6 u6
  have R8 := R7.far h 7 u7
  have R9 := R8.far h 8 u8
  exact R9

end Go.Proofs.Ytfignlcplkihpaa
