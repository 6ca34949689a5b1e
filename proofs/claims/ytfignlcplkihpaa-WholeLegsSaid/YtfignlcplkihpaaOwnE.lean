/- Slices of edges that the call itself makes.
   Conditions: none beyond each lemma's own. -/
import Derived.Test.YtfignlcplkihpaaBlk
import Derived.Test.YtfignlcplkihpaaPlainGates
import Derived.WalkKit
import Derived.Deep.AppendLies
namespace Go.Proofs.Ytfignlcplkihpaa
open Go.ChangeShapes Go.WideShapes Go.ChangeAt Go.RowKit

theorem infoE : (Try.prog.info? 78).map (fun i => (i.zero, i.size, i.bytes)) = some (some (.agg #[.int .i64 0, .int .i64 0, .bool false]), 3, 24) := by kernel_rfl

/-- The cells of edges. -/
def ecells : List Pl.Ed → List Value
  | [] => []
  | e :: r => .int .i64 e.a :: .int .i64 e.s :: .bool e.o :: ecells r
theorem ecells_len : ∀ es, (ecells es).length = es.length * 3
  | [] => rfl
  | e :: r => by have := ecells_len r; simp only [ecells, List.length_cons]; omega
theorem ecells_app : ∀ es fs, ecells es ++ ecells fs = ecells (es ++ fs)
  | [], _ => rfl
  | e :: r, fs => by simp only [ecells, List.cons_append, ecells_app r fs]
theorem ecells_at : ∀ (es : List Pl.Ed) (j : Nat) (e : Pl.Ed), es[j]? = some e → (ecells es)[j * 3]? = some (.int .i64 e.a) ∧ (ecells es)[j * 3 + 1]? = some (.int .i64 e.s) ∧ (ecells es)[j * 3 + 2]? = some (.bool e.o)
  | [], _, _, h => by cases h
  | x :: r, 0, e, h => by cases h; exact ⟨rfl, rfl, rfl⟩
  | x :: r, j + 1, e, h => by
    have h' : r[j]? = some e := h
    have ⟨a, b, c⟩ := ecells_at r j e h'
    have e1 : (j + 1) * 3 = j * 3 + 1 + 1 + 1 := by omega
    have e2 : (j + 1) * 3 + 1 = j * 3 + 1 + 1 + 1 + 1 := by omega
    have e3 : (j + 1) * 3 + 2 = j * 3 + 2 + 1 + 1 + 1 := by omega
    rw [e2, e3, e1]
    exact ⟨a, b, c⟩
theorem ecells_one : ∀ es, ∀ u ∈ ecells es, u.oneCell' = true
  | [], u, h => by cases h
  | e :: r, u, h => by
    rcases List.mem_cons.1 h with rfl | h
    · rfl
    · rcases List.mem_cons.1 h with rfl | h
      · rfl
      · rcases List.mem_cons.1 h with rfl | h
        · rfl
        · exact ecells_one r u h
/-- A slice of edges reads as the list es. -/
def RowE (w : World) (a : Option Addr) (es : List Pl.Ed) : Prop :=
  es ≠ [] → ∃ b off, a = some ⟨b, off, none⟩ ∧ b < w.heap.size ∧ ∀ j e, es[j]? = some e → w.cell? ⟨b, off + j * 3, none⟩ = some (.int .i64 e.a) ∧ w.cell? ⟨b, off + j * 3 + 1, none⟩ = some (.int .i64 e.s) ∧ w.cell? ⟨b, off + j * 3 + 2, none⟩ = some (.bool e.o)
theorem RowE.ext {w w' : World} {a : Option Addr} {es : List Pl.Ed} (h : RowE w a es) (hx : Ext w w') : RowE w' a es := fun h0 => by
  obtain ⟨b, off, e, hb, hc⟩ := h h0
  exact ⟨b, off, e, Nat.lt_of_lt_of_le hb hx.size, fun j e hj => ⟨(hx.cell hb).trans (hc j e hj).1, (hx.cell hb).trans (hc j e hj).2.1, (hx.cell hb).trans (hc j e hj).2.2⟩⟩

/-- A slice's block. -/
def ab (a : Option Addr) : Option Nat := a.map (·.block)
theorem own_ab (a : Option Addr) (n k : Nat) : (Value.slice a n k).ownBlock = ab a := by cases a <;> rfl
theorem ab_or {a : Option Addr} {r : Option Nat} (h : ∀ b, ab a = some b → r = some b → False) : ab a = none ∨ ab a ≠ r := by
  cases e : ab a with
  | none => exact .inl rfl
  | some b => exact .inr (fun e2 => h b e e2.symm)
structure OwnE (w : World) (B : Nat) (a : Option Addr) (k : Nat) (es : List Pl.Ed) : Prop where
  own : w.ownsRow 0 78 3 (.slice a es.length k) es.length (ecells es)
  lo : ∀ b, ab a = some b → B ≤ b ∧ b < w.heap.size
theorem OwnE.nil (w : World) (B : Nat) : OwnE w B none 0 [] := ⟨World.ownsRow_nil _ _ _ _, fun b h => by cases h⟩
theorem OwnE.grown {w w' : World} {B k : Nat} {a : Option Addr} {es : List Pl.Ed} {r : Option Nat} (h : OwnE w B a k es) (hg : w.grownBy w' r) (hne : ab a = none ∨ ab a ≠ r) : OwnE w' B a k es :=
  ⟨h.own.kept hg (by rw [own_ab]; exact hne), fun b hb => ⟨(h.lo b hb).1, Nat.lt_of_lt_of_le (h.lo b hb).2 hg.size⟩⟩
theorem OwnE.ext {w w' : World} {B k : Nat} {a : Option Addr} {es : List Pl.Ed} (h : OwnE w B a k es) (hx : Ext w w') : OwnE w' B a k es :=
  h.grown (r := none) ⟨hx.os, hx.tape, hx.output, hx.size, fun j hj _ => hx.block j hj⟩ (by cases ab a <;> simp)
theorem OwnE.far {w : World} {B k m o : Nat} {a : Option Addr} {es : List Pl.Ed} {v : Value} (h : OwnE w B a k es) (hne : ∀ b, ab a = some b → b ≠ m) : OwnE (w.setCell ⟨m, o, none⟩ v) B a k es := by
  refine h.grown (r := some m) ⟨rfl, rfl, rfl, by rw [setCell_size]; exact Nat.le_refl _, fun j _ hj => Below.heap_setCell w ⟨m, o, none⟩ v j (fun e => hj (by rw [e]))⟩ ?_
  cases hb : ab a with
  | none => exact .inl rfl
  | some b => exact .inr (fun e => hne b hb (Option.some.inj e))
theorem OwnE.alloc {w : World} {B k : Nat} {a : Option Addr} {es : List Pl.Ed} (h : OwnE w B a k es) (o : Obj) : OwnE (w.alloc o) B a k es := h.ext ((Ext.refl w).alloc o)
theorem OwnE.drew {w : World} {B k : Nat} {a : Option Addr} {es : List Pl.Ed} (h : OwnE w B a k es) : OwnE w.drew B a k es := ⟨h.own, h.lo⟩
theorem OwnE.drewN {w : World} {B k : Nat} {a : Option Addr} {es : List Pl.Ed} (h : OwnE w B a k es) (m : Nat) : OwnE (w.drewN m) B a k es := ⟨h.own, h.lo⟩
theorem OwnE.row {w : World} {B k : Nat} {a : Option Addr} {es : List Pl.Ed} (h : OwnE w B a k es) : RowE w a es := fun h0 => by
  have hl : 0 < es.length := List.length_pos_iff.2 h0
  obtain ⟨g, c, e, _, hlt⟩ := h.own.form hl
  injection e with e1 e2 e3
  subst e1
  refine ⟨g, 0, rfl, hlt, fun j e hj => ?_⟩
  have hadd : ∀ q, (⟨g, 0, none⟩ : Addr).add q = ⟨g, 0 + q, none⟩ := fun q => by unfold Addr.add; split <;> simp_all
  have ⟨a, b, c⟩ := ecells_at es j e hj
  have ha := h.own.cells (g := g) rfl _ _ a
  have hb := h.own.cells (g := g) rfl _ _ b
  have hc := h.own.cells (g := g) rfl _ _ c
  rw [hadd] at ha hb hc
  exact ⟨ha, by rw [Nat.add_assoc]; exact hb, by rw [Nat.add_assoc]; exact hc⟩
theorem Blk.grown {w w' : World} {n : Nat} {us : List Value} {r : Option Nat} (h : Blk w n us) (hg : w.grownBy w' r) (hne : some n ≠ r) : Blk w' n us :=
  ⟨fun j v hj => (hg.cell_far ⟨n, j, none⟩ h.lt hne).trans (h.at j v hj), fun o => (hg.frozen_far ⟨n, o, none⟩ h.lt hne).trans (h.fr o), Nat.lt_of_lt_of_le h.lt hg.size⟩
theorem Ext.grown {w0 w w' : World} {r : Option Nat} (h : Ext w0 w) (hg : w.grownBy w' r) (hr : ∀ k, r = some k → w0.heap.size ≤ k) : Ext w0 w' := Below.grown h hg h.size hr
theorem cell_al {W : World} {a : Addr} {u : Value} (o : Obj) (h : W.cell? a = some u) : (W.alloc o).cell? a = some u := (World.grownBy_alloc W o none).cell h (by simp)
theorem cell_st {W : World} {n m o o' : Nat} {u v : Value} (hne : n ≠ m) (h : W.cell? ⟨m, o', none⟩ = some u) : (W.setCell ⟨n, o, none⟩ v).cell? ⟨m, o', none⟩ = some u := by
  rw [World.cell?_setCell_other]
  · exact h
  · intro e; injection e with e1; exact hne e1
theorem cell_dr {W : World} {a : Addr} {v : Value} (h : W.cell? a = some v) : W.drew.cell? a = some v := h
theorem eapp_step {ops : Array Oper} {o : Oper} {a : Act} {K : Act → World → Prop} {Q : Exit → Act → World → Prop} {E : Prop} (w : World) (hgd : o.guard = none) (s x : Operand)
    (ho : o.op = .call { callee := .builtin .append, args := #[s, x], argTypes := #[50, 50] })
    {B k : Nat} {sa : Option Addr} {es : List Pl.Ed} (hs : a.eval s = .slice sa es.length k) (h : OwnE w B sa k es) (hB : B ≤ w.heap.size)
    (b : Nat) (c : Nat) (e : Pl.Ed) (hx : a.eval x = .slice (some ⟨b, 0, none⟩) 1 c) (hc : Blk w b [.int .i64 e.a, .int .i64 e.s, .bool e.o])
    (hn : es.length + 1 ≤ 1000000) (H : Nat) (hH : w.heap.size = H)
    (hK : ∀ g k' w', OwnE w' B (some ⟨g, 0, none⟩) k' (es ++ [e]) → w.grownBy w' (ab sa) → (ab sa = some g ∨ g = H) → g < w'.heap.size → K (a.put o.dst (.slice (some ⟨g, 0, none⟩) (es ++ [e]).length k')) w') :
    if Region.wanted o (yielded ops a.tmps) = true then Oper.wp Try.prog o a w K Q else E := by
  have hw : Region.wanted o (yielded ops a.tmps) = true := by simp [Region.wanted, hgd]
  rw [if_pos hw]
  obtain ⟨i0, hi, hz0, hz1, hz2⟩ := info_parts infoE
  have hcl : ∀ (j : Nat) (u : Value), (ecells [e])[j]? = some u → w.cell? ((⟨b, 0, none⟩ : Addr).add j) = some u := fun j u hj => by
    have hadd : (⟨b, 0, none⟩ : Addr).add j = ⟨b, j, none⟩ := by unfold Addr.add; split <;> simp_all
    rw [hadd]
    exact hc.at j u hj
  refine wp_append_lies w s x 50 ho 0 78 i0 (.agg #[.int .i64 0, .int .i64 0, .bool false]) 3 24 Try.underlying50 hi hz0 hz1 hz2 rfl (by decide) _ es.length (ecells es) hs h.own ⟨b, 0, none⟩ 1 c (ecells [e]) hx rfl hcl (ecells_one [e]) (by omega) (by unfold maxLen; omega) (by omega) (Nat.zero_le _) H hH ?_
  intro g cap w' hown hgrow hat hlt
  rw [own_ab] at hgrow hat
  rw [ecells_app] at hown
  have el : (es ++ [e]).length = es.length + 1 := by simp
  rw [← el] at hown ⊢
  refine hK g cap w' ⟨hown, fun b' hb => ?_⟩ hgrow hat hlt
  have eb : b' = g := by cases hb; rfl
  subst eb
  refine ⟨?_, hlt⟩
  rcases hat with q | q
  · exact (h.lo _ q).1
  · omega

end Go.Proofs.Ytfignlcplkihpaa
