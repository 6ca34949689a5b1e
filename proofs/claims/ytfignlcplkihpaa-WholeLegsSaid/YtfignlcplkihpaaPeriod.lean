/- One period: Run, Safe and Times together, and what the law asks of them.
   Conditions: what is given is in its ranges. -/
import Derived.Test.YtfignlcplkihpaaTimes
import Derived.Test.YtfignlcplkihpaaPlainLegs
namespace Go.Proofs.Ytfignlcplkihpaa
open Go.ChangeShapes Go.WideShapes Go.ChangeAt Go.RowKit

def tri (a b c : Int) : Nat → Int
  | 0 => a
  | 1 => b
  | _ => c
/-- What the law asks of a leg. -/
def LegF (P D tr f g on lo no s : Int) : Prop :=
  on ≤ g - f ∧ (tr = P → g - f - D ≤ on) ∧ on + lo + no = P ∧ (tr < P → s = 0) ∧ (0 ≤ on ∧ on ≤ 4096) ∧ (0 ≤ lo ∧ lo ≤ 4096) ∧ (0 ≤ no ∧ no ≤ 4096) ∧ (0 ≤ f ∧ f ≤ g ∧ g ≤ P)
theorem period (m : Pl.Sim) (hb : Pl.Beg m) (P : Nat) (hP : PerOK P) (D tr f0 g0 f1 g1 f2 g2 : Int) (hD : 1 ≤ D ∧ D ≤ 1024) (htr : 0 ≤ tr ∧ tr ≤ P) (l0 : 0 ≤ f0 ∧ f0 ≤ g0 ∧ g0 ≤ P) (l1 : 0 ≤ f1 ∧ f1 ≤ g1 ∧ g1 ≤ P) (l2 : 0 ≤ f2 ∧ f2 ≤ g2 ∧ g2 ≤ P) :
    ∃ (N : Pl.Sim) (es : List Pl.Ed) (q0 q1 q2 q3 q4 q5 : Bool) (n02 n01 n00 n12 n11 n10 n22 n21 n20 : Int), Pl.Beg N ∧
      (∀ V, Calls Try.prog 11 #[.agg #[.int .i64 (m.s 0), .int .i64 (m.d 0), .int .i64 (m.s 1), .int .i64 (m.d 1), .int .i64 (m.s 2), .int .i64 (m.d 2)], .agg #[.int .i64 f0, .int .i64 g0, .int .i64 f1, .int .i64 g1, .int .i64 f2, .int .i64 g2], .int .i64 P, .int .i64 D, .int .i64 tr] V fun e w' => ∃ a k, e = .returned (.tuple #[.agg #[.int .i64 P, .bool q0, .bool q1, .bool q2, .bool q3, .bool q4, .bool q5, .slice a es.length k], .agg #[.int .i64 (N.s 0), .int .i64 (N.d 0), .int .i64 (N.s 1), .int .i64 (N.d 1), .int .i64 (N.s 2), .int .i64 (N.d 2)], .nilIface]) ∧ RowE w' a es ∧ Ext V w') ∧
      (∀ a k V, RowE V a es → Calls Try.prog 12 #[.agg #[.int .i64 (m.s 0), .int .i64 (m.d 0), .int .i64 (m.s 1), .int .i64 (m.d 1), .int .i64 (m.s 2), .int .i64 (m.d 2)], .agg #[.int .i64 P, .bool q0, .bool q1, .bool q2, .bool q3, .bool q4, .bool q5, .slice a es.length k], .int .i64 D] V fun e w' => e = .returned (.tuple #[.bool true, .agg #[.int .i64 (N.s 0), .int .i64 (N.d 0), .int .i64 (N.s 1), .int .i64 (N.d 1), .int .i64 (N.s 2), .int .i64 (N.d 2)], .nilIface]) ∧ Ext V w') ∧
      (∀ a k V, RowE V a es → Calls Try.prog 13 #[.agg #[.int .i64 P, .bool q0, .bool q1, .bool q2, .bool q3, .bool q4, .bool q5, .slice a es.length k]] V fun e w' => e = .returned (.tuple #[.agg #[.int .i64 n02, .int .i64 n01, .int .i64 n00, .int .i64 n12, .int .i64 n11, .int .i64 n10, .int .i64 n22, .int .i64 n21, .int .i64 n20], .nilIface]) ∧ Ext V w') ∧
      LegF P D tr f0 g0 n02 n01 n00 (N.s 0) ∧ LegF P D tr f1 g1 n12 n11 n10 (N.s 1) ∧ LegF P D tr f2 g2 n22 n21 n20 (N.s 2) := by
  obtain ⟨C, hC⟩ : ∃ C : Pl.GC, C = ⟨tri f0 f1 f2, tri g0 g1 g2, D, tr⟩ := ⟨_, rfl⟩
  have hl : ∀ i, i < 3 → 0 ≤ C.f i ∧ C.f i ≤ C.g i ∧ C.g i ≤ P := fun i hi => by
    rw [hC]
    match i, hi with
    | 0, _ => exact l0
    | 1, _ => exact l1
    | 2, _ => exact l2
  have ok : RunOK C m P := ⟨hb, hP, by rw [hC]; exact hD, by rw [hC]; exact htr, hl⟩
  have lf : ∀ i, i < 3 → LegF P D tr (C.f i) (C.g i) (Pl.cnt C m i 2 P) (Pl.cnt C m i 1 P) (Pl.cnt C m i 0 P) ((Pl.sim C m (3 * P)).s i) := fun i hi => by
    have eD : C.dead = D := by rw [hC]
    have eT : C.trip = tr := by rw [hC]
    have h := Pl.leg_law C hb P (by have := hP.1; omega) ok.dead.1 ok.dead.2 hi (hl i hi).1 (hl i hi).2.1 (hl i hi).2.2
    rw [eD, eT] at h
    have p2 := hP.2
    have a2 := Pl.cnt_nonneg C m i 2 P
    have a1 := Pl.cnt_nonneg C m i 1 P
    have a0 := Pl.cnt_nonneg C m i 0 P
    have b2 := Pl.cnt_le C m i 2 P
    have b1 := Pl.cnt_le C m i 1 P
    have b0 := Pl.cnt_le C m i 0 P
    exact ⟨h.1, h.2.1, h.2.2.1, h.2.2.2, ⟨a2, by omega⟩, ⟨a1, by omega⟩, ⟨a0, by omega⟩, hl i hi⟩
  have r := fun V => run_any C m P V ok
  have s := fun a k V hr => safe_any C m P a k V ok hr
  have t := fun a k V hr => times_any C m P a k V ok hr
  have e0 : C.f 0 = f0 ∧ C.g 0 = g0 ∧ C.f 1 = f1 ∧ C.g 1 = g1 ∧ C.f 2 = f2 ∧ C.g 2 = g2 ∧ C.dead = D ∧ C.trip = tr := by rw [hC]; exact ⟨rfl, rfl, rfl, rfl, rfl, rfl, rfl, rfl⟩
  obtain ⟨e1, e2, e3, e4, e5, e6, e7, e8⟩ := e0
  have lf0 := lf 0 (by omega)
  have lf1 := lf 1 (by omega)
  have lf2 := lf 2 (by omega)
  rw [e1, e2] at lf0
  rw [e3, e4] at lf1
  rw [e5, e6] at lf2
  rw [e1, e2, e3, e4, e5, e6, e7, e8] at r
  rw [e7] at s
  refine ⟨Pl.nextOf C m P, (Pl.sim C m (3 * P)).es, (m.s 0 == 2), (m.s 0 == 1), (m.s 1 == 2), (m.s 1 == 1), (m.s 2 == 2), (m.s 2 == 1), Pl.cnt C m 0 2 P, Pl.cnt C m 0 1 P, Pl.cnt C m 0 0 P, Pl.cnt C m 1 2 P, Pl.cnt C m 1 1 P, Pl.cnt C m 1 0 P, Pl.cnt C m 2 2 P, Pl.cnt C m 2 1 P, Pl.cnt C m 2 0 P, Pl.next_beg C hb P, fun V => (r V).mono ?_, s, t, lf0, lf1, lf2⟩
  rintro e w' ⟨a, k, h1, h2, _, h3⟩
  exact ⟨a, k, h1, h2, h3⟩

end Go.Proofs.Ytfignlcplkihpaa
