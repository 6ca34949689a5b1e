/- What the law of the legs asks of a period, in plain numbers; the state behind it.
   Conditions: none beyond each lemma's own. -/
import Derived.Test.YtfignlcplkihpaaPlainGates
namespace Go.Proofs.Ytfignlcplkihpaa.Pl

theorem leg_law (C : GC) {m : Sim} (hb : Beg m) (P : Nat) (p1 : 1 ≤ P) (d1 : 1 ≤ C.dead) (d2 : C.dead ≤ 1024) {i : Nat} (hi : i < 3) (f0 : 0 ≤ C.f i) (fg : C.f i ≤ C.g i) (gP : C.g i ≤ P) :
    cnt C m i 2 P ≤ C.g i - C.f i ∧ (C.trip = P → C.g i - C.f i - C.dead ≤ cnt C m i 2 P) ∧ cnt C m i 2 P + cnt C m i 1 P + cnt C m i 0 P = P ∧ (C.trip < P → (sim C m (3 * P)).s i = 0) := by
  refine ⟨?_, fun ht => ?_, cnt_sum C hb hi P, fun ht => ?_⟩
  · have := cnt_hi C m hi f0 fg P
    omega
  · obtain ⟨F, hF⟩ : ∃ F : Nat, C.f i = F := ⟨(C.f i).toNat, by omega⟩
    obtain ⟨j, hj⟩ : ∃ j : Nat, C.g i - C.f i = j := ⟨(C.g i - C.f i).toNat, by omega⟩
    have h1 := (cnt_lo C hb hi P (by omega) d1 d2 F hF j (by omega) (by omega)).1
    have h2 := cnt_mono C m i 2 (show F + j ≤ P by omega)
    omega
  · obtain ⟨q, rfl⟩ : ∃ q, P = q + 1 := ⟨P - 1, by omega⟩
    exact tripped C m q hi (by omega)
/-- The state with which the next period begins. -/
def nextOf (C : GC) (m : Sim) (P : Nat) : Sim := ⟨(sim C m (3 * P)).s, (sim C m (3 * P)).d, fun i => -(sim C m (3 * P)).d i, []⟩
theorem next_beg (C : GC) {m : Sim} (hb : Beg m) (P : Nat) : Beg (nextOf C m P) := by
  have v := inv C hb (3 * P)
  exact ⟨v.s, fun i hi => by have := v.d i hi; exact ⟨this.1, by show (sim C m (3 * P)).d i ≤ 4096; omega⟩, fun _ _ => rfl, rfl⟩
/-- All off, for long. -/
def fresh : Sim := ⟨fun _ => 0, fun _ => 4096, fun _ => -4096, []⟩
theorem fresh_beg : Beg fresh := ⟨fun _ _ => by show (0 : Int) ≤ 0 ∧ (0 : Int) ≤ 2; decide, fun _ _ => by show (0 : Int) ≤ 4096 ∧ (4096 : Int) ≤ 4096; decide, fun _ _ => rfl, rfl⟩

end Go.Proofs.Ytfignlcplkihpaa.Pl
