/- Plain arithmetic of duty counts (chapter 21), without any program.
   Conditions: the bounds that each lemma names. -/
import Derived.Test.YtfignlcplkihpaaPlainClarke
namespace Go.Proofs.Ytfignlcplkihpaa.Pl

/-- Rounding down, by the truncated quotient and its rest. -/
theorem floor_nn {a b : Int} (ha : 0 ≤ a) (hb : 0 < b) : a.tdiv b = a / b ∧ 0 ≤ a % b := ⟨Int.tdiv_eq_ediv_of_nonneg ha, Int.emod_nonneg a (by omega)⟩
theorem floor_neg {a b : Int} (ha : a < 0) (hb : 0 < b) :
    (a.tmod b < 0 → a.tdiv b - 1 = a / b) ∧ (a.tmod b = 0 → a.tdiv b = a / b) ∧ a.tmod b ≤ 0 ∧ -b < a.tmod b ∧ a = b * a.tdiv b + a.tmod b := by
  have h1 := Int.mul_tdiv_add_tmod a b
  have h2 := td_neg (a := a) (d := b) (by omega) hb
  refine ⟨fun h => ?_, fun h => ?_, by omega, by omega, by omega⟩
  · have e : a = (a.tmod b + b) + b * (a.tdiv b - 1) := by rw [Int.mul_sub, Int.mul_one]; omega
    have e2 : ((a.tmod b + b) + b * (a.tdiv b - 1)) / b = (a.tmod b + b) / b + (a.tdiv b - 1) := Int.add_mul_ediv_left _ _ (by omega)
    have e3 : (a.tmod b + b) / b = 0 := Int.ediv_eq_zero_of_lt (by omega) (by omega)
    rw [e3, Int.zero_add, ← e] at e2
    exact e2.symm
  · have e : a = b * a.tdiv b := by omega
    have e2 : (b * a.tdiv b) / b = a.tdiv b := Int.mul_ediv_cancel_left _ (by omega)
    rw [← e] at e2; exact e2.symm

/-- A count ahead of its limits; the count; whether it was limited. -/
def dn (period link x s : Int) : Int := (period * (link + 2 * x - s)) / (2 * link)
def cn (period n : Int) : Int := max 0 (min n period)
def lm (period n : Int) : Bool := cn period n != n
/-- The greatest and the least phase together. -/
def ms (v0 v1 v2 : Int) : Int := max v0 (max v1 v2) + min v0 (min v1 v2)

/-- A product with a period is within the bounds of the machine's words. -/
theorem per_bd (period z m : Int) (hp : 0 ≤ period ∧ period ≤ 4096) (hz : -m ≤ z ∧ z ≤ m) : -(4096 * m) ≤ period * z ∧ period * z ≤ 4096 * m := by
  rcases Int.le_total 0 z with h | h
  · have a := Int.mul_le_mul_of_nonneg_right hp.2 h
    have b := Int.mul_nonneg hp.1 h
    omega
  · have a := Int.mul_le_mul_of_nonneg_right hp.2 (show 0 ≤ -z by omega)
    have b := Int.mul_nonneg hp.1 (show 0 ≤ -z by omega)
    rw [Int.mul_neg] at a b
    omega

end Go.Proofs.Ytfignlcplkihpaa.Pl
