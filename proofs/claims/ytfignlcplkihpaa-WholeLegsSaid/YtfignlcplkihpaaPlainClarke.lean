/- Plain arithmetic of the three-phase coordinates (chapter 19): what the formulas give, without any program.
   Conditions: the bounds that each lemma names. -/
import Derived.Test.YtfignlcplkihpaaPlain
namespace Go.Proofs.Ytfignlcplkihpaa.Pl

def fa (a b c : Int) : Int := (2 * a - b - c).tdiv 3
def fb (b c : Int) : Int := ((b - c) * 37837).tdiv 65536
def tb (a b : Int) : Int := ((a + 2 * b) * 37837).tdiv 65536
def pb (al be : Int) : Int := (113511 * be - 65536 * al).tdiv 131072
def zr (a b c : Int) : Int := (a + b + c).tdiv 3
def mx3 (a b c : Int) : Int := max a (max b c)
def mn3 (a b c : Int) : Int := min a (min b c)
def sp (al be : Int) : Int := mx3 al (pb al be) (-al - pb al be) - mn3 al (pb al be) (-al - pb al be)

theorem mx3_ge (a b c : Int) : a ≤ mx3 a b c ∧ b ≤ mx3 a b c ∧ c ≤ mx3 a b c ∧ (mx3 a b c = a ∨ mx3 a b c = b ∨ mx3 a b c = c) := by
  unfold mx3; omega
theorem mn3_le (a b c : Int) : mn3 a b c ≤ a ∧ mn3 a b c ≤ b ∧ mn3 a b c ≤ c ∧ (mn3 a b c = a ∨ mn3 a b c = b ∨ mn3 a b c = c) := by
  unfold mn3; omega

theorem fa_common (a b c n : Int) : fa (a + n) (b + n) (c + n) = fa a b c := by
  unfold fa; congr 1; omega
theorem fb_common (b c n : Int) : fb (b + n) (c + n) = fb b c := by
  unfold fb; congr 1; omega
theorem fa_neg (a b c : Int) : fa (-a) (-b) (-c) = -fa a b c := by
  unfold fa; rw [← Int.neg_tdiv]; congr 1; omega
theorem fb_neg (b c : Int) : fb (-b) (-c) = -fb b c := by
  unfold fb; rw [← Int.neg_tdiv]; congr 1; omega
theorem fa_sum (al b : Int) : fa al b (-al - b) = al := by
  unfold fa
  have : 2 * al - b - (-al - b) = 3 * al := by omega
  rw [this]
  exact Int.mul_tdiv_cancel_left _ (by decide)
theorem fb_sum (al b : Int) : fb b (-al - b) = tb al b := by
  unfold fb tb; congr 1; omega

theorem fa_bd (a b c m : Int) (ha : -m ≤ a ∧ a ≤ m) (hb : -m ≤ b ∧ b ≤ m) (hc : -m ≤ c ∧ c ≤ m) : -(2 * m) ≤ fa a b c ∧ fa a b c ≤ 2 * m := by
  have := td (2 * a - b - c) 3 (by omega)
  unfold fa; omega
theorem fb_bd (b c m : Int) (hb : -m ≤ b ∧ b ≤ m) (hc : -m ≤ c ∧ c ≤ m) : -(2 * m) ≤ fb b c ∧ fb b c ≤ 2 * m := by
  have := td ((b - c) * 37837) 65536 (by omega)
  unfold fb; omega
theorem tb_bd (a b m : Int) (ha : -m ≤ a ∧ a ≤ m) (hb : -m ≤ b ∧ b ≤ m) : -(2 * m) ≤ tb a b ∧ tb a b ≤ 2 * m := by
  have := td ((a + 2 * b) * 37837) 65536 (by omega)
  unfold tb; omega
theorem zr_bd (a b c m : Int) (ha : -m ≤ a ∧ a ≤ m) (hb : -m ≤ b ∧ b ≤ m) (hc : -m ≤ c ∧ c ≤ m) : -m ≤ zr a b c ∧ zr a b c ≤ m := by
  have := td (a + b + c) 3 (by omega)
  unfold zr; omega

/-- The second phase is within twice the greater coordinate. -/
theorem pb_bd (al be m : Int) (ha : -m ≤ al ∧ al ≤ m) (hb : -m ≤ be ∧ be ≤ m) : -(2 * m) ≤ pb al be ∧ pb al be ≤ 2 * m := by
  have := td (113511 * be - 65536 * al) 131072 (by omega)
  unfold pb; omega

theorem sp_bd (al be m : Int) (ha : -m ≤ al ∧ al ≤ m) (hb : -m ≤ be ∧ be ≤ m) : 0 ≤ sp al be ∧ sp al be ≤ 6 * m := by
  have := pb_bd al be m ha hb
  have h1 := mx3_ge al (pb al be) (-al - pb al be)
  have h2 := mn3_le al (pb al be) (-al - pb al be)
  unfold sp; omega

/-- There and back: beta to within 2 and a 20000th. -/
theorem there (al be : Int) : fb (pb al be) (-al - pb al be) - be ≤ 2 + (max be (-be)).tdiv 20000 ∧ -(2 + (max be (-be)).tdiv 20000) ≤ fb (pb al be) (-al - pb al be) - be := by
  have h1 := td (113511 * be - 65536 * al) 131072 (by omega)
  have h2 := td ((pb al be - (-al - pb al be)) * 37837) 65536 (by omega)
  have h3 := td (max be (-be)) 20000 (by omega)
  unfold fb
  unfold pb at h2 ⊢
  omega

/-- Phases there and back: the second phase to within 4 and a 10000th of the greatest. -/
theorem back (a b M : Int) (h1 : -M ≤ a ∧ a ≤ M) (h2 : -M ≤ b ∧ b ≤ M) (h3 : -M ≤ a + b ∧ a + b ≤ M) :
    10000 * (pb a (fb b (-a - b)) - b) ≤ 40000 + M ∧ -(40000 + M) ≤ 10000 * (pb a (fb b (-a - b)) - b) := by
  have e1 := td ((b - (-a - b)) * 37837) 65536 (by omega)
  have e2 := td (113511 * fb b (-a - b) - 65536 * a) 131072 (by omega)
  unfold pb
  unfold fb at e2 ⊢
  omega

theorem fb_signs (b c : Int) : (fb b c > 0 → b > c) ∧ (fb b c < 0 → b < c) ∧ (b - c ≥ 2 → fb b c > 0) ∧ (c - b ≥ 2 → fb b c < 0) := by
  have e1 := td ((b - c) * 37837) 65536 (by omega)
  unfold fb
  omega

/-- The span is the greatest difference of two phases. -/
theorem sp_eq (x y z : Int) : mx3 x y z - mn3 x y z = max (x - y) (max (y - x) (max (y - z) (max (z - y) (max (x - z) (z - x))))) := by
  unfold mx3 mn3; omega

/-- Three numbers of which two are moved by d: the span moves by at most 2 d. -/
theorem sp_near (x y z y' z' d : Int) (h1 : -d ≤ y' - y ∧ y' - y ≤ d) (h2 : -d ≤ z' - z ∧ z' - z ≤ d) (hd : 0 ≤ d) :
    (mx3 x y' z' - mn3 x y' z') - (mx3 x y z - mn3 x y z) ≤ 2 * d ∧ -(2 * d) ≤ (mx3 x y' z' - mn3 x y' z') - (mx3 x y z - mn3 x y z) := by
  unfold mx3 mn3; omega

theorem sp_ge (x y z M : Int) (hs : x + y + z = 0) (hM : M = x ∨ M = -x ∨ M = y ∨ M = -y ∨ M = z ∨ M = -z) : M ≤ mx3 x y z - mn3 x y z := by
  have h1 := mx3_ge x y z
  have h2 := mn3_le x y z
  omega

/-- The span of the cyclic neighbour is the same to within 8 and a 5000th. -/
theorem sp_cyc (x y : Int) : sp (pb x y) (fb (-x - pb x y) x) - sp x y ≤ 8 + (sp x y).tdiv 5000 ∧ sp x y - sp (pb x y) (fb (-x - pb x y) x) ≤ 8 + (sp x y).tdiv 5000 := by
  obtain ⟨b, hb⟩ : ∃ b, b = pb x y := ⟨_, rfl⟩
  obtain ⟨M, hM⟩ : ∃ M, M = max (max (max x (-x)) (max b (-b))) (max (x + b) (-(x + b))) := ⟨_, rfl⟩
  have hM1 : M = x ∨ M = -x ∨ M = b ∨ M = -b ∨ M = (-x - b) ∨ M = -(-x - b) := by omega
  have hge := sp_ge x b (-x - b) M (by omega) hM1
  have hbk := back b (-x - b) M (by omega) (by omega) (by omega)
  have e : -b - (-x - b) = x := by omega
  rw [e] at hbk
  obtain ⟨p, hp⟩ : ∃ p, p = pb b (fb (-x - b) x) := ⟨_, rfl⟩
  rw [← hp] at hbk
  have hn := sp_near b (-x - b) x p (-b - p) (max (p - (-x - b)) (-(p - (-x - b)))) (by omega) (by omega) (by omega)
  have hr1 : mx3 b (-x - b) x = mx3 x b (-x - b) := by unfold mx3; omega
  have hr2 : mn3 b (-x - b) x = mn3 x b (-x - b) := by unfold mn3; omega
  rw [hr1, hr2] at hn
  have hs1 : sp x y = mx3 x b (-x - b) - mn3 x b (-x - b) := by unfold sp; rw [← hb]
  have hs2 : sp (pb x y) (fb (-x - pb x y) x) = mx3 b p (-b - p) - mn3 b p (-b - p) := by unfold sp; rw [← hb, ← hp]
  rw [hs2, hs1]
  have ht := td_pos (a := mx3 x b (-x - b) - mn3 x b (-x - b)) (d := 5000) (by omega) (by omega)
  omega

end Go.Proofs.Ytfignlcplkihpaa.Pl
