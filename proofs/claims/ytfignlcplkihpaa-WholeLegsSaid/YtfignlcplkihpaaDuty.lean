/- The contracts of vector.floor and vector.Duty, each walked once.
   Conditions: the bounds that each names. -/
import Derived.Test.YtfignlcplkihpaaVector
namespace Go.Proofs.Ytfignlcplkihpaa
open Go.ChangeShapes Go.WideShapes Go.ChangeAt Go.RowKit

theorem floor_any (a b : Int) (w : World) (hb : 0 < b) (h1 : -1152921504606846976 ≤ a) (h2 : a ≤ 1152921504606846976) :
    Calls Try.prog 21 #[.int .i64 a, .int .i64 b] w fun e w' => e = .returned (.int .i64 (a / b)) ∧ w = w' := by
  rcases Int.lt_or_le a 0 with ha | ha
  · have ⟨f1, f2, f3, f4, f5⟩ := Pl.floor_neg ha hb
    have ⟨g1, g2, g3⟩ := Pl.td_neg (a := a) (d := b) (by omega) hb
    have g4 : -1152921504606846976 ≤ a.tdiv b := by
      have := Int.mul_le_mul_of_nonneg_right (show 1 ≤ b by omega) (show 0 ≤ -(a.tdiv b) by omega)
      rw [Int.one_mul, Int.mul_neg] at this
      omega
    by_cases hr : a.tmod b < 0
    · have e := f1 hr
      rw [← e]
      clear f1 f2 f5 e
      go_enter Try.func21, Try.ntmps21
      go_wp2
      go_ret
      exact ⟨rfl, rfl⟩
    · have e := f2 (by omega)
      rw [← e]
      clear f1 f2 f5 e
      have hr' : 0 ≤ a.tmod b := by omega
      clear hr
      go_enter Try.func21, Try.ntmps21
      go_wp2
      go_ret
      exact ⟨rfl, rfl⟩
  · have ⟨f1, f2⟩ := Pl.floor_nn ha hb
    have g0 := Int.ediv_nonneg ha (show 0 ≤ b by omega)
    have g4 : a / b ≤ 1152921504606846976 := by
      have := Int.ediv_le_self b ha
      omega
    clear f1
    go_enter Try.func21, Try.ntmps21
    go_wp2
    go_ret
    exact ⟨rfl, rfl⟩

/-- Counts, and whether one was limited, as a value. -/
def dutyV (c0 c1 c2 : Int) (l : Bool) : Value := .agg #[.int .i64 c0, .int .i64 c1, .int .i64 c2, .bool l]
def i64 (n : Int) : Value := .int .i64 n

/-- Behind k rounds of Duty's loop. -/
def DRel (w : World) (B8 B13 : Nat) (c0 c1 c2 : Int) (l0 l1 l2 : Bool) (i : Value) (wr : World) : Prop :=
  ((i = .int .i64 0 ∧ Blk wr B13 [.int .i64 0, .int .i64 0, .int .i64 0, .bool false]) ∨
   (i = .int .i64 1 ∧ Blk wr B13 [.int .i64 c0, .int .i64 0, .int .i64 0, .bool l0]) ∨
   (i = .int .i64 2 ∧ Blk wr B13 [.int .i64 c0, .int .i64 c1, .int .i64 0, .bool (l0 || l1)]) ∨
   (i = .int .i64 3 ∧ Blk wr B13 [.int .i64 c0, .int .i64 c1, .int .i64 c2, .bool (l0 || l1 || l2)])) ∧
  Blk wr B8 [.int .i64 0, .int .i64 0, .int .i64 0, .bool false] ∧ Ext w wr

def DutyOK (x y link period : Int) : Prop := LinkOK link ∧ PerOK period ∧ VoltOK x ∧ VoltOK y
/-- The three counts ahead of their limits. -/
def dms (x y : Int) : Int := Pl.ms x (Pl.pb x y) (-x - Pl.pb x y)
def d0 (x y link period : Int) : Int := Pl.dn period link x (dms x y)
def d1 (x y link period : Int) : Int := Pl.dn period link (Pl.pb x y) (dms x y)
def d2 (x y link period : Int) : Int := Pl.dn period link (-x - Pl.pb x y) (dms x y)
def dutyOf (x y link period : Int) : Value :=
  dutyV (Pl.cn period (d0 x y link period)) (Pl.cn period (d1 x y link period)) (Pl.cn period (d2 x y link period))
    (Pl.lm period (d0 x y link period) || Pl.lm period (d1 x y link period) || Pl.lm period (d2 x y link period))

theorem duty_ret {W : World} {n : Nat} {u0 u1 u2 u3 e : Value} {tmps : Array Value} (Z : Blk W n [u0, u1, u2, u3]) (h : tmps[8]? = some (.pointer (some ⟨n, 0, none⟩))) (h9 : tmps[9]? = some e) :
    (results Try.f9 tmps).run Try.prog W = .ok (.tuple #[.agg #[u0, u1, u2, u3], e]) W := by
  have z0 := Z.at 0 _ rfl
  have z1 := Z.at 1 _ rfl
  have z2 := Z.at 2 _ rfl
  have z3 := Z.at 3 _ rfl
  simp [results, Try.results9, go_sem, z0, z1, z2, z3, h, h9]

end Go.Proofs.Ytfignlcplkihpaa
