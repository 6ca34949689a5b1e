/- The contract of pattern.Make.
   Conditions: what it is given is in its ranges. -/
import Derived.Test.YtfignlcplkihpaaVector
namespace Go.Proofs.Ytfignlcplkihpaa
open Go.ChangeShapes Go.WideShapes Go.ChangeAt Go.RowKit

theorem pwithin_t (n lo hi : Int) (w : World) (h1 : lo ≤ n) (h2 : n ≤ hi) :
    Calls Try.prog 23 #[.int .i64 n, .int .i64 lo, .int .i64 hi] w fun e w' => e = .returned (.bool true) ∧ w = w' := by
  go_enter Try.func23, Try.ntmps23
  go_wp2
  go_ret
  exact ⟨(by first | rfl | exact ret_true (by simp <;> omega)), rfl⟩
theorem pisPeriod_t (x : Int) (w : World) (h : PerOK x) :
    Calls Try.prog 38 #[.int .i64 x] w fun e w' => e = .returned (.bool true) ∧ Ext w w' := by
  go_enter Try.func38, Try.ntmps38
  go_wp2_with fail
  refine (pwithin_t _ _ _ _ h.1 h.2).mono ?_
  rintro e w1 ⟨rfl, rfl⟩
  go_wp2_with fail
  go_ret
  exact ⟨rfl, (by repeat (first | with_reducible exact Ext.refl _ | with_reducible assumption | (with_reducible refine Ext.drew ?_) | (with_reducible refine Ext.drewN ?_ _) | (with_reducible refine Ext.alloc ?_ _) | (with_reducible refine Ext.setCell ?_ ?_ _) | (with_reducible refine Ext.trans ?_ (by with_reducible assumption)) | omega | (focus (simp <;> omega))))⟩
theorem pranges_t (p l : Int) (w : World) (h : PerOK p) (l1 : 1 ≤ l) (l2 : l ≤ p / 4) :
    Calls Try.prog 22 #[.int .i64 p, .int .i64 l] w fun e w' => e = .returned .nilIface ∧ Ext w w' := by
  have ⟨p1, p2⟩ := h
  have dq : p.tdiv 4 = p / 4 := Int.tdiv_eq_ediv_of_nonneg (by omega)
  have wq : IntKind.i64.wrap (p / 4) = p / 4 := IntWalk.i64_in _ (by omega)
  have HP := Lib.hid h
  clear h
  obtain ⟨q, hq⟩ : ∃ q, q = p / 4 := ⟨_, rfl⟩
  rw [← hq] at dq wq l2
  clear hq
  go_enter Try.func22, Try.ntmps22
  go_wp2_with fail
  refine (pisPeriod_t _ _ HP.out).mono ?_
  rintro e w1 ⟨rfl, hx1⟩
  go_wp2_with fail
  refine (pwithin_t _ _ _ _ l1 l2).mono ?_
  rintro e w2 ⟨rfl, rfl⟩
  go_wp2_with fail
  go_ret
  exact ⟨rfl, (by repeat (first | with_reducible exact Ext.refl _ | with_reducible assumption | (with_reducible refine Ext.drew ?_) | (with_reducible refine Ext.drewN ?_ _) | (with_reducible refine Ext.alloc ?_ _) | (with_reducible refine Ext.setCell ?_ ?_ _) | (with_reducible refine Ext.trans ?_ (by with_reducible assumption)) | omega | (focus (simp <;> omega))))⟩
/-- The leg of a count. -/
def pf (d P mn : Int) : Int := if d < mn then 0 else if P - 2 * mn < d then 0 else (P - d) / 2
def pg (d P mn : Int) : Int := if d < mn then 0 else if P - 2 * mn < d then P else (P - d) / 2 + d
theorem pulse_bd {d P mn : Int} (m1 : 1 ≤ mn) (d0 : 0 ≤ d) (d1 : d ≤ P) : 0 ≤ pf d P mn ∧ pf d P mn ≤ pg d P mn ∧ pg d P mn ≤ P := by
  unfold pf pg
  split
  · omega
  · split <;> omega
set_option linter.unusedSimpArgs false in
set_option maxRecDepth 100000 in
set_option maxHeartbeats 1000000 in
theorem pulse_any (d P mn : Int) (w : World) (hp : PerOK P) (m1 : 1 ≤ mn) (m2 : mn ≤ P / 4) (d0 : 0 ≤ d) (d1 : d ≤ P) :
    Calls Try.prog 24 #[.int .i64 d, .int .i64 P, .int .i64 mn] w fun e w' => e = .returned (.agg #[.int .i64 (pf d P mn), .int .i64 (pg d P mn)]) ∧ Ext w w' := by
  have ⟨p1, p2⟩ := hp
  have w1 : IntKind.i64.wrap (2 * mn) = 2 * mn := IntWalk.i64_in _ (by omega)
  have w2 : IntKind.i64.wrap (P - 2 * mn) = P - 2 * mn := IntWalk.i64_in _ (by omega)
  have w3 : IntKind.i64.wrap (P - d) = P - d := IntWalk.i64_in _ (by omega)
  have w4 : (P - d).tdiv 2 = (P - d) / 2 := Int.tdiv_eq_ediv_of_nonneg (by omega)
  have w5 : IntKind.i64.wrap ((P - d) / 2) = (P - d) / 2 := IntWalk.i64_in _ (by omega)
  have w6 : IntKind.i64.wrap ((P - d) / 2 + d) = (P - d) / 2 + d := IntWalk.i64_in _ (by omega)
  unfold pf pg
  by_cases h : d < mn
  · rw [if_pos h, if_pos h]
    go_enter Try.func24, Try.ntmps24
    go_wp2
    go_returns
    exact ⟨rfl, (by repeat (first | with_reducible exact Ext.refl _ | with_reducible assumption | (with_reducible refine Ext.drew ?_) | (with_reducible refine Ext.drewN ?_ _) | (with_reducible refine Ext.alloc ?_ _) | (with_reducible refine Ext.setCell ?_ ?_ _) | (with_reducible refine Ext.trans ?_ (by with_reducible assumption)) | omega | (focus (simp <;> omega))))⟩
  · have h' : mn ≤ d := by omega
    rw [if_neg h, if_neg h]
    by_cases h2 : P - 2 * mn < d
    · rw [if_pos h2, if_pos h2]
      clear h
      go_enter Try.func24, Try.ntmps24
      go_wp2
      go_returns
      exact ⟨rfl, (by repeat (first | with_reducible exact Ext.refl _ | with_reducible assumption | (with_reducible refine Ext.drew ?_) | (with_reducible refine Ext.drewN ?_ _) | (with_reducible refine Ext.alloc ?_ _) | (with_reducible refine Ext.setCell ?_ ?_ _) | (with_reducible refine Ext.trans ?_ (by with_reducible assumption)) | omega | (focus (simp <;> omega))))⟩
    · have h2' : d ≤ P - 2 * mn := by omega
      rw [if_neg h2, if_neg h2]
      clear h h2
      obtain ⟨f, hf⟩ : ∃ f, f = (P - d) / 2 := ⟨_, rfl⟩
      rw [← hf] at w4 w5 w6 ⊢
      clear hf
      go_enter Try.func24, Try.ntmps24
      go_wp2
      go_returns
      exact ⟨rfl, (by repeat (first | with_reducible exact Ext.refl _ | with_reducible assumption | (with_reducible refine Ext.drew ?_) | (with_reducible refine Ext.drewN ?_ _) | (with_reducible refine Ext.alloc ?_ _) | (with_reducible refine Ext.setCell ?_ ?_ _) | (with_reducible refine Ext.trans ?_ (by with_reducible assumption)) | omega | (focus (simp <;> omega))))⟩
theorem make_ret {W : World} {n : Nat} {u0 u1 u2 u3 u4 u5 e : Value} {tmps : Array Value} (Z : Blk W n [u0, u1, u2, u3, u4, u5]) (h : tmps[6]? = some (.pointer (some ⟨n, 0, none⟩))) (h2 : tmps[7]? = some e) :
    (results Try.f10 tmps).run Try.prog W = .ok (.tuple #[.agg #[u0, u1, u2, u3, u4, u5], e]) W := by
  have z0 := Z.at 0 _ rfl
  have z1 := Z.at 1 _ rfl
  have z2 := Z.at 2 _ rfl
  have z3 := Z.at 3 _ rfl
  have z4 := Z.at 4 _ rfl
  have z5 := Z.at 5 _ rfl
  simp [results, Try.results10, go_sem, h, h2, z0, z1, z2, z3, z4, z5]
set_option linter.unusedSimpArgs false in
set_option maxRecDepth 100000 in
set_option maxHeartbeats 1000000 in
theorem make_any (c0 c1 c2 P mn : Int) (w : World) (hp : PerOK P) (m1 : 1 ≤ mn) (m2 : mn ≤ P / 4) (h0 : 0 ≤ c0 ∧ c0 ≤ P) (h1 : 0 ≤ c1 ∧ c1 ≤ P) (h2 : 0 ≤ c2 ∧ c2 ≤ P) :
    Calls Try.prog 10 #[.agg #[.int .i64 c0, .int .i64 c1, .int .i64 c2], .int .i64 P, .int .i64 mn] w fun e w' => e = .returned (.tuple #[.agg #[.int .i64 (pf c0 P mn), .int .i64 (pg c0 P mn), .int .i64 (pf c1 P mn), .int .i64 (pg c1 P mn), .int .i64 (pf c2 P mn), .int .i64 (pg c2 P mn)], .nilIface]) ∧ Ext w w' := by
  have HP := Lib.hid hp
  have HM := Lib.hid m2
  have ⟨a1, a2⟩ := h0
  have ⟨b1, b2⟩ := h1
  have ⟨d1, d2⟩ := h2
  have K0 := Lib.hid (fun V => pulse_any c0 P mn V hp m1 m2 a1 a2)
  have K1 := Lib.hid (fun V => pulse_any c1 P mn V hp m1 m2 b1 b2)
  have K2 := Lib.hid (fun V => pulse_any c2 P mn V hp m1 m2 d1 d2)
  have M1 := Lib.hid m1
  generalize pf c0 P mn = f0 at *
  generalize pg c0 P mn = g0 at *
  generalize pf c1 P mn = f1 at *
  generalize pg c1 P mn = g1 at *
  generalize pf c2 P mn = f2 at *
  generalize pg c2 P mn = g2 at *
  clear hp m2 h0 h1 h2
  have wl0 : IntKind.i64.wrap 0 = 0 := by decide
  have wl1 : IntKind.i64.wrap 1 = 1 := by decide
  have wl2 : IntKind.i64.wrap 2 = 2 := by decide
  have ix30 : ∀ w, (Instr.index 38 (.agg #[.int .i64 c0, .int .i64 c1, .int .i64 c2]) (.int .i64 0)).run Try.prog w = .ok (.int .i64 c0) w := fun _ => by kernel_rfl
  have ix31 : ∀ w, (Instr.index 38 (.agg #[.int .i64 c0, .int .i64 c1, .int .i64 c2]) (.int .i64 1)).run Try.prog w = .ok (.int .i64 c1) w := fun _ => by kernel_rfl
  have ix32 : ∀ w, (Instr.index 38 (.agg #[.int .i64 c0, .int .i64 c1, .int .i64 c2]) (.int .i64 2)).run Try.prog w = .ok (.int .i64 c2) w := fun _ => by kernel_rfl
  have A := Blk.new w [.int .i64 c0, .int .i64 c1, .int .i64 c2] 38
  have A := A.alloc (.cells #[.int .i64 0, .int .i64 0, .int .i64 0, .int .i64 0, .int .i64 0, .int .i64 0] 45)
  have Z := Blk.new (w.alloc (.cells #[.int .i64 c0, .int .i64 c1, .int .i64 c2] 38)) [.int .i64 0, .int .i64 0, .int .i64 0, .int .i64 0, .int .i64 0, .int .i64 0] 45
  rw [show (w.alloc (.cells #[.int .i64 c0, .int .i64 c1, .int .i64 c2] 38)).heap.size = w.heap.size + 1 by simp] at Z
  have E : Ext w ((w.alloc (.cells #[.int .i64 c0, .int .i64 c1, .int .i64 c2] 38)).alloc (.cells #[.int .i64 0, .int .i64 0, .int .i64 0, .int .i64 0, .int .i64 0, .int .i64 0] 45)) := ((Ext.refl w).alloc _).alloc _
  go_enter Try.func10, Try.ntmps10
  go_wp2_with fail
  refine (pranges_t _ _ _ HP.out M1.out HM.out).mono ?_
  rintro e v1 ⟨rfl, hx1⟩
  have A := A.ext hx1
  have Z := Z.ext hx1
  have E := E.trans hx1
  have q0 := A.at 0 _ rfl
  have q1 := A.at 1 _ rfl
  have q2 := A.at 2 _ rfl
  have ql := A.lt
  have qf := A.fr
  go_wp2_with fail
  refine wp_loop_rounds 4 ?_
  rw [rounds_succ]
  go_wp2_with fail
  refine (pwithin_t _ _ _ _ a1 a2).mono ?_
  rintro e v2 ⟨rfl, rfl⟩
  go_wp2_with fail
  rw [rounds_succ]
  go_wp2_with fail
  refine (pwithin_t _ _ _ _ b1 b2).mono ?_
  rintro e v2 ⟨rfl, rfl⟩
  go_wp2_with fail
  rw [rounds_succ]
  go_wp2_with fail
  refine (pwithin_t _ _ _ _ d1 d2).mono ?_
  rintro e v2 ⟨rfl, rfl⟩
  go_wp2_with fail
  rw [rounds_succ]
  go_wp2_with fail
  refine wp_loop_rounds 4 ?_
  rw [rounds_succ]
  have O : Blk (v1.alloc (.cells #[.int .i64 0, .int .i64 0, .int .i64 0, .int .i64 0, .int .i64 0, .int .i64 0] 45)) v1.heap.size [.int .i64 0, .int .i64 0, .int .i64 0, .int .i64 0, .int .i64 0, .int .i64 0] := Blk.new v1 [.int .i64 0, .int .i64 0, .int .i64 0, .int .i64 0, .int .i64 0, .int .i64 0] 45
  have Z := Z.alloc (.cells #[.int .i64 0, .int .i64 0, .int .i64 0, .int .i64 0, .int .i64 0, .int .i64 0] 45)
  have E := E.alloc (.cells #[.int .i64 0, .int .i64 0, .int .i64 0, .int .i64 0, .int .i64 0, .int .i64 0] 45)
  have hz := Z.lt
  clear q0 q1 q2 ql qf A
  go_wp2_with fail
  refine (K0.out _).mono ?_
  rintro e u0 ⟨rfl, hu0⟩
  have O := O.ext hu0
  have Z := Z.ext hu0
  have E := E.trans hu0
  have o0 := O.at 0 _ rfl
  have o1 := O.at 1 _ rfl
  have of := O.fr
  have ol := O.lt
  have zl := Z.lt
  go_wp2_with fail
  have O := (O.set 0 (.int .i64 f0) (by simp)).set 1 (.int .i64 g0) (by simp)
  have hne : v1.heap.size ≠ w.heap.size + 1 := by have := hx1.size; simp at this; omega
  have Z := (Z.far (m := v1.heap.size) (o := 0) hne (.int .i64 f0)).far (m := v1.heap.size) (o := 1) hne (.int .i64 g0)
  have hle : w.heap.size ≤ v1.heap.size := by have := hx1.size; simp at this; omega
  have E := (E.setCell (p := ⟨v1.heap.size, 0, none⟩) hle (.int .i64 f0)).setCell (p := ⟨v1.heap.size, 1, none⟩) hle (.int .i64 g0)
  clear o0 o1 of ol zl hne hle
  rw [rounds_succ]
  go_wp2_with fail
  refine (K1.out _).mono ?_
  rintro e u1 ⟨rfl, hu1⟩
  have O := O.ext hu1
  have Z := Z.ext hu1
  have E := E.trans hu1
  have o0 := O.at 2 _ rfl
  have o1 := O.at 3 _ rfl
  have of := O.fr
  have ol := O.lt
  have zl := Z.lt
  go_wp2_with fail
  have O := (O.set 2 (.int .i64 f1) (by simp)).set 3 (.int .i64 g1) (by simp)
  have hne : v1.heap.size ≠ w.heap.size + 1 := by have := hx1.size; simp at this; omega
  have Z := (Z.far (m := v1.heap.size) (o := 2) hne (.int .i64 f1)).far (m := v1.heap.size) (o := 3) hne (.int .i64 g1)
  have hle : w.heap.size ≤ v1.heap.size := by have := hx1.size; simp at this; omega
  have E := (E.setCell (p := ⟨v1.heap.size, 2, none⟩) hle (.int .i64 f1)).setCell (p := ⟨v1.heap.size, 3, none⟩) hle (.int .i64 g1)
  clear o0 o1 of ol zl hne hle
  rw [rounds_succ]
  go_wp2_with fail
  refine (K2.out _).mono ?_
  rintro e u2 ⟨rfl, hu2⟩
  have O := O.ext hu2
  have Z := Z.ext hu2
  have E := E.trans hu2
  have o0 := O.at 4 _ rfl
  have o1 := O.at 5 _ rfl
  have of := O.fr
  have ol := O.lt
  have zl := Z.lt
  go_wp2_with fail
  have O := (O.set 4 (.int .i64 f2) (by simp)).set 5 (.int .i64 g2) (by simp)
  have hne : v1.heap.size ≠ w.heap.size + 1 := by have := hx1.size; simp at this; omega
  have Z := (Z.far (m := v1.heap.size) (o := 4) hne (.int .i64 f2)).far (m := v1.heap.size) (o := 5) hne (.int .i64 g2)
  have hle : w.heap.size ≤ v1.heap.size := by have := hx1.size; simp at this; omega
  have E := (E.setCell (p := ⟨v1.heap.size, 4, none⟩) hle (.int .i64 f2)).setCell (p := ⟨v1.heap.size, 5, none⟩) hle (.int .i64 g2)
  clear o0 o1 of ol zl hne hle
  rw [rounds_succ]
  have o0 := O.at 0 _ rfl
  have o1 := O.at 1 _ rfl
  have o2 := O.at 2 _ rfl
  have o3 := O.at 3 _ rfl
  have o4 := O.at 4 _ rfl
  have o5 := O.at 5 _ rfl
  have ol := O.lt
  have of := O.fr
  have z0 := Z.at 0 _ rfl
  have z1 := Z.at 1 _ rfl
  have z2 := Z.at 2 _ rfl
  have z3 := Z.at 3 _ rfl
  have z4 := Z.at 4 _ rfl
  have z5 := Z.at 5 _ rfl
  have zl := Z.lt
  have zf := Z.fr
  go_wp2_with fail
  refine bodyPost_ret (make_ret ((((((Z.set 0 (.int .i64 f0) (by simp)).set 1 (.int .i64 g0) (by simp)).set 2 (.int .i64 f1) (by simp)).set 3 (.int .i64 g1) (by simp)).set 4 (.int .i64 f2) (by simp)).set 5 (.int .i64 g2) (by simp)) rfl rfl) rfl ⟨rfl, ?_⟩
  exact ((((((E.setCell (by simp) _).setCell (by simp) _).setCell (by simp) _).setCell (by simp) _).setCell (by simp) _).setCell (by simp) _)

end Go.Proofs.Ytfignlcplkihpaa
