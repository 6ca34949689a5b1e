/- The contract of gates.Times on what Run gives.
   Conditions: what Run was given is in its ranges. -/
import Derived.Test.YtfignlcplkihpaaSafe
namespace Go.Proofs.Ytfignlcplkihpaa
open Go.ChangeShapes Go.WideShapes Go.ChangeAt Go.RowKit

def tlist (x y z : Nat → Int) : List Value := [.int .i64 (x 0), .int .i64 (y 0), .int .i64 (z 0), .int .i64 (x 1), .int .i64 (y 1), .int .i64 (z 1), .int .i64 (x 2), .int .i64 (y 2), .int .i64 (z 2)]
theorem tlist_at (x y z : Nat → Int) {i : Nat} (hi : i < 3) : (tlist x y z)[i * 3]? = some (.int .i64 (x i)) ∧ (tlist x y z)[i * 3 + 1]? = some (.int .i64 (y i)) ∧ (tlist x y z)[i * 3 + 2]? = some (.int .i64 (z i)) := by
  match i, hi with
  | 0, _ => exact ⟨rfl, rfl, rfl⟩
  | 1, _ => exact ⟨rfl, rfl, rfl⟩
  | 2, _ => exact ⟨rfl, rfl, rfl⟩
theorem tlist_set (x y z : Nat → Int) {i : Nat} (hi : i < 3) (v : Int) : (tlist x y z).set (i * 3) (.int .i64 v) = tlist (Pl.upd x i v) y z ∧ (tlist x y z).set (i * 3 + 1) (.int .i64 v) = tlist x (Pl.upd y i v) z ∧ (tlist x y z).set (i * 3 + 2) (.int .i64 v) = tlist x y (Pl.upd z i v) := by
  match i, hi with
  | 0, _ => exact ⟨rfl, rfl, rfl⟩
  | 1, _ => exact ⟨rfl, rfl, rfl⟩
  | 2, _ => exact ⟨rfl, rfl, rfl⟩
theorem mx_keep {i : Nat} {f g : Nat → Int} (h : f i = g i) : mx i f g = mx (i + 1) f g := by
  funext j
  unfold mx
  by_cases e : j = i
  · subst e; simp [h]
  · by_cases q : j < i
    · rw [if_pos q, if_pos (by omega)]
    · rw [if_neg q, if_neg (by omega)]
theorem mx_inc {i : Nat} {f g : Nat → Int} (h : f i = g i + 1) : Pl.upd (mx i f g) i (g i + 1) = mx (i + 1) f g := by
  rw [← h]; exact mx_upd1 i f g
theorem mx_at (i : Nat) (f g : Nat → Int) : mx i f g i = g i := by unfold mx; rw [if_neg (Nat.lt_irrefl i)]
/-- The memory of Times. -/
structure TM (w W : World) (B C : Nat) (gl : List Value) (x y z s : Nat → Int) : Prop where
  gt : Blk W w.heap.size gl
  rs : Blk W (w.heap.size + 1) [.int .i64 0, .int .i64 0, .int .i64 0, .int .i64 0, .int .i64 0, .int .i64 0, .int .i64 0, .int .i64 0, .int .i64 0]
  ou : Blk W B (tlist x y z)
  io : Blk W C (onlist s)
  le : w.heap.size + 1 < B
  lt : B < C
  ext : Ext w W
section
variable {w W W' : World} {B C : Nat} {gl : List Value} {x y z s : Nat → Int}
theorem TM.nx (h : TM w W B C gl x y z s) (hx : Ext W W') : TM w W' B C gl x y z s := ⟨h.gt.ext hx, h.rs.ext hx, h.ou.ext hx, h.io.ext hx, h.le, h.lt, h.ext.trans hx⟩
theorem TM.dr (h : TM w W B C gl x y z s) : TM w W.drew B C gl x y z s := h.nx (Ext.refl W).drew
theorem TM.setI (h : TM w W B C gl x y z s) {s' : Nat → Int} {j : Nat} (hj : j < 6) {b : Bool} (e : (onlist s).set j (.bool b) = onlist s') : TM w (W.setCell ⟨C, j, none⟩ (.bool b)) B C gl x y z s' := by
  have h1 := h.le
  have h2 := h.lt
  refine ⟨h.gt.far (by omega) _, h.rs.far (by omega) _, h.ou.far (by omega) _, ?_, h1, h2, h.ext.setCell (by simp; omega) _⟩
  rw [← e]
  exact h.io.set j _ (by show j < 6; exact hj)
theorem TM.setO (h : TM w W B C gl x y z s) {x' y' z' : Nat → Int} {j : Nat} {v : Int} (hj : j < 9) (e : (tlist x y z).set j (.int .i64 v) = tlist x' y' z') : TM w (W.setCell ⟨B, j, none⟩ (.int .i64 v)) B C gl x' y' z' s := by
  have h1 := h.le
  have h2 := h.lt
  refine ⟨h.gt.far (by omega) _, h.rs.far (by omega) _, ?_, h.io.far (by omega) _, h1, h2, h.ext.setCell (by simp; omega) _⟩
  rw [← e]
  exact h.ou.set j _ (by show j < 9; exact hj)
end

theorem TM.full {w W : World} {B C : Nat} {gl : List Value} {x y z x' y' z' s : Nat → Int} (h : TM w W B C gl (mx 3 x x') (mx 3 y y') (mx 3 z z') s) : TM w W B C gl x y z s := ⟨h.gt, h.rs, h.ou, h.io, h.le, h.lt, h.ext⟩
theorem emit_set {C : Pl.GC} {m : Pl.Sim} {t i : Nat} {e : Pl.Ed} (h : Pl.Emits C m t i e) (hi : i < 3) (hs : 0 ≤ m.s i ∧ m.s i ≤ 2) : ∃ σ : Nat, e.s = (σ : Int) ∧ σ < 6 ∧ (onlist m.s).set σ (.bool e.o) = onlist (Pl.sstep C m t i).s := by
  rcases h with ⟨z, rfl, hst⟩ | ⟨z, u, x, rfl, hst⟩
  · have ⟨_, o2⟩ := on_off m.s hi (by omega)
    exact ⟨sw i (m.s i), sw_nmb _ _, sw_lt hi _, by rw [hst]; exact o2⟩
  · have wv := Pl.want_in C i (t : Int)
    have ⟨_, _, o2⟩ := on_on m.s hi z (Pl.want C i t) (by omega)
    exact ⟨sw i (Pl.want C i t), sw_nmb _ _, sw_lt hi _, by rw [hst]; exact o2⟩

theorem times_ret {W : World} {n : Nat} {u0 u1 u2 u3 u4 u5 u6 u7 u8 e : Value} {tmps : Array Value} (X : Blk W n [u0, u1, u2, u3, u4, u5, u6, u7, u8]) (h1 : tmps[2]? = some (.pointer (some ⟨n, 0, none⟩))) (h2 : tmps[3]? = some e) :
    (results Try.f13 tmps).run Try.prog W = .ok (.tuple #[.agg #[u0, u1, u2, u3, u4, u5, u6, u7, u8], e]) W := by
  have y0 := X.at 0 _ rfl
  have y1 := X.at 1 _ rfl
  have y2 := X.at 2 _ rfl
  have y3 := X.at 3 _ rfl
  have y4 := X.at 4 _ rfl
  have y5 := X.at 5 _ rfl
  have y6 := X.at 6 _ rfl
  have y7 := X.at 7 _ rfl
  have y8 := X.at 8 _ rfl
  simp [results, Try.results13, go_sem, h1, h2, y0, y1, y2, y3, y4, y5, y6, y7, y8]

theorem times_end {W : World} {n : Nat} (X : Blk W n [.int .i64 0, .int .i64 0, .int .i64 0, .int .i64 0, .int .i64 0, .int .i64 0, .int .i64 0, .int .i64 0, .int .i64 0]) (u0 u1 u2 u3 u4 u5 u6 u7 u8 : Value) : Blk (((((((((W.setCell ⟨n, 0, none⟩ u0).setCell ⟨n, 1, none⟩ u1).setCell ⟨n, 2, none⟩ u2).setCell ⟨n, 3, none⟩ u3).setCell ⟨n, 4, none⟩ u4).setCell ⟨n, 5, none⟩ u5).setCell ⟨n, 6, none⟩ u6).setCell ⟨n, 7, none⟩ u7).setCell ⟨n, 8, none⟩ u8) n [u0, u1, u2, u3, u4, u5, u6, u7, u8] := by
  have X1 : Blk (W.setCell ⟨n, 0, none⟩ u0) n [u0, .int .i64 0, .int .i64 0, .int .i64 0, .int .i64 0, .int .i64 0, .int .i64 0, .int .i64 0, .int .i64 0] := X.set 0 u0 (by simp)
  have X2 : Blk ((W.setCell ⟨n, 0, none⟩ u0).setCell ⟨n, 1, none⟩ u1) n [u0, u1, .int .i64 0, .int .i64 0, .int .i64 0, .int .i64 0, .int .i64 0, .int .i64 0, .int .i64 0] := X1.set 1 u1 (by simp)
  have X3 : Blk (((W.setCell ⟨n, 0, none⟩ u0).setCell ⟨n, 1, none⟩ u1).setCell ⟨n, 2, none⟩ u2) n [u0, u1, u2, .int .i64 0, .int .i64 0, .int .i64 0, .int .i64 0, .int .i64 0, .int .i64 0] := X2.set 2 u2 (by simp)
  have X4 : Blk ((((W.setCell ⟨n, 0, none⟩ u0).setCell ⟨n, 1, none⟩ u1).setCell ⟨n, 2, none⟩ u2).setCell ⟨n, 3, none⟩ u3) n [u0, u1, u2, u3, .int .i64 0, .int .i64 0, .int .i64 0, .int .i64 0, .int .i64 0] := X3.set 3 u3 (by simp)
  have X5 : Blk (((((W.setCell ⟨n, 0, none⟩ u0).setCell ⟨n, 1, none⟩ u1).setCell ⟨n, 2, none⟩ u2).setCell ⟨n, 3, none⟩ u3).setCell ⟨n, 4, none⟩ u4) n [u0, u1, u2, u3, u4, .int .i64 0, .int .i64 0, .int .i64 0, .int .i64 0] := X4.set 4 u4 (by simp)
  have X6 : Blk ((((((W.setCell ⟨n, 0, none⟩ u0).setCell ⟨n, 1, none⟩ u1).setCell ⟨n, 2, none⟩ u2).setCell ⟨n, 3, none⟩ u3).setCell ⟨n, 4, none⟩ u4).setCell ⟨n, 5, none⟩ u5) n [u0, u1, u2, u3, u4, u5, .int .i64 0, .int .i64 0, .int .i64 0] := X5.set 5 u5 (by simp)
  have X7 : Blk (((((((W.setCell ⟨n, 0, none⟩ u0).setCell ⟨n, 1, none⟩ u1).setCell ⟨n, 2, none⟩ u2).setCell ⟨n, 3, none⟩ u3).setCell ⟨n, 4, none⟩ u4).setCell ⟨n, 5, none⟩ u5).setCell ⟨n, 6, none⟩ u6) n [u0, u1, u2, u3, u4, u5, u6, .int .i64 0, .int .i64 0] := X6.set 6 u6 (by simp)
  have X8 : Blk ((((((((W.setCell ⟨n, 0, none⟩ u0).setCell ⟨n, 1, none⟩ u1).setCell ⟨n, 2, none⟩ u2).setCell ⟨n, 3, none⟩ u3).setCell ⟨n, 4, none⟩ u4).setCell ⟨n, 5, none⟩ u5).setCell ⟨n, 6, none⟩ u6).setCell ⟨n, 7, none⟩ u7) n [u0, u1, u2, u3, u4, u5, u6, u7, .int .i64 0] := X7.set 7 u7 (by simp)
  have X9 : Blk (((((((((W.setCell ⟨n, 0, none⟩ u0).setCell ⟨n, 1, none⟩ u1).setCell ⟨n, 2, none⟩ u2).setCell ⟨n, 3, none⟩ u3).setCell ⟨n, 4, none⟩ u4).setCell ⟨n, 5, none⟩ u5).setCell ⟨n, 6, none⟩ u6).setCell ⟨n, 7, none⟩ u7).setCell ⟨n, 8, none⟩ u8) n [u0, u1, u2, u3, u4, u5, u6, u7, u8] := X8.set 8 u8 (by simp)
  exact X9

theorem times_ext {w W : World} (E : Ext w W) (u0 u1 u2 u3 u4 u5 u6 u7 u8 : Value) : Ext w (((((((((W.setCell ⟨(w.heap.size + 1), 0, none⟩ u0).setCell ⟨(w.heap.size + 1), 1, none⟩ u1).setCell ⟨(w.heap.size + 1), 2, none⟩ u2).setCell ⟨(w.heap.size + 1), 3, none⟩ u3).setCell ⟨(w.heap.size + 1), 4, none⟩ u4).setCell ⟨(w.heap.size + 1), 5, none⟩ u5).setCell ⟨(w.heap.size + 1), 6, none⟩ u6).setCell ⟨(w.heap.size + 1), 7, none⟩ u7).setCell ⟨(w.heap.size + 1), 8, none⟩ u8) := by
  have E1 := E.setCell (p := ⟨w.heap.size + 1, 0, none⟩) (by simp) u0
  have E2 := E1.setCell (p := ⟨w.heap.size + 1, 1, none⟩) (by simp) u1
  have E3 := E2.setCell (p := ⟨w.heap.size + 1, 2, none⟩) (by simp) u2
  have E4 := E3.setCell (p := ⟨w.heap.size + 1, 3, none⟩) (by simp) u3
  have E5 := E4.setCell (p := ⟨w.heap.size + 1, 4, none⟩) (by simp) u4
  have E6 := E5.setCell (p := ⟨w.heap.size + 1, 5, none⟩) (by simp) u5
  have E7 := E6.setCell (p := ⟨w.heap.size + 1, 6, none⟩) (by simp) u6
  have E8 := E7.setCell (p := ⟨w.heap.size + 1, 7, none⟩) (by simp) u7
  have E9 := E8.setCell (p := ⟨w.heap.size + 1, 8, none⟩) (by simp) u8
  exact E9

/-- The edges of a count, one behind the other. -/
def Wh (C : Pl.GC) (m : Pl.Sim) (t : Nat) (p : Nat → Prop) (nx : Value) : Prop := ∃ kk : Nat, 3 * t ≤ kk ∧ kk ≤ 3 * t + 3 ∧ nx = .int .i64 ((Pl.sim C m kk).es.length : Int) ∧ p kk
theorem es_mono' (C : Pl.GC) (m : Pl.Sim) {k k' : Nat} (h : k ≤ k') : (Pl.sim C m k).es.length ≤ (Pl.sim C m k').es.length := Pl.es_mono C m h
set_option linter.unusedSimpArgs false in
set_option maxRecDepth 100000 in
set_option maxHeartbeats 8000000 in
theorem times_any (C : Pl.GC) (m : Pl.Sim) (P : Nat) (a : Option Addr) (k : Nat) (w : World) (h : RunOK C m P) (hr : RowE w a (Pl.sim C m (3 * P)).es) :
    Calls Try.prog 13 #[.agg #[.int .i64 P, .bool (m.s 0 == 2), .bool (m.s 0 == 1), .bool (m.s 1 == 2), .bool (m.s 1 == 1), .bool (m.s 2 == 2), .bool (m.s 2 == 1), .slice a (Pl.sim C m (3 * P)).es.length k]] w fun e w' => e = .returned (.tuple #[.agg #[.int .i64 (Pl.cnt C m 0 2 P), .int .i64 (Pl.cnt C m 0 1 P), .int .i64 (Pl.cnt C m 0 0 P), .int .i64 (Pl.cnt C m 1 2 P), .int .i64 (Pl.cnt C m 1 1 P), .int .i64 (Pl.cnt C m 1 0 P), .int .i64 (Pl.cnt C m 2 2 P), .int .i64 (Pl.cnt C m 2 1 P), .int .i64 (Pl.cnt C m 2 0 P)], .nilIface]) ∧ Ext w w' := by
  have ⟨p1, p2⟩ := h.per
  have HP := Lib.hid h.per
  have hcn := es_cnt C h.beg (3 * P)
  have HSO := Lib.hid (fun V (hV : Ext w V) => sorted_t a k (Pl.sim C m (3 * P)).es P V (hr.ext hV) (asc_run C h.beg P) (by omega) (by omega) (by omega))
  have H := Lib.hid h
  have HROW := Lib.hid hr
  clear h hr
  have G := Blk.new w [.int .i64 P, .bool (m.s 0 == 2), .bool (m.s 0 == 1), .bool (m.s 1 == 2), .bool (m.s 1 == 1), .bool (m.s 2 == 2), .bool (m.s 2 == 1), .slice a (Pl.sim C m (3 * P)).es.length k] 52
  have G := G.alloc (.cells #[.int .i64 0, .int .i64 0, .int .i64 0, .int .i64 0, .int .i64 0, .int .i64 0, .int .i64 0, .int .i64 0, .int .i64 0] 57)
  have Z := Blk.new (w.alloc (.cells #[.int .i64 P, .bool (m.s 0 == 2), .bool (m.s 0 == 1), .bool (m.s 1 == 2), .bool (m.s 1 == 1), .bool (m.s 2 == 2), .bool (m.s 2 == 1), .slice a (Pl.sim C m (3 * P)).es.length k] 52)) [.int .i64 0, .int .i64 0, .int .i64 0, .int .i64 0, .int .i64 0, .int .i64 0, .int .i64 0, .int .i64 0, .int .i64 0] 57
  rw [show (w.alloc (.cells #[.int .i64 P, .bool (m.s 0 == 2), .bool (m.s 0 == 1), .bool (m.s 1 == 2), .bool (m.s 1 == 1), .bool (m.s 2 == 2), .bool (m.s 2 == 1), .slice a (Pl.sim C m (3 * P)).es.length k] 52)).heap.size = w.heap.size + 1 by simp] at Z
  have E : Ext w ((w.alloc (.cells #[.int .i64 P, .bool (m.s 0 == 2), .bool (m.s 0 == 1), .bool (m.s 1 == 2), .bool (m.s 1 == 1), .bool (m.s 2 == 2), .bool (m.s 2 == 1), .slice a (Pl.sim C m (3 * P)).es.length k] 52)).alloc (.cells #[.int .i64 0, .int .i64 0, .int .i64 0, .int .i64 0, .int .i64 0, .int .i64 0, .int .i64 0, .int .i64 0, .int .i64 0] 57)) := ((Ext.refl w).alloc _).alloc _
  have g0 := G.at 0 _ rfl
  have g1 := G.at 1 _ rfl
  have g2 := G.at 2 _ rfl
  have g3 := G.at 3 _ rfl
  have g4 := G.at 4 _ rfl
  have g5 := G.at 5 _ rfl
  have g6 := G.at 6 _ rfl
  have g7 := G.at 7 _ rfl
  have gl := G.lt
  have gf := G.fr
  go_enter Try.func13, Try.ntmps13
  go_wp2_with fail
  refine (gisPeriod_t _ _ HP.out).mono ?_
  rintro e w1 ⟨rfl, hx1⟩
  have G := G.ext hx1
  have Z := Z.ext hx1
  have E := E.trans hx1
  clear g0 g1 g2 g3 g4 g5 g6 g7 gl gf
  have g0 := G.at 0 _ rfl
  have g1 := G.at 1 _ rfl
  have g2 := G.at 2 _ rfl
  have g3 := G.at 3 _ rfl
  have g4 := G.at 4 _ rfl
  have g5 := G.at 5 _ rfl
  have g6 := G.at 6 _ rfl
  have g7 := G.at 7 _ rfl
  have gl := G.lt
  have gf := G.fr
  go_wp2_with fail
  refine (HSO.out _ E).mono ?_
  rintro e w2 ⟨rfl, hx2⟩
  have G := G.ext hx2
  have Z := Z.ext hx2
  have E := E.trans hx2
  clear g0 g1 g2 g3 g4 g5 g6 g7 gl gf
  have hz := Z.lt
  have T0 : TM w ((w2.alloc (.cells #[.int .i64 0, .int .i64 0, .int .i64 0, .int .i64 0, .int .i64 0, .int .i64 0, .int .i64 0, .int .i64 0, .int .i64 0] 57)).alloc (.cells #[.bool (m.s 0 == 2), .bool (m.s 0 == 1), .bool (m.s 1 == 2), .bool (m.s 1 == 1), .bool (m.s 2 == 2), .bool (m.s 2 == 1)] 49)) w2.heap.size (w2.heap.size + 1) [.int .i64 P, .bool (m.s 0 == 2), .bool (m.s 0 == 1), .bool (m.s 1 == 2), .bool (m.s 1 == 1), .bool (m.s 2 == 2), .bool (m.s 2 == 1), .slice a (Pl.sim C m (3 * P)).es.length k] (fun i => Pl.cnt C m i 2 (0)) (fun i => Pl.cnt C m i 1 (0)) (fun i => Pl.cnt C m i 0 (0)) (Pl.sim C m (3 * 0)).s :=
    ⟨(G.alloc _).alloc _, (Z.alloc _).alloc _, (Blk.new w2 [.int .i64 0, .int .i64 0, .int .i64 0, .int .i64 0, .int .i64 0, .int .i64 0, .int .i64 0, .int .i64 0, .int .i64 0] 57).alloc _, Blk.new1 w2 (.cells #[.int .i64 0, .int .i64 0, .int .i64 0, .int .i64 0, .int .i64 0, .int .i64 0, .int .i64 0, .int .i64 0, .int .i64 0] 57) [.bool (m.s 0 == 2), .bool (m.s 0 == 1), .bool (m.s 1 == 2), .bool (m.s 1 == 1), .bool (m.s 2 == 2), .bool (m.s 2 == 1)] 49, by omega, by omega, (E.alloc _).alloc _⟩
  have HT0 := Lib.hid T0
  have g0 := G.at 0 _ rfl
  have g1 := G.at 1 _ rfl
  have g2 := G.at 2 _ rfl
  have g3 := G.at 3 _ rfl
  have g4 := G.at 4 _ rfl
  have g5 := G.at 5 _ rfl
  have g6 := G.at 6 _ rfl
  have g7 := G.at 7 _ rfl
  have gl := G.lt
  have gf := G.fr
  have G1 := G.alloc (.cells #[.int .i64 0, .int .i64 0, .int .i64 0, .int .i64 0, .int .i64 0, .int .i64 0, .int .i64 0, .int .i64 0, .int .i64 0] 57)
  have h0 := G1.at 0 _ rfl
  have h1 := G1.at 1 _ rfl
  have h2 := G1.at 2 _ rfl
  have h3 := G1.at 3 _ rfl
  have h4 := G1.at 4 _ rfl
  have h5 := G1.at 5 _ rfl
  have h6 := G1.at 6 _ rfl
  have h7 := G1.at 7 _ rfl
  have hl := G1.lt
  have hf := G1.fr
  have G2 := T0.gt
  have j0 := G2.at 0 _ rfl
  have j1 := G2.at 1 _ rfl
  have j2 := G2.at 2 _ rfl
  have j3 := G2.at 3 _ rfl
  have j4 := G2.at 4 _ rfl
  have j5 := G2.at 5 _ rfl
  have j6 := G2.at 6 _ rfl
  have j7 := G2.at 7 _ rfl
  have jl := G2.lt
  have jf := G2.fr
  clear T0
  go_wp2_with fail
  clear g0 g1 g2 g3 g4 g5 g6 g7 gl gf h0 h1 h2 h3 h4 h5 h6 h7 hl hf j0 j1 j2 j3 j4 j5 j6 j7 jl jf G G1 G2 Z E hz
  go_loopw [27, 6] (fun i nx wr => Upto P (fun t => nx = .int .i64 ((Pl.sim C m (3 * t)).es.length : Int) ∧ TM w wr w2.heap.size (w2.heap.size + 1) [.int .i64 P, .bool (m.s 0 == 2), .bool (m.s 0 == 1), .bool (m.s 1 == 2), .bool (m.s 1 == 1), .bool (m.s 2 == 2), .bool (m.s 2 == 1), .slice a (Pl.sim C m (3 * P)).es.length k] (fun i => Pl.cnt C m i 2 (t)) (fun i => Pl.cnt C m i 1 (t)) (fun i => Pl.cnt C m i 0 (t)) (Pl.sim C m (3 * t)).s) i) (fun i _ _ => P - (intOf i).toNat)
  case atStart => exact ⟨0, by omega, rfl, by show _ = Value.int .i64 ((m.es.length : Nat) : Int); rw [H.out.beg.es]; rfl, HT0.out⟩
  case round =>
    clear HT0
    obtain ⟨t, ht, rfl, rfl, TT⟩ := hrel
    by_cases htp : t < P
    · have htp' : (t : Int) < (P : Int) := by omega
      have HTT := Lib.hid TT
      have gg := TT.gt
      have g0 := gg.at 0 _ rfl
      have g1 := gg.at 1 _ rfl
      have g2 := gg.at 2 _ rfl
      have g3 := gg.at 3 _ rfl
      have g4 := gg.at 4 _ rfl
      have g5 := gg.at 5 _ rfl
      have g6 := gg.at 6 _ rfl
      have g7 := gg.at 7 _ rfl
      have gl := gg.lt
      have gf := gg.fr
      clear TT gg
      go_wp2_with fail
      go_loopw [6] (fun nx wx => Wh C m t (fun kk => TM w wx w2.heap.size (w2.heap.size + 1) [.int .i64 P, .bool (m.s 0 == 2), .bool (m.s 0 == 1), .bool (m.s 1 == 2), .bool (m.s 1 == 1), .bool (m.s 2 == 2), .bool (m.s 2 == 1), .slice a (Pl.sim C m (3 * P)).es.length k] (fun i => Pl.cnt C m i 2 (t)) (fun i => Pl.cnt C m i 1 (t)) (fun i => Pl.cnt C m i 0 (t)) (Pl.sim C m (kk)).s) nx) (fun nx _ => (Pl.sim C m (3 * P)).es.length - (intOf nx).toNat)
      case atStart => exact ⟨3 * t, by omega, by omega, rfl, HTT.out⟩
      case round =>
        clear HTT g0 g1 g2 g3 g4 g5 g6 g7 gl gf
        obtain ⟨kk, k1, k3, rfl, TT⟩ := hrel
        have gg := TT.gt
        have g0 := gg.at 0 _ rfl
        have g1 := gg.at 1 _ rfl
        have g2 := gg.at 2 _ rfl
        have g3 := gg.at 3 _ rfl
        have g4 := gg.at 4 _ rfl
        have g5 := gg.at 5 _ rfl
        have g6 := gg.at 6 _ rfl
        have g7 := gg.at 7 _ rfl
        have gl := gg.lt
        have gf := gg.fr
        clear gg
        obtain ⟨j, hj⟩ : ∃ j, j = (Pl.sim C m kk).es.length := ⟨_, rfl⟩
        rw [← hj]
        have HJ := Lib.hid hj
        have hcj : (j : Int) ≤ 1000000 := by have := es_cnt C H.out.beg kk; omega
        have jN : (Pl.sim C m (3 * P)).es.length ≤ 1000000 := by omega
        by_cases hlt : j < (Pl.sim C m (3 * P)).es.length
        · obtain ⟨n, e, n1, n2, n3, hem, hat⟩ := Pl.next_edge C m kk (3 * P) (by omega) (by rw [← hj]; exact hlt)
          rw [← hj] at n3 hat
          obtain ⟨b, off, ea, hb, hc⟩ := HROW.out (fun h => by rw [h] at hlt; simp at hlt)
          have ⟨c0, c1, c2⟩ := hc j e hat
          have c0 := (TT.ext.cell hb).trans c0
          have c1 := (TT.ext.cell hb).trans c1
          have c2 := (TT.ext.cell hb).trans c2
          have hbr : b < wr.heap.size := Nat.lt_of_lt_of_le hb TT.ext.size
          have hi3 : n % 3 < 3 := Nat.mod_lt _ (by omega)
          have ⟨ka, _, _⟩ := hem.key
          have ej : (j : Int) < ((Pl.sim C m (3 * P)).es.length : Int) := by omega
          have dj : decide (j < (Pl.sim C m (3 * P)).es.length) = true := decide_eq_true hlt
          subst ea
          by_cases hn : n < 3 * t + 3
          · have et : n / 3 = t := by omega
            rw [et] at ka hem
            have st := Pl.still C m n1 (by rw [n3, ← hj])
            rw [← st.1] at TT
            have iv := (Pl.inv C H.out.beg n).s (n % 3) hi3
            obtain ⟨σ, s1, s6, s2⟩ := emit_set hem hi3 iv
            have hnx : (Pl.sim C m (n + 1)) = Pl.sstep C (Pl.sim C m n) t (n % 3) := by show Pl.sstep C _ (n / 3) (n % 3) = _; rw [et]
            rw [← hnx] at s2
            have hl1 : (Pl.sim C m (n + 1)).es.length = j + 1 := by rw [hnx, hem.es, List.length_append, n3]; rfl
            rw [s1] at c1
            rw [ka] at c0
            obtain ⟨eo, ho⟩ : ∃ b, b = e.o := ⟨_, rfl⟩
            rw [← ho] at c2 s2
            have T1 := TT.setI s6 s2
            have HT1 := Lib.hid T1
            have HL1 := Lib.hid hl1
            have io := TT.io.at σ _ (onlist_at _ s6)
            have iof := TT.io.fr
            have iol := TT.io.lt
            have si0 : (0 : Int) ≤ (σ : Int) := by omega
            have si6 : (σ : Int) < 6 := by omega
            have hn1 : n + 1 ≤ 3 * t + 3 := by omega
            have hn2 : 3 * t ≤ n + 1 := by omega
            clear hc hat hem s1 s2 ho T1 TT ka n3 hj st hnx hl1 iv et
            go_upto_region 11 with fail
            refine wp_region_B (fun V => V.cell? ⟨w.heap.size, 7, none⟩ = some (.slice (some ⟨b, off, none⟩) (Pl.sim C m (3 * P)).es.length k) ∧ V.cell? ⟨b, off + j * 3 + 1, none⟩ = some (.int .i64 σ) ∧ V.cell? ⟨b, off + j * 3 + 2, none⟩ = some (.bool eo)) [13] (by kernel_rfl) ?_
            have hS := And.intro g7 (And.intro c1 c2)
            refine wpAnyB_take0 (i := 0) (v := ?_) rfl (by kernel_rfl) (by kernel_rfl) (by kernel_rfl) (by kernel_rfl) (fun _ _ _ h => h) (Or.inl ⟨by rfl, ?_⟩) (fun _ => hS) ?_
            rotate_left
            · (intro V; go_simp; (try with_reducible rfl))
            (try simp only [Act.put, List.setIfInBounds_toArray, List.set_cons_zero, List.set_cons_succ])
            refine wpAnyB_take (i := 1) (v := ?_) rfl (by kernel_rfl) (by kernel_rfl) (by kernel_rfl) (by kernel_rfl) (by kernel_rfl) (by kernel_rfl) (fun _ _ _ h => h) (Or.inl ⟨by rfl, ?_⟩) hS ?_
            rotate_left
            · (intro V hV; obtain ⟨e0, e1, e2⟩ := hV; go_simp; (try with_reducible rfl))
            (try simp only [Act.put, List.setIfInBounds_toArray, List.set_cons_zero, List.set_cons_succ])
            refine wpAnyB_take0 (i := 2) (v := ?_) rfl (by kernel_rfl) (by kernel_rfl) (by kernel_rfl) (by kernel_rfl) (fun _ _ _ h => h) (Or.inl ⟨by rfl, ?_⟩) (fun _ => hS) ?_
            rotate_left
            · (intro V; go_simp; (try with_reducible rfl))
            (try simp only [Act.put, List.setIfInBounds_toArray, List.set_cons_zero, List.set_cons_succ])
            refine wpAnyB_take0 (i := 3) (v := ?_) rfl (by kernel_rfl) (by kernel_rfl) (by kernel_rfl) (by kernel_rfl) (fun _ _ _ h => h) (Or.inl ⟨by rfl, ?_⟩) (fun _ => hS) ?_
            rotate_left
            · (intro V; go_simp; (try with_reducible rfl))
            (try simp only [Act.put, List.setIfInBounds_toArray, List.set_cons_zero, List.set_cons_succ])
            refine wpAnyB_take0 (i := 4) (v := ?_) rfl (by kernel_rfl) (by kernel_rfl) (by kernel_rfl) (by kernel_rfl) (fun _ _ _ h => h) (Or.inl ⟨by rfl, ?_⟩) (fun _ => hS) ?_
            rotate_left
            · (intro V; go_simp; (try with_reducible rfl))
            (try simp only [Act.put, List.setIfInBounds_toArray, List.set_cons_zero, List.set_cons_succ])
            refine wpAnyB_take (i := 5) (v := ?_) rfl (by kernel_rfl) (by kernel_rfl) (by kernel_rfl) (by kernel_rfl) (by kernel_rfl) (by kernel_rfl) (fun _ _ _ h => h) (Or.inl ⟨by rfl, ?_⟩) hS ?_
            rotate_left
            · (intro V hV; obtain ⟨e0, e1, e2⟩ := hV; go_simp; (try with_reducible rfl))
            (try simp only [Act.put, List.setIfInBounds_toArray, List.set_cons_zero, List.set_cons_succ])
            refine wpAnyB_take0 (i := 6) (v := ?_) rfl (by kernel_rfl) (by kernel_rfl) (by kernel_rfl) (by kernel_rfl) (fun _ _ _ h => h) (Or.inl ⟨by rfl, ?_⟩) (fun _ => hS) ?_
            rotate_left
            · (intro V; go_simp; (try with_reducible rfl))
            (try simp only [Act.put, List.setIfInBounds_toArray, List.set_cons_zero, List.set_cons_succ])
            refine wpAnyB_take (i := 7) (v := ?_) rfl (by kernel_rfl) (by kernel_rfl) (by kernel_rfl) (by kernel_rfl) (by kernel_rfl) (by kernel_rfl) (fun _ _ _ h => h) (Or.inl ⟨by rfl, ?_⟩) hS ?_
            rotate_left
            · (intro V hV; obtain ⟨e0, e1, e2⟩ := hV; go_simp; (try with_reducible rfl))
            (try simp only [Act.put, List.setIfInBounds_toArray, List.set_cons_zero, List.set_cons_succ])
            refine wpAnyB_take0 (i := 8) (v := ?_) rfl (by kernel_rfl) (by kernel_rfl) (by kernel_rfl) (by kernel_rfl) (fun _ _ _ h => h) (Or.inl ⟨by rfl, ?_⟩) (fun _ => hS) ?_
            rotate_left
            · (intro V; go_simp; (try with_reducible rfl))
            (try simp only [Act.put, List.setIfInBounds_toArray, List.set_cons_zero, List.set_cons_succ])
            refine wpAnyB_take0 (i := 9) (v := ?_) rfl (by kernel_rfl) (by kernel_rfl) (by kernel_rfl) (by kernel_rfl) (fun _ _ _ h => h) (Or.inl ⟨by rfl, ?_⟩) (fun _ => hS) ?_
            rotate_left
            · (intro V; go_simp; (try with_reducible rfl))
            (try simp only [Act.put, List.setIfInBounds_toArray, List.set_cons_zero, List.set_cons_succ])
            refine wpAnyB_take0 (i := 10) (v := ?_) rfl (by kernel_rfl) (by kernel_rfl) (by kernel_rfl) (by kernel_rfl) (fun _ _ _ h => h) (Or.inl ⟨by rfl, ?_⟩) (fun _ => hS) ?_
            rotate_left
            · (intro V; go_simp; (try with_reducible rfl))
            (try simp only [Act.put, List.setIfInBounds_toArray, List.set_cons_zero, List.set_cons_succ])
            refine wpAnyB_take (i := 11) (v := ?_) rfl (by kernel_rfl) (by kernel_rfl) (by kernel_rfl) (by kernel_rfl) (by kernel_rfl) (by kernel_rfl) (fun _ _ _ h => h) (Or.inl ⟨by rfl, ?_⟩) hS ?_
            rotate_left
            · (intro V hV; obtain ⟨e0, e1, e2⟩ := hV; go_simp; (try with_reducible rfl))
            (try simp only [Act.put, List.setIfInBounds_toArray, List.set_cons_zero, List.set_cons_succ])
            refine wpAnyB_take0 (i := 12) (v := ?_) rfl (by kernel_rfl) (by kernel_rfl) (by kernel_rfl) (by kernel_rfl) (fun _ _ _ h => h) (Or.inl ⟨by rfl, ?_⟩) (fun _ => hS) ?_
            rotate_left
            · (intro V; go_simp; (try with_reducible rfl))
            (try simp only [Act.put, List.setIfInBounds_toArray, List.set_cons_zero, List.set_cons_succ])
            refine wpAnyB_ready (rs := [13]) (by kernel_rfl) (by simp) ?_
            refine AllReadyB.cons rfl (fun K hK => ?_) AllReadyB.nil
            go_simp
            refine hK.out _ _ (fun h => absurd h (by decide)) ?_
            clear hK K
            (try simp only [Act.put, List.setIfInBounds_toArray, List.set_cons_zero, List.set_cons_succ])
            refine wpAnyB_done (by kernel_rfl) ?_ _
            clear hS
            go_wp2_with fail
            refine ⟨⟨n + 1, hn2, hn1, by rw [HL1.out]; go_num, HT1.out.dr⟩, ?_⟩
            first | (simp [intOf]; done) | (simp [intOf]; omega)
          · have hl3 : (Pl.sim C m kk).es.length = (Pl.sim C m (3 * t + 3)).es.length := by
              have a1 := es_mono' C m k3
              have a2 := es_mono' C m (show 3 * t + 3 ≤ n by omega)
              omega
            have na : (e.a == (t : Int)) = false := by rw [ka]; simp; omega
            have nb : ¬ e.a = (t : Int) := by rw [ka]; omega
            clear hc hat hem ka
            obtain ⟨ea, es', eo⟩ := e
            dsimp only at c0 c1 c2 na nb
            have st3 := Pl.still C m k3 hl3
            rw [← st3.1] at TT
            have HTT := Lib.hid TT
            have HNX := Lib.hid (hj.trans hl3)
            clear TT st3 hl3 hj
            (try clear n3)
            go_wp2_with fail
            go_loopw [60] (fun i wx => Upto 3 (fun q => TM w wx w2.heap.size (w2.heap.size + 1) [.int .i64 P, .bool (m.s 0 == 2), .bool (m.s 0 == 1), .bool (m.s 1 == 2), .bool (m.s 1 == 1), .bool (m.s 2 == 2), .bool (m.s 2 == 1), .slice (some ⟨b, off, none⟩) (Pl.sim C m (3 * P)).es.length k] (mx q (fun i => Pl.cnt C m i 2 (t + 1)) (fun i => Pl.cnt C m i 2 (t))) (mx q (fun i => Pl.cnt C m i 1 (t + 1)) (fun i => Pl.cnt C m i 1 (t))) (mx q (fun i => Pl.cnt C m i 0 (t + 1)) (fun i => Pl.cnt C m i 0 (t))) (Pl.sim C m (3 * t + 3)).s) i) (fun i _ => 3 - (intOf i).toNat)
            case atStart => exact ⟨0, by omega, rfl, HTT.out⟩
            case round =>
              clear HTT
              obtain ⟨q, hq, rfl, TT⟩ := hrel
              by_cases hq3 : q < 3
              · have q3 : (q : Int) < 3 := by omega
                have HT := Lib.hid TT
                obtain ⟨sv, hsv⟩ : ∃ x, x = (Pl.sim C m (3 * t + 3)).s q := ⟨_, rfl⟩
                have ivs := (Pl.inv C H.out.beg (3 * t + 3)).s q hq3
                rw [← hsv] at ivs
                obtain ⟨ivs1, ivs2⟩ := ivs
                have HSV := Lib.hid hsv
                have w2q : IntKind.i64.wrap (2 * (q : Int)) = 2 * (q : Int) := IntWalk.i64_in _ (by omega)
                have w2q1 : IntKind.i64.wrap (2 * (q : Int) + 1) = 2 * (q : Int) + 1 := IntWalk.i64_in _ (by omega)
                have q20 : (0 : Int) ≤ 2 * (q : Int) := by omega
                have q26 : 2 * (q : Int) < 6 := by omega
                have q210 : (0 : Int) ≤ 2 * (q : Int) + 1 := by omega
                have q216 : 2 * (q : Int) + 1 < 6 := by omega
                have io0 : onb (Pl.sim C m (3 * t + 3)).s (2 * q) = (sv == 2) := by rw [hsv]; unfold onb; rw [if_pos (by omega), show 2 * q / 2 = q by omega]
                have io1 : onb (Pl.sim C m (3 * t + 3)).s (2 * q + 1) = (sv == 1) := by rw [hsv]; unfold onb; rw [if_neg (by omega), show (2 * q + 1) / 2 = q by omega]
                have c0 := HT.out.io.at (2 * q) _ (onlist_at _ (by omega))
                have c1 := HT.out.io.at (2 * q + 1) _ (onlist_at _ (by omega))
                rw [io0] at c0
                rw [io1] at c1
                clear hsv TT
                have z012 : sv = 0 ∨ sv = 1 ∨ sv = 2 := by omega
                rcases z012 with z | z | z
                · skip
                  have z : sv = 0 := z
                  have y0 : (sv == 2) = false := by simp; omega
                  have y1 : (sv == 1) = false := by simp; omega
                  have cst : ∀ c', Pl.cnt C m q c' (t + 1) = Pl.cnt C m q c' t + if sv = c' then 1 else 0 := fun c' => by rw [HSV.out]; rfl
                  have ca : Pl.cnt C m q 0 (t + 1) = Pl.cnt C m q 0 t + 1 := by rw [cst, if_pos z]
                  have cb2 : Pl.cnt C m q 2 (t + 1) = Pl.cnt C m q 2 t := by rw [cst, if_neg (by omega)]; omega
                  have cb1 : Pl.cnt C m q 1 (t + 1) = Pl.cnt C m q 1 t := by rw [cst, if_neg (by omega)]; omega
                  have cz := Pl.cnt_nonneg C m q 0 t
                  have cy := Pl.cnt_le C m q 0 t
                  have wc : IntKind.i64.wrap (Pl.cnt C m q 0 t + 1) = Pl.cnt C m q 0 t + 1 := IntWalk.i64_in _ (by omega)
                  have ko := HT.out.ou.at (q * 3 + 2) _ (tlist_at _ _ _ hq3).2.2
                  rw [mx_at] at ko
                  have CA := Lib.hid ca
                  have CB2 := Lib.hid cb2
                  have CB1 := Lib.hid cb1
                  clear ca cst cb2 cb1
                  (try dsimp only at ko)
                  go_upto_region 21 with fail
                  refine wp_region_B (fun V => V.cell? ⟨w2.heap.size, q * 3 + 2, none⟩ = some (.int .i64 (Pl.cnt C m q 0 t))) [7] (by kernel_rfl) ?_
                  have hS := ko
                  refine wpAnyB_take0 (i := 0) (v := ?_) rfl (by kernel_rfl) (by kernel_rfl) (by kernel_rfl) (by kernel_rfl) (fun _ _ _ h => h) (Or.inl ⟨by rfl, ?_⟩) (fun _ => hS) ?_
                  rotate_left
                  · (intro V; go_simp; (try with_reducible rfl))
                  (try simp only [Act.put, List.setIfInBounds_toArray, List.set_cons_zero, List.set_cons_succ])
                  refine wpAnyB_take0 (i := 1) (v := ?_) rfl (by kernel_rfl) (by kernel_rfl) (by kernel_rfl) (by kernel_rfl) (fun _ _ _ h => h) (Or.inl ⟨by rfl, ?_⟩) (fun _ => hS) ?_
                  rotate_left
                  · (intro V; go_simp; (try with_reducible rfl))
                  (try simp only [Act.put, List.setIfInBounds_toArray, List.set_cons_zero, List.set_cons_succ])
                  refine wpAnyB_take0 (i := 2) (v := ?_) rfl (by kernel_rfl) (by kernel_rfl) (by kernel_rfl) (by kernel_rfl) (fun _ _ _ h => h) (Or.inl ⟨by rfl, ?_⟩) (fun _ => hS) ?_
                  rotate_left
                  · (intro V; go_simp; (try with_reducible rfl))
                  (try simp only [Act.put, List.setIfInBounds_toArray, List.set_cons_zero, List.set_cons_succ])
                  refine wpAnyB_take (i := 3) (v := ?_) rfl (by kernel_rfl) (by kernel_rfl) (by kernel_rfl) (by kernel_rfl) (by kernel_rfl) (by kernel_rfl) (fun _ _ _ h => h) (Or.inl ⟨by rfl, ?_⟩) hS ?_
                  rotate_left
                  · (intro V hV; have e0 := hV; go_simp; (try with_reducible rfl))
                  (try simp only [Act.put, List.setIfInBounds_toArray, List.set_cons_zero, List.set_cons_succ])
                  refine wpAnyB_take0 (i := 4) (v := ?_) rfl (by kernel_rfl) (by kernel_rfl) (by kernel_rfl) (by kernel_rfl) (fun _ _ _ h => h) (Or.inl ⟨by rfl, ?_⟩) (fun _ => hS) ?_
                  rotate_left
                  · (intro V; go_simp; (try with_reducible rfl))
                  (try simp only [Act.put, List.setIfInBounds_toArray, List.set_cons_zero, List.set_cons_succ])
                  refine wpAnyB_take0 (i := 5) (v := ?_) rfl (by kernel_rfl) (by kernel_rfl) (by kernel_rfl) (by kernel_rfl) (fun _ _ _ h => h) (Or.inl ⟨by rfl, ?_⟩) (fun _ => hS) ?_
                  rotate_left
                  · (intro V; go_simp; (try with_reducible rfl))
                  (try simp only [Act.put, List.setIfInBounds_toArray, List.set_cons_zero, List.set_cons_succ])
                  refine wpAnyB_take0 (i := 6) (v := ?_) rfl (by kernel_rfl) (by kernel_rfl) (by kernel_rfl) (by kernel_rfl) (fun _ _ _ h => h) (Or.inl ⟨by rfl, ?_⟩) (fun _ => hS) ?_
                  rotate_left
                  · (intro V; go_simp; (try with_reducible rfl))
                  (try simp only [Act.put, List.setIfInBounds_toArray, List.set_cons_zero, List.set_cons_succ])
                  have kf := HT.out.ou.fr
                  have kl := HT.out.ou.lt
                  refine wpAnyB_ready (rs := [7]) (by kernel_rfl) (by simp) ?_
                  refine AllReadyB.cons rfl (fun K hK => ?_) AllReadyB.nil
                  go_simp
                  refine hK.out _ _ (fun h => absurd h (by decide)) ?_
                  clear hK K
                  (try simp only [Act.put, List.setIfInBounds_toArray, List.set_cons_zero, List.set_cons_succ])
                  refine wpAnyB_done (by kernel_rfl) ?_ _
                  clear hS
                  have T1 := HT.out.setO (v := Pl.cnt C m q 0 t + 1) (show q * 3 + 2 < 9 by omega) (tlist_set _ _ _ hq3 _).2.2
                  rw [show mx q (fun i => Pl.cnt C m i 2 (t + 1)) (fun i => Pl.cnt C m i 2 (t)) = mx (q + 1) (fun i => Pl.cnt C m i 2 (t + 1)) (fun i => Pl.cnt C m i 2 (t)) from mx_keep (f := (fun i => Pl.cnt C m i 2 (t + 1))) (g := (fun i => Pl.cnt C m i 2 (t))) CB2.out] at T1
                  rw [show mx q (fun i => Pl.cnt C m i 1 (t + 1)) (fun i => Pl.cnt C m i 1 (t)) = mx (q + 1) (fun i => Pl.cnt C m i 1 (t + 1)) (fun i => Pl.cnt C m i 1 (t)) from mx_keep (f := (fun i => Pl.cnt C m i 1 (t + 1))) (g := (fun i => Pl.cnt C m i 1 (t))) CB1.out] at T1
                  rw [show Pl.upd (mx q (fun i => Pl.cnt C m i 0 (t + 1)) (fun i => Pl.cnt C m i 0 (t))) q (Pl.cnt C m q 0 t + 1) = mx (q + 1) (fun i => Pl.cnt C m i 0 (t + 1)) (fun i => Pl.cnt C m i 0 (t)) from mx_inc (f := (fun i => Pl.cnt C m i 0 (t + 1))) (g := (fun i => Pl.cnt C m i 0 (t))) CA.out] at T1
                  have T1 := T1.dr
                  have d0 := T1.io.at (2 * q) _ (onlist_at _ (by omega))
                  have d1 := T1.io.at (2 * q + 1) _ (onlist_at _ (by omega))
                  rw [io0] at d0
                  rw [io1] at d1
                  have HT1 := Lib.hid T1
                  clear T1 z io0 io1 ko kf kl
                  go_wp2_with fail
                  refine ⟨⟨q + 1, by omega, by go_num, HT1.out⟩, ?_⟩
                  · first | (simp [intOf]; done) | (simp [intOf]; omega)
                · skip
                  have z : sv = 1 := z
                  have y0 : (sv == 2) = false := by simp; omega
                  have y1 : (sv == 1) = true := by simp; omega
                  have cst : ∀ c', Pl.cnt C m q c' (t + 1) = Pl.cnt C m q c' t + if sv = c' then 1 else 0 := fun c' => by rw [HSV.out]; rfl
                  have ca : Pl.cnt C m q 1 (t + 1) = Pl.cnt C m q 1 t + 1 := by rw [cst, if_pos z]
                  have cb2 : Pl.cnt C m q 2 (t + 1) = Pl.cnt C m q 2 t := by rw [cst, if_neg (by omega)]; omega
                  have cb0 : Pl.cnt C m q 0 (t + 1) = Pl.cnt C m q 0 t := by rw [cst, if_neg (by omega)]; omega
                  have cz := Pl.cnt_nonneg C m q 1 t
                  have cy := Pl.cnt_le C m q 1 t
                  have wc : IntKind.i64.wrap (Pl.cnt C m q 1 t + 1) = Pl.cnt C m q 1 t + 1 := IntWalk.i64_in _ (by omega)
                  have ko := HT.out.ou.at (q * 3 + 1) _ (tlist_at _ _ _ hq3).2.1
                  rw [mx_at] at ko
                  have CA := Lib.hid ca
                  have CB2 := Lib.hid cb2
                  have CB0 := Lib.hid cb0
                  clear ca cst cb2 cb0
                  (try dsimp only at ko)
                  go_upto_region 19 with fail
                  refine wp_region_B (fun V => V.cell? ⟨w2.heap.size, q * 3 + 1, none⟩ = some (.int .i64 (Pl.cnt C m q 1 t))) [7] (by kernel_rfl) ?_
                  have hS := ko
                  refine wpAnyB_take0 (i := 0) (v := ?_) rfl (by kernel_rfl) (by kernel_rfl) (by kernel_rfl) (by kernel_rfl) (fun _ _ _ h => h) (Or.inl ⟨by rfl, ?_⟩) (fun _ => hS) ?_
                  rotate_left
                  · (intro V; go_simp; (try with_reducible rfl))
                  (try simp only [Act.put, List.setIfInBounds_toArray, List.set_cons_zero, List.set_cons_succ])
                  refine wpAnyB_take0 (i := 1) (v := ?_) rfl (by kernel_rfl) (by kernel_rfl) (by kernel_rfl) (by kernel_rfl) (fun _ _ _ h => h) (Or.inl ⟨by rfl, ?_⟩) (fun _ => hS) ?_
                  rotate_left
                  · (intro V; go_simp; (try with_reducible rfl))
                  (try simp only [Act.put, List.setIfInBounds_toArray, List.set_cons_zero, List.set_cons_succ])
                  refine wpAnyB_take0 (i := 2) (v := ?_) rfl (by kernel_rfl) (by kernel_rfl) (by kernel_rfl) (by kernel_rfl) (fun _ _ _ h => h) (Or.inl ⟨by rfl, ?_⟩) (fun _ => hS) ?_
                  rotate_left
                  · (intro V; go_simp; (try with_reducible rfl))
                  (try simp only [Act.put, List.setIfInBounds_toArray, List.set_cons_zero, List.set_cons_succ])
                  refine wpAnyB_take (i := 3) (v := ?_) rfl (by kernel_rfl) (by kernel_rfl) (by kernel_rfl) (by kernel_rfl) (by kernel_rfl) (by kernel_rfl) (fun _ _ _ h => h) (Or.inl ⟨by rfl, ?_⟩) hS ?_
                  rotate_left
                  · (intro V hV; have e0 := hV; go_simp; (try with_reducible rfl))
                  (try simp only [Act.put, List.setIfInBounds_toArray, List.set_cons_zero, List.set_cons_succ])
                  refine wpAnyB_take0 (i := 4) (v := ?_) rfl (by kernel_rfl) (by kernel_rfl) (by kernel_rfl) (by kernel_rfl) (fun _ _ _ h => h) (Or.inl ⟨by rfl, ?_⟩) (fun _ => hS) ?_
                  rotate_left
                  · (intro V; go_simp; (try with_reducible rfl))
                  (try simp only [Act.put, List.setIfInBounds_toArray, List.set_cons_zero, List.set_cons_succ])
                  refine wpAnyB_take0 (i := 5) (v := ?_) rfl (by kernel_rfl) (by kernel_rfl) (by kernel_rfl) (by kernel_rfl) (fun _ _ _ h => h) (Or.inl ⟨by rfl, ?_⟩) (fun _ => hS) ?_
                  rotate_left
                  · (intro V; go_simp; (try with_reducible rfl))
                  (try simp only [Act.put, List.setIfInBounds_toArray, List.set_cons_zero, List.set_cons_succ])
                  refine wpAnyB_take0 (i := 6) (v := ?_) rfl (by kernel_rfl) (by kernel_rfl) (by kernel_rfl) (by kernel_rfl) (fun _ _ _ h => h) (Or.inl ⟨by rfl, ?_⟩) (fun _ => hS) ?_
                  rotate_left
                  · (intro V; go_simp; (try with_reducible rfl))
                  (try simp only [Act.put, List.setIfInBounds_toArray, List.set_cons_zero, List.set_cons_succ])
                  have kf := HT.out.ou.fr
                  have kl := HT.out.ou.lt
                  refine wpAnyB_ready (rs := [7]) (by kernel_rfl) (by simp) ?_
                  refine AllReadyB.cons rfl (fun K hK => ?_) AllReadyB.nil
                  go_simp
                  refine hK.out _ _ (fun h => absurd h (by decide)) ?_
                  clear hK K
                  (try simp only [Act.put, List.setIfInBounds_toArray, List.set_cons_zero, List.set_cons_succ])
                  refine wpAnyB_done (by kernel_rfl) ?_ _
                  clear hS
                  have T1 := HT.out.setO (v := Pl.cnt C m q 1 t + 1) (show q * 3 + 1 < 9 by omega) (tlist_set _ _ _ hq3 _).2.1
                  rw [show mx q (fun i => Pl.cnt C m i 2 (t + 1)) (fun i => Pl.cnt C m i 2 (t)) = mx (q + 1) (fun i => Pl.cnt C m i 2 (t + 1)) (fun i => Pl.cnt C m i 2 (t)) from mx_keep (f := (fun i => Pl.cnt C m i 2 (t + 1))) (g := (fun i => Pl.cnt C m i 2 (t))) CB2.out] at T1
                  rw [show Pl.upd (mx q (fun i => Pl.cnt C m i 1 (t + 1)) (fun i => Pl.cnt C m i 1 (t))) q (Pl.cnt C m q 1 t + 1) = mx (q + 1) (fun i => Pl.cnt C m i 1 (t + 1)) (fun i => Pl.cnt C m i 1 (t)) from mx_inc (f := (fun i => Pl.cnt C m i 1 (t + 1))) (g := (fun i => Pl.cnt C m i 1 (t))) CA.out] at T1
                  rw [show mx q (fun i => Pl.cnt C m i 0 (t + 1)) (fun i => Pl.cnt C m i 0 (t)) = mx (q + 1) (fun i => Pl.cnt C m i 0 (t + 1)) (fun i => Pl.cnt C m i 0 (t)) from mx_keep (f := (fun i => Pl.cnt C m i 0 (t + 1))) (g := (fun i => Pl.cnt C m i 0 (t))) CB0.out] at T1
                  have T1 := T1.dr
                  have d0 := T1.io.at (2 * q) _ (onlist_at _ (by omega))
                  have d1 := T1.io.at (2 * q + 1) _ (onlist_at _ (by omega))
                  rw [io0] at d0
                  rw [io1] at d1
                  have HT1 := Lib.hid T1
                  clear T1 z io0 io1 ko kf kl
                  go_wp2_with fail
                  refine ⟨⟨q + 1, by omega, by go_num, HT1.out⟩, ?_⟩
                  · first | (simp [intOf]; done) | (simp [intOf]; omega)
                · skip
                  have z : sv = 2 := z
                  have y0 : (sv == 2) = true := by simp; omega
                  have y1 : (sv == 1) = false := by simp; omega
                  have cst : ∀ c', Pl.cnt C m q c' (t + 1) = Pl.cnt C m q c' t + if sv = c' then 1 else 0 := fun c' => by rw [HSV.out]; rfl
                  have ca : Pl.cnt C m q 2 (t + 1) = Pl.cnt C m q 2 t + 1 := by rw [cst, if_pos z]
                  have cb1 : Pl.cnt C m q 1 (t + 1) = Pl.cnt C m q 1 t := by rw [cst, if_neg (by omega)]; omega
                  have cb0 : Pl.cnt C m q 0 (t + 1) = Pl.cnt C m q 0 t := by rw [cst, if_neg (by omega)]; omega
                  have cz := Pl.cnt_nonneg C m q 2 t
                  have cy := Pl.cnt_le C m q 2 t
                  have wc : IntKind.i64.wrap (Pl.cnt C m q 2 t + 1) = Pl.cnt C m q 2 t + 1 := IntWalk.i64_in _ (by omega)
                  have ko := HT.out.ou.at (q * 3) _ (tlist_at _ _ _ hq3).1
                  rw [mx_at] at ko
                  have CA := Lib.hid ca
                  have CB1 := Lib.hid cb1
                  have CB0 := Lib.hid cb0
                  clear ca cst cb1 cb0
                  (try dsimp only at ko)
                  go_upto_region 17 with fail
                  refine wp_region_B (fun V => V.cell? ⟨w2.heap.size, q * 3, none⟩ = some (.int .i64 (Pl.cnt C m q 2 t))) [7] (by kernel_rfl) ?_
                  have hS := ko
                  refine wpAnyB_take0 (i := 0) (v := ?_) rfl (by kernel_rfl) (by kernel_rfl) (by kernel_rfl) (by kernel_rfl) (fun _ _ _ h => h) (Or.inl ⟨by rfl, ?_⟩) (fun _ => hS) ?_
                  rotate_left
                  · (intro V; go_simp; (try with_reducible rfl))
                  (try simp only [Act.put, List.setIfInBounds_toArray, List.set_cons_zero, List.set_cons_succ])
                  refine wpAnyB_take0 (i := 1) (v := ?_) rfl (by kernel_rfl) (by kernel_rfl) (by kernel_rfl) (by kernel_rfl) (fun _ _ _ h => h) (Or.inl ⟨by rfl, ?_⟩) (fun _ => hS) ?_
                  rotate_left
                  · (intro V; go_simp; (try with_reducible rfl))
                  (try simp only [Act.put, List.setIfInBounds_toArray, List.set_cons_zero, List.set_cons_succ])
                  refine wpAnyB_take0 (i := 2) (v := ?_) rfl (by kernel_rfl) (by kernel_rfl) (by kernel_rfl) (by kernel_rfl) (fun _ _ _ h => h) (Or.inl ⟨by rfl, ?_⟩) (fun _ => hS) ?_
                  rotate_left
                  · (intro V; go_simp; (try with_reducible rfl))
                  (try simp only [Act.put, List.setIfInBounds_toArray, List.set_cons_zero, List.set_cons_succ])
                  refine wpAnyB_take (i := 3) (v := ?_) rfl (by kernel_rfl) (by kernel_rfl) (by kernel_rfl) (by kernel_rfl) (by kernel_rfl) (by kernel_rfl) (fun _ _ _ h => h) (Or.inl ⟨by rfl, ?_⟩) hS ?_
                  rotate_left
                  · (intro V hV; have e0 := hV; go_simp; (try with_reducible rfl))
                  (try simp only [Act.put, List.setIfInBounds_toArray, List.set_cons_zero, List.set_cons_succ])
                  refine wpAnyB_take0 (i := 4) (v := ?_) rfl (by kernel_rfl) (by kernel_rfl) (by kernel_rfl) (by kernel_rfl) (fun _ _ _ h => h) (Or.inl ⟨by rfl, ?_⟩) (fun _ => hS) ?_
                  rotate_left
                  · (intro V; go_simp; (try with_reducible rfl))
                  (try simp only [Act.put, List.setIfInBounds_toArray, List.set_cons_zero, List.set_cons_succ])
                  refine wpAnyB_take0 (i := 5) (v := ?_) rfl (by kernel_rfl) (by kernel_rfl) (by kernel_rfl) (by kernel_rfl) (fun _ _ _ h => h) (Or.inl ⟨by rfl, ?_⟩) (fun _ => hS) ?_
                  rotate_left
                  · (intro V; go_simp; (try with_reducible rfl))
                  (try simp only [Act.put, List.setIfInBounds_toArray, List.set_cons_zero, List.set_cons_succ])
                  refine wpAnyB_take0 (i := 6) (v := ?_) rfl (by kernel_rfl) (by kernel_rfl) (by kernel_rfl) (by kernel_rfl) (fun _ _ _ h => h) (Or.inl ⟨by rfl, ?_⟩) (fun _ => hS) ?_
                  rotate_left
                  · (intro V; go_simp; (try with_reducible rfl))
                  (try simp only [Act.put, List.setIfInBounds_toArray, List.set_cons_zero, List.set_cons_succ])
                  have kf := HT.out.ou.fr
                  have kl := HT.out.ou.lt
                  refine wpAnyB_ready (rs := [7]) (by kernel_rfl) (by simp) ?_
                  refine AllReadyB.cons rfl (fun K hK => ?_) AllReadyB.nil
                  go_simp
                  refine hK.out _ _ (fun h => absurd h (by decide)) ?_
                  clear hK K
                  (try simp only [Act.put, List.setIfInBounds_toArray, List.set_cons_zero, List.set_cons_succ])
                  refine wpAnyB_done (by kernel_rfl) ?_ _
                  clear hS
                  have T1 := HT.out.setO (v := Pl.cnt C m q 2 t + 1) (show q * 3 < 9 by omega) (tlist_set _ _ _ hq3 _).1
                  rw [show Pl.upd (mx q (fun i => Pl.cnt C m i 2 (t + 1)) (fun i => Pl.cnt C m i 2 (t))) q (Pl.cnt C m q 2 t + 1) = mx (q + 1) (fun i => Pl.cnt C m i 2 (t + 1)) (fun i => Pl.cnt C m i 2 (t)) from mx_inc (f := (fun i => Pl.cnt C m i 2 (t + 1))) (g := (fun i => Pl.cnt C m i 2 (t))) CA.out] at T1
                  rw [show mx q (fun i => Pl.cnt C m i 1 (t + 1)) (fun i => Pl.cnt C m i 1 (t)) = mx (q + 1) (fun i => Pl.cnt C m i 1 (t + 1)) (fun i => Pl.cnt C m i 1 (t)) from mx_keep (f := (fun i => Pl.cnt C m i 1 (t + 1))) (g := (fun i => Pl.cnt C m i 1 (t))) CB1.out] at T1
                  rw [show mx q (fun i => Pl.cnt C m i 0 (t + 1)) (fun i => Pl.cnt C m i 0 (t)) = mx (q + 1) (fun i => Pl.cnt C m i 0 (t + 1)) (fun i => Pl.cnt C m i 0 (t)) from mx_keep (f := (fun i => Pl.cnt C m i 0 (t + 1))) (g := (fun i => Pl.cnt C m i 0 (t))) CB0.out] at T1
                  have T1 := T1.dr
                  have d0 := T1.io.at (2 * q) _ (onlist_at _ (by omega))
                  have d1 := T1.io.at (2 * q + 1) _ (onlist_at _ (by omega))
                  rw [io0] at d0
                  rw [io1] at d1
                  have HT1 := Lib.hid T1
                  clear T1 z io0 io1 ko kf kl
                  go_wp2_with fail
                  refine ⟨⟨q + 1, by omega, by go_num, HT1.out⟩, ?_⟩
                  · first | (simp [intOf]; done) | (simp [intOf]; omega)
              · obtain rfl : q = 3 := by omega
                have HT := Lib.hid TT
                clear TT
                go_wp2_with fail
                refine ⟨⟨t + 1, by omega, by go_num, by first | rfl | (rw [HNX.out]; rfl), HT.out.full⟩, ?_⟩
                · first | (simp [intOf]; done) | (simp [intOf]; omega)
        · have hge : ((Pl.sim C m (3 * P)).es.length : Int) ≤ (j : Int) := by omega
          have dj : decide (j < (Pl.sim C m (3 * P)).es.length) = false := decide_eq_false hlt
          have hl3 : (Pl.sim C m kk).es.length = (Pl.sim C m (3 * t + 3)).es.length := by
            have a1 := es_mono' C m k3
            have a2 := es_mono' C m (show 3 * t + 3 ≤ 3 * P by omega)
            omega
          have st3 := Pl.still C m k3 hl3
          rw [← st3.1] at TT
          have HTT := Lib.hid TT
          have HNX := Lib.hid (hj.trans hl3)
          clear TT st3 hl3 hj
          (try clear n3)
          go_wp2_with fail
          go_loopw [60] (fun i wx => Upto 3 (fun q => TM w wx w2.heap.size (w2.heap.size + 1) [.int .i64 P, .bool (m.s 0 == 2), .bool (m.s 0 == 1), .bool (m.s 1 == 2), .bool (m.s 1 == 1), .bool (m.s 2 == 2), .bool (m.s 2 == 1), .slice a (Pl.sim C m (3 * P)).es.length k] (mx q (fun i => Pl.cnt C m i 2 (t + 1)) (fun i => Pl.cnt C m i 2 (t))) (mx q (fun i => Pl.cnt C m i 1 (t + 1)) (fun i => Pl.cnt C m i 1 (t))) (mx q (fun i => Pl.cnt C m i 0 (t + 1)) (fun i => Pl.cnt C m i 0 (t))) (Pl.sim C m (3 * t + 3)).s) i) (fun i _ => 3 - (intOf i).toNat)
          case atStart => exact ⟨0, by omega, rfl, HTT.out⟩
          case round =>
            clear HTT
            obtain ⟨q, hq, rfl, TT⟩ := hrel
            by_cases hq3 : q < 3
            · have q3 : (q : Int) < 3 := by omega
              have HT := Lib.hid TT
              obtain ⟨sv, hsv⟩ : ∃ x, x = (Pl.sim C m (3 * t + 3)).s q := ⟨_, rfl⟩
              have ivs := (Pl.inv C H.out.beg (3 * t + 3)).s q hq3
              rw [← hsv] at ivs
              obtain ⟨ivs1, ivs2⟩ := ivs
              have HSV := Lib.hid hsv
              have w2q : IntKind.i64.wrap (2 * (q : Int)) = 2 * (q : Int) := IntWalk.i64_in _ (by omega)
              have w2q1 : IntKind.i64.wrap (2 * (q : Int) + 1) = 2 * (q : Int) + 1 := IntWalk.i64_in _ (by omega)
              have q20 : (0 : Int) ≤ 2 * (q : Int) := by omega
              have q26 : 2 * (q : Int) < 6 := by omega
              have q210 : (0 : Int) ≤ 2 * (q : Int) + 1 := by omega
              have q216 : 2 * (q : Int) + 1 < 6 := by omega
              have io0 : onb (Pl.sim C m (3 * t + 3)).s (2 * q) = (sv == 2) := by rw [hsv]; unfold onb; rw [if_pos (by omega), show 2 * q / 2 = q by omega]
              have io1 : onb (Pl.sim C m (3 * t + 3)).s (2 * q + 1) = (sv == 1) := by rw [hsv]; unfold onb; rw [if_neg (by omega), show (2 * q + 1) / 2 = q by omega]
              have c0 := HT.out.io.at (2 * q) _ (onlist_at _ (by omega))
              have c1 := HT.out.io.at (2 * q + 1) _ (onlist_at _ (by omega))
              rw [io0] at c0
              rw [io1] at c1
              clear hsv TT
              have z012 : sv = 0 ∨ sv = 1 ∨ sv = 2 := by omega
              rcases z012 with z | z | z
              · skip
                have z : sv = 0 := z
                have y0 : (sv == 2) = false := by simp; omega
                have y1 : (sv == 1) = false := by simp; omega
                have cst : ∀ c', Pl.cnt C m q c' (t + 1) = Pl.cnt C m q c' t + if sv = c' then 1 else 0 := fun c' => by rw [HSV.out]; rfl
                have ca : Pl.cnt C m q 0 (t + 1) = Pl.cnt C m q 0 t + 1 := by rw [cst, if_pos z]
                have cb2 : Pl.cnt C m q 2 (t + 1) = Pl.cnt C m q 2 t := by rw [cst, if_neg (by omega)]; omega
                have cb1 : Pl.cnt C m q 1 (t + 1) = Pl.cnt C m q 1 t := by rw [cst, if_neg (by omega)]; omega
                have cz := Pl.cnt_nonneg C m q 0 t
                have cy := Pl.cnt_le C m q 0 t
                have wc : IntKind.i64.wrap (Pl.cnt C m q 0 t + 1) = Pl.cnt C m q 0 t + 1 := IntWalk.i64_in _ (by omega)
                have ko := HT.out.ou.at (q * 3 + 2) _ (tlist_at _ _ _ hq3).2.2
                rw [mx_at] at ko
                have CA := Lib.hid ca
                have CB2 := Lib.hid cb2
                have CB1 := Lib.hid cb1
                clear ca cst cb2 cb1
                (try dsimp only at ko)
                go_upto_region 21 with fail
                refine wp_region_B (fun V => V.cell? ⟨w2.heap.size, q * 3 + 2, none⟩ = some (.int .i64 (Pl.cnt C m q 0 t))) [7] (by kernel_rfl) ?_
                have hS := ko
                refine wpAnyB_take0 (i := 0) (v := ?_) rfl (by kernel_rfl) (by kernel_rfl) (by kernel_rfl) (by kernel_rfl) (fun _ _ _ h => h) (Or.inl ⟨by rfl, ?_⟩) (fun _ => hS) ?_
                rotate_left
                · (intro V; go_simp; (try with_reducible rfl))
                (try simp only [Act.put, List.setIfInBounds_toArray, List.set_cons_zero, List.set_cons_succ])
                refine wpAnyB_take0 (i := 1) (v := ?_) rfl (by kernel_rfl) (by kernel_rfl) (by kernel_rfl) (by kernel_rfl) (fun _ _ _ h => h) (Or.inl ⟨by rfl, ?_⟩) (fun _ => hS) ?_
                rotate_left
                · (intro V; go_simp; (try with_reducible rfl))
                (try simp only [Act.put, List.setIfInBounds_toArray, List.set_cons_zero, List.set_cons_succ])
                refine wpAnyB_take0 (i := 2) (v := ?_) rfl (by kernel_rfl) (by kernel_rfl) (by kernel_rfl) (by kernel_rfl) (fun _ _ _ h => h) (Or.inl ⟨by rfl, ?_⟩) (fun _ => hS) ?_
                rotate_left
                · (intro V; go_simp; (try with_reducible rfl))
                (try simp only [Act.put, List.setIfInBounds_toArray, List.set_cons_zero, List.set_cons_succ])
                refine wpAnyB_take (i := 3) (v := ?_) rfl (by kernel_rfl) (by kernel_rfl) (by kernel_rfl) (by kernel_rfl) (by kernel_rfl) (by kernel_rfl) (fun _ _ _ h => h) (Or.inl ⟨by rfl, ?_⟩) hS ?_
                rotate_left
                · (intro V hV; have e0 := hV; go_simp; (try with_reducible rfl))
                (try simp only [Act.put, List.setIfInBounds_toArray, List.set_cons_zero, List.set_cons_succ])
                refine wpAnyB_take0 (i := 4) (v := ?_) rfl (by kernel_rfl) (by kernel_rfl) (by kernel_rfl) (by kernel_rfl) (fun _ _ _ h => h) (Or.inl ⟨by rfl, ?_⟩) (fun _ => hS) ?_
                rotate_left
                · (intro V; go_simp; (try with_reducible rfl))
                (try simp only [Act.put, List.setIfInBounds_toArray, List.set_cons_zero, List.set_cons_succ])
                refine wpAnyB_take0 (i := 5) (v := ?_) rfl (by kernel_rfl) (by kernel_rfl) (by kernel_rfl) (by kernel_rfl) (fun _ _ _ h => h) (Or.inl ⟨by rfl, ?_⟩) (fun _ => hS) ?_
                rotate_left
                · (intro V; go_simp; (try with_reducible rfl))
                (try simp only [Act.put, List.setIfInBounds_toArray, List.set_cons_zero, List.set_cons_succ])
                refine wpAnyB_take0 (i := 6) (v := ?_) rfl (by kernel_rfl) (by kernel_rfl) (by kernel_rfl) (by kernel_rfl) (fun _ _ _ h => h) (Or.inl ⟨by rfl, ?_⟩) (fun _ => hS) ?_
                rotate_left
                · (intro V; go_simp; (try with_reducible rfl))
                (try simp only [Act.put, List.setIfInBounds_toArray, List.set_cons_zero, List.set_cons_succ])
                have kf := HT.out.ou.fr
                have kl := HT.out.ou.lt
                refine wpAnyB_ready (rs := [7]) (by kernel_rfl) (by simp) ?_
                refine AllReadyB.cons rfl (fun K hK => ?_) AllReadyB.nil
                go_simp
                refine hK.out _ _ (fun h => absurd h (by decide)) ?_
                clear hK K
                (try simp only [Act.put, List.setIfInBounds_toArray, List.set_cons_zero, List.set_cons_succ])
                refine wpAnyB_done (by kernel_rfl) ?_ _
                clear hS
                have T1 := HT.out.setO (v := Pl.cnt C m q 0 t + 1) (show q * 3 + 2 < 9 by omega) (tlist_set _ _ _ hq3 _).2.2
                rw [show mx q (fun i => Pl.cnt C m i 2 (t + 1)) (fun i => Pl.cnt C m i 2 (t)) = mx (q + 1) (fun i => Pl.cnt C m i 2 (t + 1)) (fun i => Pl.cnt C m i 2 (t)) from mx_keep (f := (fun i => Pl.cnt C m i 2 (t + 1))) (g := (fun i => Pl.cnt C m i 2 (t))) CB2.out] at T1
                rw [show mx q (fun i => Pl.cnt C m i 1 (t + 1)) (fun i => Pl.cnt C m i 1 (t)) = mx (q + 1) (fun i => Pl.cnt C m i 1 (t + 1)) (fun i => Pl.cnt C m i 1 (t)) from mx_keep (f := (fun i => Pl.cnt C m i 1 (t + 1))) (g := (fun i => Pl.cnt C m i 1 (t))) CB1.out] at T1
                rw [show Pl.upd (mx q (fun i => Pl.cnt C m i 0 (t + 1)) (fun i => Pl.cnt C m i 0 (t))) q (Pl.cnt C m q 0 t + 1) = mx (q + 1) (fun i => Pl.cnt C m i 0 (t + 1)) (fun i => Pl.cnt C m i 0 (t)) from mx_inc (f := (fun i => Pl.cnt C m i 0 (t + 1))) (g := (fun i => Pl.cnt C m i 0 (t))) CA.out] at T1
                have T1 := T1.dr
                have d0 := T1.io.at (2 * q) _ (onlist_at _ (by omega))
                have d1 := T1.io.at (2 * q + 1) _ (onlist_at _ (by omega))
                rw [io0] at d0
                rw [io1] at d1
                have HT1 := Lib.hid T1
                clear T1 z io0 io1 ko kf kl
                go_wp2_with fail
                refine ⟨⟨q + 1, by omega, by go_num, HT1.out⟩, ?_⟩
                · first | (simp [intOf]; done) | (simp [intOf]; omega)
              · skip
                have z : sv = 1 := z
                have y0 : (sv == 2) = false := by simp; omega
                have y1 : (sv == 1) = true := by simp; omega
                have cst : ∀ c', Pl.cnt C m q c' (t + 1) = Pl.cnt C m q c' t + if sv = c' then 1 else 0 := fun c' => by rw [HSV.out]; rfl
                have ca : Pl.cnt C m q 1 (t + 1) = Pl.cnt C m q 1 t + 1 := by rw [cst, if_pos z]
                have cb2 : Pl.cnt C m q 2 (t + 1) = Pl.cnt C m q 2 t := by rw [cst, if_neg (by omega)]; omega
                have cb0 : Pl.cnt C m q 0 (t + 1) = Pl.cnt C m q 0 t := by rw [cst, if_neg (by omega)]; omega
                have cz := Pl.cnt_nonneg C m q 1 t
                have cy := Pl.cnt_le C m q 1 t
                have wc : IntKind.i64.wrap (Pl.cnt C m q 1 t + 1) = Pl.cnt C m q 1 t + 1 := IntWalk.i64_in _ (by omega)
                have ko := HT.out.ou.at (q * 3 + 1) _ (tlist_at _ _ _ hq3).2.1
                rw [mx_at] at ko
                have CA := Lib.hid ca
                have CB2 := Lib.hid cb2
                have CB0 := Lib.hid cb0
                clear ca cst cb2 cb0
                (try dsimp only at ko)
                go_upto_region 19 with fail
                refine wp_region_B (fun V => V.cell? ⟨w2.heap.size, q * 3 + 1, none⟩ = some (.int .i64 (Pl.cnt C m q 1 t))) [7] (by kernel_rfl) ?_
                have hS := ko
                refine wpAnyB_take0 (i := 0) (v := ?_) rfl (by kernel_rfl) (by kernel_rfl) (by kernel_rfl) (by kernel_rfl) (fun _ _ _ h => h) (Or.inl ⟨by rfl, ?_⟩) (fun _ => hS) ?_
                rotate_left
                · (intro V; go_simp; (try with_reducible rfl))
                (try simp only [Act.put, List.setIfInBounds_toArray, List.set_cons_zero, List.set_cons_succ])
                refine wpAnyB_take0 (i := 1) (v := ?_) rfl (by kernel_rfl) (by kernel_rfl) (by kernel_rfl) (by kernel_rfl) (fun _ _ _ h => h) (Or.inl ⟨by rfl, ?_⟩) (fun _ => hS) ?_
                rotate_left
                · (intro V; go_simp; (try with_reducible rfl))
                (try simp only [Act.put, List.setIfInBounds_toArray, List.set_cons_zero, List.set_cons_succ])
                refine wpAnyB_take0 (i := 2) (v := ?_) rfl (by kernel_rfl) (by kernel_rfl) (by kernel_rfl) (by kernel_rfl) (fun _ _ _ h => h) (Or.inl ⟨by rfl, ?_⟩) (fun _ => hS) ?_
                rotate_left
                · (intro V; go_simp; (try with_reducible rfl))
                (try simp only [Act.put, List.setIfInBounds_toArray, List.set_cons_zero, List.set_cons_succ])
                refine wpAnyB_take (i := 3) (v := ?_) rfl (by kernel_rfl) (by kernel_rfl) (by kernel_rfl) (by kernel_rfl) (by kernel_rfl) (by kernel_rfl) (fun _ _ _ h => h) (Or.inl ⟨by rfl, ?_⟩) hS ?_
                rotate_left
                · (intro V hV; have e0 := hV; go_simp; (try with_reducible rfl))
                (try simp only [Act.put, List.setIfInBounds_toArray, List.set_cons_zero, List.set_cons_succ])
                refine wpAnyB_take0 (i := 4) (v := ?_) rfl (by kernel_rfl) (by kernel_rfl) (by kernel_rfl) (by kernel_rfl) (fun _ _ _ h => h) (Or.inl ⟨by rfl, ?_⟩) (fun _ => hS) ?_
                rotate_left
                · (intro V; go_simp; (try with_reducible rfl))
                (try simp only [Act.put, List.setIfInBounds_toArray, List.set_cons_zero, List.set_cons_succ])
                refine wpAnyB_take0 (i := 5) (v := ?_) rfl (by kernel_rfl) (by kernel_rfl) (by kernel_rfl) (by kernel_rfl) (fun _ _ _ h => h) (Or.inl ⟨by rfl, ?_⟩) (fun _ => hS) ?_
                rotate_left
                · (intro V; go_simp; (try with_reducible rfl))
                (try simp only [Act.put, List.setIfInBounds_toArray, List.set_cons_zero, List.set_cons_succ])
                refine wpAnyB_take0 (i := 6) (v := ?_) rfl (by kernel_rfl) (by kernel_rfl) (by kernel_rfl) (by kernel_rfl) (fun _ _ _ h => h) (Or.inl ⟨by rfl, ?_⟩) (fun _ => hS) ?_
                rotate_left
                · (intro V; go_simp; (try with_reducible rfl))
                (try simp only [Act.put, List.setIfInBounds_toArray, List.set_cons_zero, List.set_cons_succ])
                have kf := HT.out.ou.fr
                have kl := HT.out.ou.lt
                refine wpAnyB_ready (rs := [7]) (by kernel_rfl) (by simp) ?_
                refine AllReadyB.cons rfl (fun K hK => ?_) AllReadyB.nil
                go_simp
                refine hK.out _ _ (fun h => absurd h (by decide)) ?_
                clear hK K
                (try simp only [Act.put, List.setIfInBounds_toArray, List.set_cons_zero, List.set_cons_succ])
                refine wpAnyB_done (by kernel_rfl) ?_ _
                clear hS
                have T1 := HT.out.setO (v := Pl.cnt C m q 1 t + 1) (show q * 3 + 1 < 9 by omega) (tlist_set _ _ _ hq3 _).2.1
                rw [show mx q (fun i => Pl.cnt C m i 2 (t + 1)) (fun i => Pl.cnt C m i 2 (t)) = mx (q + 1) (fun i => Pl.cnt C m i 2 (t + 1)) (fun i => Pl.cnt C m i 2 (t)) from mx_keep (f := (fun i => Pl.cnt C m i 2 (t + 1))) (g := (fun i => Pl.cnt C m i 2 (t))) CB2.out] at T1
                rw [show Pl.upd (mx q (fun i => Pl.cnt C m i 1 (t + 1)) (fun i => Pl.cnt C m i 1 (t))) q (Pl.cnt C m q 1 t + 1) = mx (q + 1) (fun i => Pl.cnt C m i 1 (t + 1)) (fun i => Pl.cnt C m i 1 (t)) from mx_inc (f := (fun i => Pl.cnt C m i 1 (t + 1))) (g := (fun i => Pl.cnt C m i 1 (t))) CA.out] at T1
                rw [show mx q (fun i => Pl.cnt C m i 0 (t + 1)) (fun i => Pl.cnt C m i 0 (t)) = mx (q + 1) (fun i => Pl.cnt C m i 0 (t + 1)) (fun i => Pl.cnt C m i 0 (t)) from mx_keep (f := (fun i => Pl.cnt C m i 0 (t + 1))) (g := (fun i => Pl.cnt C m i 0 (t))) CB0.out] at T1
                have T1 := T1.dr
                have d0 := T1.io.at (2 * q) _ (onlist_at _ (by omega))
                have d1 := T1.io.at (2 * q + 1) _ (onlist_at _ (by omega))
                rw [io0] at d0
                rw [io1] at d1
                have HT1 := Lib.hid T1
                clear T1 z io0 io1 ko kf kl
                go_wp2_with fail
                refine ⟨⟨q + 1, by omega, by go_num, HT1.out⟩, ?_⟩
                · first | (simp [intOf]; done) | (simp [intOf]; omega)
              · skip
                have z : sv = 2 := z
                have y0 : (sv == 2) = true := by simp; omega
                have y1 : (sv == 1) = false := by simp; omega
                have cst : ∀ c', Pl.cnt C m q c' (t + 1) = Pl.cnt C m q c' t + if sv = c' then 1 else 0 := fun c' => by rw [HSV.out]; rfl
                have ca : Pl.cnt C m q 2 (t + 1) = Pl.cnt C m q 2 t + 1 := by rw [cst, if_pos z]
                have cb1 : Pl.cnt C m q 1 (t + 1) = Pl.cnt C m q 1 t := by rw [cst, if_neg (by omega)]; omega
                have cb0 : Pl.cnt C m q 0 (t + 1) = Pl.cnt C m q 0 t := by rw [cst, if_neg (by omega)]; omega
                have cz := Pl.cnt_nonneg C m q 2 t
                have cy := Pl.cnt_le C m q 2 t
                have wc : IntKind.i64.wrap (Pl.cnt C m q 2 t + 1) = Pl.cnt C m q 2 t + 1 := IntWalk.i64_in _ (by omega)
                have ko := HT.out.ou.at (q * 3) _ (tlist_at _ _ _ hq3).1
                rw [mx_at] at ko
                have CA := Lib.hid ca
                have CB1 := Lib.hid cb1
                have CB0 := Lib.hid cb0
                clear ca cst cb1 cb0
                (try dsimp only at ko)
                go_upto_region 17 with fail
                refine wp_region_B (fun V => V.cell? ⟨w2.heap.size, q * 3, none⟩ = some (.int .i64 (Pl.cnt C m q 2 t))) [7] (by kernel_rfl) ?_
                have hS := ko
                refine wpAnyB_take0 (i := 0) (v := ?_) rfl (by kernel_rfl) (by kernel_rfl) (by kernel_rfl) (by kernel_rfl) (fun _ _ _ h => h) (Or.inl ⟨by rfl, ?_⟩) (fun _ => hS) ?_
                rotate_left
                · (intro V; go_simp; (try with_reducible rfl))
                (try simp only [Act.put, List.setIfInBounds_toArray, List.set_cons_zero, List.set_cons_succ])
                refine wpAnyB_take0 (i := 1) (v := ?_) rfl (by kernel_rfl) (by kernel_rfl) (by kernel_rfl) (by kernel_rfl) (fun _ _ _ h => h) (Or.inl ⟨by rfl, ?_⟩) (fun _ => hS) ?_
                rotate_left
                · (intro V; go_simp; (try with_reducible rfl))
                (try simp only [Act.put, List.setIfInBounds_toArray, List.set_cons_zero, List.set_cons_succ])
                refine wpAnyB_take0 (i := 2) (v := ?_) rfl (by kernel_rfl) (by kernel_rfl) (by kernel_rfl) (by kernel_rfl) (fun _ _ _ h => h) (Or.inl ⟨by rfl, ?_⟩) (fun _ => hS) ?_
                rotate_left
                · (intro V; go_simp; (try with_reducible rfl))
                (try simp only [Act.put, List.setIfInBounds_toArray, List.set_cons_zero, List.set_cons_succ])
                refine wpAnyB_take (i := 3) (v := ?_) rfl (by kernel_rfl) (by kernel_rfl) (by kernel_rfl) (by kernel_rfl) (by kernel_rfl) (by kernel_rfl) (fun _ _ _ h => h) (Or.inl ⟨by rfl, ?_⟩) hS ?_
                rotate_left
                · (intro V hV; have e0 := hV; go_simp; (try with_reducible rfl))
                (try simp only [Act.put, List.setIfInBounds_toArray, List.set_cons_zero, List.set_cons_succ])
                refine wpAnyB_take0 (i := 4) (v := ?_) rfl (by kernel_rfl) (by kernel_rfl) (by kernel_rfl) (by kernel_rfl) (fun _ _ _ h => h) (Or.inl ⟨by rfl, ?_⟩) (fun _ => hS) ?_
                rotate_left
                · (intro V; go_simp; (try with_reducible rfl))
                (try simp only [Act.put, List.setIfInBounds_toArray, List.set_cons_zero, List.set_cons_succ])
                refine wpAnyB_take0 (i := 5) (v := ?_) rfl (by kernel_rfl) (by kernel_rfl) (by kernel_rfl) (by kernel_rfl) (fun _ _ _ h => h) (Or.inl ⟨by rfl, ?_⟩) (fun _ => hS) ?_
                rotate_left
                · (intro V; go_simp; (try with_reducible rfl))
                (try simp only [Act.put, List.setIfInBounds_toArray, List.set_cons_zero, List.set_cons_succ])
                refine wpAnyB_take0 (i := 6) (v := ?_) rfl (by kernel_rfl) (by kernel_rfl) (by kernel_rfl) (by kernel_rfl) (fun _ _ _ h => h) (Or.inl ⟨by rfl, ?_⟩) (fun _ => hS) ?_
                rotate_left
                · (intro V; go_simp; (try with_reducible rfl))
                (try simp only [Act.put, List.setIfInBounds_toArray, List.set_cons_zero, List.set_cons_succ])
                have kf := HT.out.ou.fr
                have kl := HT.out.ou.lt
                refine wpAnyB_ready (rs := [7]) (by kernel_rfl) (by simp) ?_
                refine AllReadyB.cons rfl (fun K hK => ?_) AllReadyB.nil
                go_simp
                refine hK.out _ _ (fun h => absurd h (by decide)) ?_
                clear hK K
                (try simp only [Act.put, List.setIfInBounds_toArray, List.set_cons_zero, List.set_cons_succ])
                refine wpAnyB_done (by kernel_rfl) ?_ _
                clear hS
                have T1 := HT.out.setO (v := Pl.cnt C m q 2 t + 1) (show q * 3 < 9 by omega) (tlist_set _ _ _ hq3 _).1
                rw [show Pl.upd (mx q (fun i => Pl.cnt C m i 2 (t + 1)) (fun i => Pl.cnt C m i 2 (t))) q (Pl.cnt C m q 2 t + 1) = mx (q + 1) (fun i => Pl.cnt C m i 2 (t + 1)) (fun i => Pl.cnt C m i 2 (t)) from mx_inc (f := (fun i => Pl.cnt C m i 2 (t + 1))) (g := (fun i => Pl.cnt C m i 2 (t))) CA.out] at T1
                rw [show mx q (fun i => Pl.cnt C m i 1 (t + 1)) (fun i => Pl.cnt C m i 1 (t)) = mx (q + 1) (fun i => Pl.cnt C m i 1 (t + 1)) (fun i => Pl.cnt C m i 1 (t)) from mx_keep (f := (fun i => Pl.cnt C m i 1 (t + 1))) (g := (fun i => Pl.cnt C m i 1 (t))) CB1.out] at T1
                rw [show mx q (fun i => Pl.cnt C m i 0 (t + 1)) (fun i => Pl.cnt C m i 0 (t)) = mx (q + 1) (fun i => Pl.cnt C m i 0 (t + 1)) (fun i => Pl.cnt C m i 0 (t)) from mx_keep (f := (fun i => Pl.cnt C m i 0 (t + 1))) (g := (fun i => Pl.cnt C m i 0 (t))) CB0.out] at T1
                have T1 := T1.dr
                have d0 := T1.io.at (2 * q) _ (onlist_at _ (by omega))
                have d1 := T1.io.at (2 * q + 1) _ (onlist_at _ (by omega))
                rw [io0] at d0
                rw [io1] at d1
                have HT1 := Lib.hid T1
                clear T1 z io0 io1 ko kf kl
                go_wp2_with fail
                refine ⟨⟨q + 1, by omega, by go_num, HT1.out⟩, ?_⟩
                · first | (simp [intOf]; done) | (simp [intOf]; omega)
            · obtain rfl : q = 3 := by omega
              have HT := Lib.hid TT
              clear TT
              go_wp2_with fail
              refine ⟨⟨t + 1, by omega, by go_num, by first | rfl | (rw [HNX.out]; rfl), HT.out.full⟩, ?_⟩
              · first | (simp [intOf]; done) | (simp [intOf]; omega)
    · obtain rfl : P = t := by omega
      have hge : (P : Int) ≤ (P : Int) := Int.le_refl _
      have ou : Blk wr w2.heap.size [.int .i64 (Pl.cnt C m 0 2 P), .int .i64 (Pl.cnt C m 0 1 P), .int .i64 (Pl.cnt C m 0 0 P), .int .i64 (Pl.cnt C m 1 2 P), .int .i64 (Pl.cnt C m 1 1 P), .int .i64 (Pl.cnt C m 1 0 P), .int .i64 (Pl.cnt C m 2 2 P), .int .i64 (Pl.cnt C m 2 1 P), .int .i64 (Pl.cnt C m 2 0 P)] := TT.ou
      have o0 := ou.at 0 _ rfl
      have o1 := ou.at 1 _ rfl
      have o2 := ou.at 2 _ rfl
      have o3 := ou.at 3 _ rfl
      have o4 := ou.at 4 _ rfl
      have o5 := ou.at 5 _ rfl
      have o6 := ou.at 6 _ rfl
      have o7 := ou.at 7 _ rfl
      have o8 := ou.at 8 _ rfl
      have ol := ou.lt
      have of := ou.fr
      have r0 := TT.rs.at 0 _ rfl
      have r1 := TT.rs.at 1 _ rfl
      have r2 := TT.rs.at 2 _ rfl
      have r3 := TT.rs.at 3 _ rfl
      have r4 := TT.rs.at 4 _ rfl
      have r5 := TT.rs.at 5 _ rfl
      have r6 := TT.rs.at 6 _ rfl
      have r7 := TT.rs.at 7 _ rfl
      have r8 := TT.rs.at 8 _ rfl
      have rl := TT.rs.lt
      have rf := TT.rs.fr
      have gg := TT.gt
      have g0 := gg.at 0 _ rfl
      have g1 := gg.at 1 _ rfl
      have g2 := gg.at 2 _ rfl
      have g3 := gg.at 3 _ rfl
      have g4 := gg.at 4 _ rfl
      have g5 := gg.at 5 _ rfl
      have g6 := gg.at 6 _ rfl
      have g7 := gg.at 7 _ rfl
      have gl := gg.lt
      have gf := gg.fr
      clear ou
      obtain ⟨n0, hn0⟩ : ∃ x, x = Pl.cnt C m 0 2 P := ⟨_, rfl⟩
      rw [← hn0] at o0
      have HC0 := Lib.hid hn0
      clear hn0
      obtain ⟨n1, hn1⟩ : ∃ x, x = Pl.cnt C m 0 1 P := ⟨_, rfl⟩
      rw [← hn1] at o1
      have HC1 := Lib.hid hn1
      clear hn1
      obtain ⟨n2, hn2⟩ : ∃ x, x = Pl.cnt C m 0 0 P := ⟨_, rfl⟩
      rw [← hn2] at o2
      have HC2 := Lib.hid hn2
      clear hn2
      obtain ⟨n3, hn3⟩ : ∃ x, x = Pl.cnt C m 1 2 P := ⟨_, rfl⟩
      rw [← hn3] at o3
      have HC3 := Lib.hid hn3
      clear hn3
      obtain ⟨n4, hn4⟩ : ∃ x, x = Pl.cnt C m 1 1 P := ⟨_, rfl⟩
      rw [← hn4] at o4
      have HC4 := Lib.hid hn4
      clear hn4
      obtain ⟨n5, hn5⟩ : ∃ x, x = Pl.cnt C m 1 0 P := ⟨_, rfl⟩
      rw [← hn5] at o5
      have HC5 := Lib.hid hn5
      clear hn5
      obtain ⟨n6, hn6⟩ : ∃ x, x = Pl.cnt C m 2 2 P := ⟨_, rfl⟩
      rw [← hn6] at o6
      have HC6 := Lib.hid hn6
      clear hn6
      obtain ⟨n7, hn7⟩ : ∃ x, x = Pl.cnt C m 2 1 P := ⟨_, rfl⟩
      rw [← hn7] at o7
      have HC7 := Lib.hid hn7
      clear hn7
      obtain ⟨n8, hn8⟩ : ∃ x, x = Pl.cnt C m 2 0 P := ⟨_, rfl⟩
      rw [← hn8] at o8
      have HC8 := Lib.hid hn8
      clear hn8
      have HT := Lib.hid TT
      clear TT gg
      go_wp2_with fail
      have ZZ := times_end HT.out.rs (.int .i64 n0) (.int .i64 n1) (.int .i64 n2) (.int .i64 n3) (.int .i64 n4) (.int .i64 n5) (.int .i64 n6) (.int .i64 n7) (.int .i64 n8)
      refine bodyPost_ret (times_ret ZZ rfl rfl) rfl ⟨?_, ?_⟩
      · (first | rfl | (rw [← HC0.out, ← HC1.out, ← HC2.out, ← HC3.out, ← HC4.out, ← HC5.out, ← HC6.out, ← HC7.out, ← HC8.out]; rfl) | rw [← HC0.out, ← HC1.out, ← HC2.out, ← HC3.out, ← HC4.out, ← HC5.out, ← HC6.out, ← HC7.out, ← HC8.out])
      · exact times_ext HT.out.ext _ _ _ _ _ _ _ _ _

end Go.Proofs.Ytfignlcplkihpaa
