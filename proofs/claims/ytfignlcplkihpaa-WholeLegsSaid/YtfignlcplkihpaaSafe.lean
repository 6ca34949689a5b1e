/- The contract of gates.Safe on what Run gives.
   Conditions: the state, the period, the dead time are in their ranges. -/
import Derived.Test.YtfignlcplkihpaaRun
import Derived.Test.YtfignlcplkihpaaSorted
namespace Go.Proofs.Ytfignlcplkihpaa
open Go.ChangeShapes Go.WideShapes Go.ChangeAt Go.RowKit

def onlist (s : Nat → Int) : List Value := [.bool (s 0 == 2), .bool (s 0 == 1), .bool (s 1 == 2), .bool (s 1 == 1), .bool (s 2 == 2), .bool (s 2 == 1)]
def onb (s : Nat → Int) (j : Nat) : Bool := if j % 2 = 0 then s (j / 2) == 2 else s (j / 2) == 1
theorem onlist_at (s : Nat → Int) {j : Nat} (hj : j < 6) : (onlist s)[j]? = some (.bool (onb s j)) := by
  match j, hj with
  | 0, _ => rfl
  | 1, _ => rfl
  | 2, _ => rfl
  | 3, _ => rfl
  | 4, _ => rfl
  | 5, _ => rfl
def lslist (l : Nat → Int) : List Value := [.int .i64 (l 0), .int .i64 (l 1), .int .i64 (l 2)]
theorem lslist_at (l : Nat → Int) {i : Nat} (hi : i < 3) : (lslist l)[i]? = some (.int .i64 (l i)) := by
  match i, hi with
  | 0, _ => rfl
  | 1, _ => rfl
  | 2, _ => rfl
theorem lslist_set (l : Nat → Int) {i : Nat} (hi : i < 3) (v : Int) : (lslist l).set i (.int .i64 v) = lslist (Pl.upd l i v) := by
  match i, hi with
  | 0, _ => rfl
  | 1, _ => rfl
  | 2, _ => rfl
/-- The cell of a switch. -/
def sw (i : Nat) (s : Int) : Nat := if s = 2 then 2 * i else 2 * i + 1
theorem sw_nmb (i : Nat) (s : Int) : Pl.nmb i s = (sw i s : Int) := by unfold Pl.nmb sw; split <;> omega
theorem sw_lt {i : Nat} (hi : i < 3) (s : Int) : sw i s < 6 := by unfold sw; split <;> omega
theorem sw_half (i : Nat) (s : Int) : sw i s / 2 = i := by unfold sw; split <;> omega
theorem on_off (s : Nat → Int) {i : Nat} (hi : i < 3) (h : s i = 1 ∨ s i = 2) : onb s (sw i (s i)) = true ∧ (onlist s).set (sw i (s i)) (.bool false) = onlist (Pl.upd s i 0) := by
  rcases h with h | h
  · match i, hi with
    | 0, _ => rw [h]; unfold sw onb onlist Pl.upd; simp [h]
    | 1, _ => rw [h]; unfold sw onb onlist Pl.upd; simp [h]
    | 2, _ => rw [h]; unfold sw onb onlist Pl.upd; simp [h]
  · match i, hi with
    | 0, _ => rw [h]; unfold sw onb onlist Pl.upd; simp [h]
    | 1, _ => rw [h]; unfold sw onb onlist Pl.upd; simp [h]
    | 2, _ => rw [h]; unfold sw onb onlist Pl.upd; simp [h]
/-- The other switch of the leg. -/
def swo (i : Nat) (s : Int) : Nat := if s = 2 then 2 * i + 1 else 2 * i
theorem on_on (s : Nat → Int) {i : Nat} (hi : i < 3) (h : s i = 0) (v : Int) (hv : v = 1 ∨ v = 2) : onb s (sw i v) = false ∧ onb s (swo i v) = false ∧ (onlist s).set (sw i v) (.bool true) = onlist (Pl.upd s i v) := by
  rcases hv with hv | hv
  · subst hv
    match i, hi with
    | 0, _ => unfold sw swo onb onlist Pl.upd; simp [h]
    | 1, _ => unfold sw swo onb onlist Pl.upd; simp [h]
    | 2, _ => unfold sw swo onb onlist Pl.upd; simp [h]
  · subst hv
    match i, hi with
    | 0, _ => unfold sw swo onb onlist Pl.upd; simp [h]
    | 1, _ => unfold sw swo onb onlist Pl.upd; simp [h]
    | 2, _ => unfold sw swo onb onlist Pl.upd; simp [h]
/-- The memory of Safe. -/
structure SM (w W : World) (B C : Nat) (gl : List Value) (ss dd s l : Nat → Int) : Prop where
  st : Blk W w.heap.size (stlist ss dd)
  gt : Blk W (w.heap.size + 1) gl
  rs : Blk W (w.heap.size + 1 + 1) [.int .i64 0, .int .i64 0, .int .i64 0, .int .i64 0, .int .i64 0, .int .i64 0]
  la : Blk W B (lslist l)
  io : Blk W C (onlist s)
  le : w.heap.size + 1 + 1 < B
  lt : B < C
  ext : Ext w W
section
variable {w W W' : World} {B C : Nat} {gl : List Value} {ss dd s l : Nat → Int}
theorem SM.nx (h : SM w W B C gl ss dd s l) (hx : Ext W W') : SM w W' B C gl ss dd s l := ⟨h.st.ext hx, h.gt.ext hx, h.rs.ext hx, h.la.ext hx, h.io.ext hx, h.le, h.lt, h.ext.trans hx⟩
theorem SM.al (h : SM w W B C gl ss dd s l) (o : Obj) : SM w (W.alloc o) B C gl ss dd s l := h.nx ((Ext.refl W).alloc o)
theorem SM.drN (h : SM w W B C gl ss dd s l) (n : Nat) : SM w (W.drewN n) B C gl ss dd s l := h.nx ((Ext.refl W).drewN n)
theorem SM.dr (h : SM w W B C gl ss dd s l) : SM w W.drew B C gl ss dd s l := h.nx (Ext.refl W).drew
theorem SM.setL (h : SM w W B C gl ss dd s l) {i : Nat} (hi : i < 3) (v : Int) : SM w (W.setCell ⟨B, i, none⟩ (.int .i64 v)) B C gl ss dd s (Pl.upd l i v) := by
  have h1 := h.le
  have h2 := h.lt
  refine ⟨h.st.far (by omega) _, h.gt.far (by omega) _, h.rs.far (by omega) _, ?_, h.io.far (by omega) _, h1, h2, h.ext.setCell (by simp; omega) _⟩
  rw [← lslist_set l hi v]
  exact h.la.set i _ (by show i < 3; exact hi)
theorem SM.setI (h : SM w W B C gl ss dd s l) {s' : Nat → Int} {j : Nat} (hj : j < 6) {b : Bool} (e : (onlist s).set j (.bool b) = onlist s') : SM w (W.setCell ⟨C, j, none⟩ (.bool b)) B C gl ss dd s' l := by
  have h1 := h.le
  have h2 := h.lt
  refine ⟨h.st.far (by omega) _, h.gt.far (by omega) _, h.rs.far (by omega) _, h.la.far (by omega) _, ?_, h1, h2, h.ext.setCell (by simp; omega) _⟩
  rw [← e]
  exact h.io.set j _ (by show j < 6; exact hj)
theorem SM.setS (h : SM w W B C gl ss dd s l) {i : Nat} (hi : i < 3) (v : Int) : SM w (W.setCell ⟨w.heap.size, i * 2, none⟩ (.int .i64 v)) B C gl (Pl.upd ss i v) dd s l := by
  have h1 := h.le
  have h2 := h.lt
  refine ⟨?_, h.gt.far (by omega) _, h.rs.far (by omega) _, h.la.far (by omega) _, h.io.far (by omega) _, h1, h2, h.ext.setCell (Nat.le_refl _) _⟩
  rw [← stlist_s ss dd hi v]
  exact h.st.set (i * 2) _ (by show i * 2 < 6; omega)
theorem SM.setD (h : SM w W B C gl ss dd s l) {i : Nat} (hi : i < 3) (v : Int) : SM w (W.setCell ⟨w.heap.size, i * 2 + 1, none⟩ (.int .i64 v)) B C gl ss (Pl.upd dd i v) s l := by
  have h1 := h.le
  have h2 := h.lt
  refine ⟨?_, h.gt.far (by omega) _, h.rs.far (by omega) _, h.la.far (by omega) _, h.io.far (by omega) _, h1, h2, h.ext.setCell (Nat.le_refl _) _⟩
  rw [← stlist_d ss dd hi v]
  exact h.st.set (i * 2 + 1) _ (by show i * 2 + 1 < 6; omega)
end
/-- f up to i, g from it on. -/
def mx (i : Nat) (f g : Nat → Int) : Nat → Int := fun j => if j < i then f j else g j
theorem mx_upd (i : Nat) (f g : Nat → Int) (v : Int) : Pl.upd (Pl.upd (mx i f g) i v) i (f i) = mx (i + 1) f g := by
  funext j
  unfold Pl.upd mx
  by_cases e : j = i
  · subst e; simp
  · simp only [e, if_false]
    by_cases h : j < i
    · rw [if_pos h, if_pos (by omega)]
    · rw [if_neg h, if_neg (by omega)]
theorem mx_upd1 (i : Nat) (f g : Nat → Int) : Pl.upd (mx i f g) i (f i) = mx (i + 1) f g := by
  have h := mx_upd i f g (f i)
  rwa [upd_upd] at h
theorem stlist_mx (f g f' g' : Nat → Int) : stlist (mx 3 f g) (mx 3 f' g') = stlist f f' := rfl
theorem xor_any (σ τ : Nat) (h : τ < 6) (e : ∃ i : Nat, σ = 2 * i ∧ τ = 2 * i + 1 ∨ σ = 2 * i + 1 ∧ τ = 2 * i) : bits .xor .i64 (σ : Int) 1 = (τ : Int) := by
  obtain ⟨i, e⟩ := e
  have hi : i = 0 ∨ i = 1 ∨ i = 2 := by omega
  clear h
  rcases e with ⟨e1, e2⟩ | ⟨e1, e2⟩ <;> rcases hi with rfl | rfl | rfl <;> subst e1 <;> subst e2 <;> first | rfl | decide +kernel
/-- A counter up to n and what then holds. -/
def Upto (n : Nat) (p : Nat → Prop) (i : Value) : Prop := ∃ q : Nat, q ≤ n ∧ i = .int .i64 q ∧ p q
theorem asc_run (C : Pl.GC) {m : Pl.Sim} (h : Pl.Beg m) (P : Nat) : Asc (Pl.sim C m (3 * P)).es P := by
  have ⟨h1, h2⟩ := Pl.es_keys C h (3 * P)
  refine ⟨h1, fun e he => ?_⟩
  have := h2 e he
  unfold Pl.key at this
  omega
theorem on_same (b0 b1 b2 b3 b4 b5 : Bool) (w : World) : (binOp .neq 49 (.agg #[.bool b0, .bool b1, .bool b2, .bool b3, .bool b4, .bool b5]) (.agg #[.bool b0, .bool b1, .bool b2, .bool b3, .bool b4, .bool b5])).run Try.prog w = .ok (.bool false) w := by
  cases b0 <;> cases b1 <;> cases b2 <;> cases b3 <;> cases b4 <;> cases b5 <;> kernel_rfl

theorem safe_ret {W : World} {n : Nat} {x0 x1 x2 x3 x4 x5 b e : Value} {tmps : Array Value} (X : Blk W n [x0, x1, x2, x3, x4, x5]) (h0 : tmps[6]? = some b) (h1 : tmps[7]? = some (.pointer (some ⟨n, 0, none⟩))) (h2 : tmps[8]? = some e) :
    (results Try.f12 tmps).run Try.prog W = .ok (.tuple #[b, .agg #[x0, x1, x2, x3, x4, x5], e]) W := by
  have y0 := X.at 0 _ rfl
  have y1 := X.at 1 _ rfl
  have y2 := X.at 2 _ rfl
  have y3 := X.at 3 _ rfl
  have y4 := X.at 4 _ rfl
  have y5 := X.at 5 _ rfl
  simp [results, Try.results12, go_sem, h0, h1, h2, y0, y1, y2, y3, y4, y5]
set_option pp.maxSteps 10000000 in
set_option pp.deepTerms true in
set_option linter.unusedSimpArgs false in
set_option maxRecDepth 100000 in
set_option maxHeartbeats 8000000 in
theorem safe_any (C : Pl.GC) (m : Pl.Sim) (P : Nat) (a : Option Addr) (k : Nat) (w : World) (h : RunOK C m P) (hr : RowE w a (Pl.sim C m (3 * P)).es) :
    Calls Try.prog 12 #[.agg #[.int .i64 (m.s 0), .int .i64 (m.d 0), .int .i64 (m.s 1), .int .i64 (m.d 1), .int .i64 (m.s 2), .int .i64 (m.d 2)], .agg #[.int .i64 P, .bool (m.s 0 == 2), .bool (m.s 0 == 1), .bool (m.s 1 == 2), .bool (m.s 1 == 1), .bool (m.s 2 == 2), .bool (m.s 2 == 1), .slice a (Pl.sim C m (3 * P)).es.length k], .int .i64 C.dead] w fun e w' => e = .returned (.tuple #[.bool true, .agg #[.int .i64 ((Pl.sim C m (3 * P)).s 0), .int .i64 ((Pl.sim C m (3 * P)).d 0), .int .i64 ((Pl.sim C m (3 * P)).s 1), .int .i64 ((Pl.sim C m (3 * P)).d 1), .int .i64 ((Pl.sim C m (3 * P)).s 2), .int .i64 ((Pl.sim C m (3 * P)).d 2)], .nilIface]) ∧ Ext w w' := by
  have ⟨p1, p2⟩ := h.per
  have ⟨d1, d2⟩ := h.dead
  have b0 := h.beg.d 0 (by omega)
  have b1 := h.beg.d 1 (by omega)
  have b2 := h.beg.d 2 (by omega)
  have wn0 : IntKind.i64.wrap (-(m.d 0)) = -(m.d 0) := IntWalk.i64_in _ (by omega)
  have wn1 : IntKind.i64.wrap (-(m.d 1)) = -(m.d 1) := IntWalk.i64_in _ (by omega)
  have wn2 : IntKind.i64.wrap (-(m.d 2)) = -(m.d 2) := IntWalk.i64_in _ (by omega)
  have HRA := Lib.hid (fun V => granges_t m.s m.d P C.dead V (fun i hi => ⟨h.beg.s i hi, h.beg.d i hi⟩) h.per h.dead)
  have hcn := es_cnt C h.beg (3 * P)
  have HSO := Lib.hid (fun V (hV : Ext w V) => sorted_t a k (Pl.sim C m (3 * P)).es P V (hr.ext hV) (asc_run C h.beg P) (by omega) (by omega) (by omega))
  have H := Lib.hid h
  have HROW := Lib.hid hr
  have QB := on_same (m.s 0 == 2) (m.s 0 == 1) (m.s 1 == 2) (m.s 1 == 1) (m.s 2 == 2) (m.s 2 == 1)
  have wl0 : IntKind.i64.wrap 0 = 0 := by decide
  have wl1 : IntKind.i64.wrap 1 = 1 := by decide
  have wl2 : IntKind.i64.wrap 2 = 2 := by decide
  have ix30 : ∀ w, (Instr.index 29 (.agg #[.int .i64 (m.s 0), .int .i64 (m.d 0), .int .i64 (m.s 1), .int .i64 (m.d 1), .int .i64 (m.s 2), .int .i64 (m.d 2)]) (.int .i64 0)).run Try.prog w = .ok (.agg #[.int .i64 (m.s 0), .int .i64 (m.d 0)]) w := fun _ => by kernel_rfl
  have ix31 : ∀ w, (Instr.index 29 (.agg #[.int .i64 (m.s 0), .int .i64 (m.d 0), .int .i64 (m.s 1), .int .i64 (m.d 1), .int .i64 (m.s 2), .int .i64 (m.d 2)]) (.int .i64 1)).run Try.prog w = .ok (.agg #[.int .i64 (m.s 1), .int .i64 (m.d 1)]) w := fun _ => by kernel_rfl
  have ix32 : ∀ w, (Instr.index 29 (.agg #[.int .i64 (m.s 0), .int .i64 (m.d 0), .int .i64 (m.s 1), .int .i64 (m.d 1), .int .i64 (m.s 2), .int .i64 (m.d 2)]) (.int .i64 2)).run Try.prog w = .ok (.agg #[.int .i64 (m.s 2), .int .i64 (m.d 2)]) w := fun _ => by kernel_rfl
  clear h hr b0 b1 b2
  have A := Blk.new w [.int .i64 (m.s 0), .int .i64 (m.d 0), .int .i64 (m.s 1), .int .i64 (m.d 1), .int .i64 (m.s 2), .int .i64 (m.d 2)] 29
  have A := A.alloc (.cells #[.int .i64 P, .bool (m.s 0 == 2), .bool (m.s 0 == 1), .bool (m.s 1 == 2), .bool (m.s 1 == 1), .bool (m.s 2 == 2), .bool (m.s 2 == 1), .slice a (Pl.sim C m (3 * P)).es.length k] 52)
  have A := A.alloc (.cells #[.int .i64 0, .int .i64 0, .int .i64 0, .int .i64 0, .int .i64 0, .int .i64 0] 29)
  have G := Blk.new (w.alloc (.cells #[.int .i64 (m.s 0), .int .i64 (m.d 0), .int .i64 (m.s 1), .int .i64 (m.d 1), .int .i64 (m.s 2), .int .i64 (m.d 2)] 29)) [.int .i64 P, .bool (m.s 0 == 2), .bool (m.s 0 == 1), .bool (m.s 1 == 2), .bool (m.s 1 == 1), .bool (m.s 2 == 2), .bool (m.s 2 == 1), .slice a (Pl.sim C m (3 * P)).es.length k] 52
  rw [show (w.alloc (.cells #[.int .i64 (m.s 0), .int .i64 (m.d 0), .int .i64 (m.s 1), .int .i64 (m.d 1), .int .i64 (m.s 2), .int .i64 (m.d 2)] 29)).heap.size = w.heap.size + 1 by simp] at G
  have G := G.alloc (.cells #[.int .i64 0, .int .i64 0, .int .i64 0, .int .i64 0, .int .i64 0, .int .i64 0] 29)
  have Z := Blk.new ((w.alloc (.cells #[.int .i64 (m.s 0), .int .i64 (m.d 0), .int .i64 (m.s 1), .int .i64 (m.d 1), .int .i64 (m.s 2), .int .i64 (m.d 2)] 29)).alloc (.cells #[.int .i64 P, .bool (m.s 0 == 2), .bool (m.s 0 == 1), .bool (m.s 1 == 2), .bool (m.s 1 == 1), .bool (m.s 2 == 2), .bool (m.s 2 == 1), .slice a (Pl.sim C m (3 * P)).es.length k] 52)) [.int .i64 0, .int .i64 0, .int .i64 0, .int .i64 0, .int .i64 0, .int .i64 0] 29
  rw [show ((w.alloc (.cells #[.int .i64 (m.s 0), .int .i64 (m.d 0), .int .i64 (m.s 1), .int .i64 (m.d 1), .int .i64 (m.s 2), .int .i64 (m.d 2)] 29)).alloc (.cells #[.int .i64 P, .bool (m.s 0 == 2), .bool (m.s 0 == 1), .bool (m.s 1 == 2), .bool (m.s 1 == 1), .bool (m.s 2 == 2), .bool (m.s 2 == 1), .slice a (Pl.sim C m (3 * P)).es.length k] 52)).heap.size = w.heap.size + 1 + 1 by simp] at Z
  have E : Ext w (((w.alloc (.cells #[.int .i64 (m.s 0), .int .i64 (m.d 0), .int .i64 (m.s 1), .int .i64 (m.d 1), .int .i64 (m.s 2), .int .i64 (m.d 2)] 29)).alloc (.cells #[.int .i64 P, .bool (m.s 0 == 2), .bool (m.s 0 == 1), .bool (m.s 1 == 2), .bool (m.s 1 == 1), .bool (m.s 2 == 2), .bool (m.s 2 == 1), .slice a (Pl.sim C m (3 * P)).es.length k] 52)).alloc (.cells #[.int .i64 0, .int .i64 0, .int .i64 0, .int .i64 0, .int .i64 0, .int .i64 0] 29)) := (((Ext.refl w).alloc _).alloc _).alloc _
  have a0 := A.at 0 _ rfl
  have a1 := A.at 1 _ rfl
  have a2 := A.at 2 _ rfl
  have a3 := A.at 3 _ rfl
  have a4 := A.at 4 _ rfl
  have a5 := A.at 5 _ rfl
  have al := A.lt
  have af := A.fr
  have g0 := G.at 0 _ rfl
  have g1 := G.at 1 _ rfl
  have g2 := G.at 2 _ rfl
  have g3 := G.at 3 _ rfl
  have g4 := G.at 4 _ rfl
  have g5 := G.at 5 _ rfl
  have g6 := G.at 6 _ rfl
  have g7 := G.at 7 _ rfl
  have gl := G.lt
  have gf := G.fr
  go_enter Try.func12, Try.ntmps12
  go_wp2_with fail
  refine (HRA.out _).mono ?_
  rintro e w1 ⟨rfl, hx1⟩
  have A := A.ext hx1
  have G := G.ext hx1
  have Z := Z.ext hx1
  have E := E.trans hx1
  clear a0 a1 a2 a3 a4 a5 al af g0 g1 g2 g3 g4 g5 g6 g7 gl gf
  go_upto_region 3 with fail
  refine wp_region_B (fun V => Blk V w.heap.size (stlist m.s m.d) ∧ Blk V (w.heap.size + 1) [.int .i64 P, .bool (m.s 0 == 2), .bool (m.s 0 == 1), .bool (m.s 1 == 2), .bool (m.s 1 == 1), .bool (m.s 2 == 2), .bool (m.s 2 == 1), .slice a (Pl.sim C m (3 * P)).es.length k]) [] (by kernel_rfl) ?_
  have A := A.drew
  have G := G.drew
  have Z := Z.drew
  have E := E.drew
  have hS := And.intro (show Blk _ w.heap.size (stlist m.s m.d) from A) G
  refine wpAnyB_take0 (i := 0) (v := ?_) rfl (by kernel_rfl) (by kernel_rfl) (by kernel_rfl) (by kernel_rfl) (fun _ _ _ h => h) (Or.inl ⟨by rfl, ?_⟩) (fun _ => hS) ?_
  rotate_left
  · (intro V; go_simp; (try with_reducible rfl))
  (try simp only [Act.put, List.setIfInBounds_toArray, List.set_cons_zero, List.set_cons_succ])
  refine wpAnyB_take (i := 1) (v := ?_) rfl (by kernel_rfl) (by kernel_rfl) (by kernel_rfl) (by kernel_rfl) (by kernel_rfl) (by kernel_rfl) (fun _ _ _ h => h) (Or.inl ⟨by rfl, ?_⟩) hS ?_
  rotate_left
  · (intro V hV; obtain ⟨v1, v2⟩ := hV; have f0 := v2.at 0 _ rfl; have f1 := v2.at 1 _ rfl; have f2 := v2.at 2 _ rfl; have f3 := v2.at 3 _ rfl; have f4 := v2.at 4 _ rfl; have f5 := v2.at 5 _ rfl; have f6 := v2.at 6 _ rfl; have f7 := v2.at 7 _ rfl; go_simp; (try with_reducible rfl))
  (try simp only [Act.put, List.setIfInBounds_toArray, List.set_cons_zero, List.set_cons_succ])
  refine wpAnyB_take (i := 2) (v := ?_) rfl (by kernel_rfl) (by kernel_rfl) (by kernel_rfl) (by kernel_rfl) (by kernel_rfl) (by kernel_rfl) (fun _ _ _ h => h) (Or.inl ⟨by rfl, ?_⟩) hS ?_
  rotate_left
  · (intro V hV; obtain ⟨v1, v2⟩ := hV; have e0 := v1.at 0 _ rfl; have e1 := v1.at 1 _ rfl; have e2 := v1.at 2 _ rfl; have e3 := v1.at 3 _ rfl; have e4 := v1.at 4 _ rfl; have e5 := v1.at 5 _ rfl; go_simp; (try with_reducible rfl))
  (try simp only [Act.put, List.setIfInBounds_toArray, List.set_cons_zero, List.set_cons_succ])
  refine wpAnyB_ready (rs := [3]) (by kernel_rfl) (by simp) ?_
  refine AllReadyB.cons rfl (fun K hK => ?_) AllReadyB.nil
  go_simp
  refine (on_any m.s m.d _).mono ?_
  rintro e w2 ⟨rfl, hx2⟩
  have A := A.ext hx2
  have G := G.ext hx2
  have Z := Z.ext hx2
  have E := E.trans hx2
  have hS := And.intro (show Blk _ w.heap.size (stlist m.s m.d) from A) G
  (try go_wp2_with fail)
  refine hK.out _ _ (fun _ => hS) ?_
  clear hK K
  (try simp only [Act.put, List.setIfInBounds_toArray, List.set_cons_zero, List.set_cons_succ])
  refine wpAnyB_take0 (i := 4) (v := ?_) rfl (by kernel_rfl) (by kernel_rfl) (by kernel_rfl) (by kernel_rfl) (fun _ _ _ h => h) (Or.inl ⟨by rfl, ?_⟩) (fun _ => hS) ?_
  rotate_left
  · (intro V; go_simp; (try with_reducible rfl))
  (try simp only [Act.put, List.setIfInBounds_toArray, List.set_cons_zero, List.set_cons_succ])
  refine wpAnyB_take0 (i := 5) (v := ?_) rfl (by kernel_rfl) (by kernel_rfl) (by kernel_rfl) (by kernel_rfl) (fun _ _ _ h => h) (Or.inl ⟨by rfl, ?_⟩) (fun _ => hS) ?_
  rotate_left
  · (intro V; go_simp; (try with_reducible rfl))
  (try simp only [Act.put, List.setIfInBounds_toArray, List.set_cons_zero, List.set_cons_succ])
  refine wpAnyB_take0 (i := 6) (v := ?_) rfl (by kernel_rfl) (by kernel_rfl) (by kernel_rfl) (by kernel_rfl) (fun _ _ _ h => h) (Or.inl ⟨by rfl, ?_⟩) (fun _ => hS) ?_
  rotate_left
  · (intro V; go_simp; (try with_reducible rfl))
  (try simp only [Act.put, List.setIfInBounds_toArray, List.set_cons_zero, List.set_cons_succ])
  refine wpAnyB_take (i := 7) (v := ?_) rfl (by kernel_rfl) (by kernel_rfl) (by kernel_rfl) (by kernel_rfl) (by kernel_rfl) (by kernel_rfl) (fun _ _ _ h => h) (Or.inl ⟨by rfl, ?_⟩) hS ?_
  rotate_left
  · (intro V hV; obtain ⟨v1, v2⟩ := hV; have f0 := v2.at 0 _ rfl; have f1 := v2.at 1 _ rfl; have f2 := v2.at 2 _ rfl; have f3 := v2.at 3 _ rfl; have f4 := v2.at 4 _ rfl; have f5 := v2.at 5 _ rfl; have f6 := v2.at 6 _ rfl; have f7 := v2.at 7 _ rfl; go_simp; (try with_reducible rfl))
  (try simp only [Act.put, List.setIfInBounds_toArray, List.set_cons_zero, List.set_cons_succ])
  refine wpAnyB_take0 (i := 8) (v := ?_) rfl (by kernel_rfl) (by kernel_rfl) (by kernel_rfl) (by kernel_rfl) (fun _ _ _ h => h) (Or.inl ⟨by rfl, ?_⟩) (fun _ => hS) ?_
  rotate_left
  · (intro V; go_simp; (try with_reducible rfl))
  (try simp only [Act.put, List.setIfInBounds_toArray, List.set_cons_zero, List.set_cons_succ])
  refine wpAnyB_take (i := 9) (v := ?_) rfl (by kernel_rfl) (by kernel_rfl) (by kernel_rfl) (by kernel_rfl) (by kernel_rfl) (by kernel_rfl) (fun _ _ _ h => h) (Or.inl ⟨by rfl, ?_⟩) hS ?_
  rotate_left
  · (intro V hV; obtain ⟨v1, v2⟩ := hV; have f0 := v2.at 0 _ rfl; have f1 := v2.at 1 _ rfl; have f2 := v2.at 2 _ rfl; have f3 := v2.at 3 _ rfl; have f4 := v2.at 4 _ rfl; have f5 := v2.at 5 _ rfl; have f6 := v2.at 6 _ rfl; have f7 := v2.at 7 _ rfl; go_simp; (try with_reducible rfl))
  (try simp only [Act.put, List.setIfInBounds_toArray, List.set_cons_zero, List.set_cons_succ])
  refine wpAnyB_ready (rs := [10]) (by kernel_rfl) (by simp) ?_
  refine AllReadyB.cons rfl (fun K hK => ?_) AllReadyB.nil
  go_simp
  refine (HSO.out _ E).mono ?_
  rintro e w3 ⟨rfl, hx3⟩
  have A := A.ext hx3
  have G := G.ext hx3
  have Z := Z.ext hx3
  have E := E.trans hx3
  have hS := And.intro (show Blk _ w.heap.size (stlist m.s m.d) from A) G
  (try go_wp2_with fail)
  refine hK.out _ _ (fun _ => hS) ?_
  clear hK K
  (try simp only [Act.put, List.setIfInBounds_toArray, List.set_cons_zero, List.set_cons_succ])
  refine wpAnyB_take0 (i := 11) (v := ?_) rfl (by kernel_rfl) (by kernel_rfl) (by kernel_rfl) (by kernel_rfl) (fun _ _ _ h => h) (Or.inl ⟨by rfl, ?_⟩) (fun _ => hS) ?_
  rotate_left
  · (intro V; go_simp; (try with_reducible rfl))
  (try simp only [Act.put, List.setIfInBounds_toArray, List.set_cons_zero, List.set_cons_succ])
  refine wpAnyB_take0 (i := 12) (v := ?_) rfl (by kernel_rfl) (by kernel_rfl) (by kernel_rfl) (by kernel_rfl) (fun _ _ _ h => h) (Or.inl ⟨by rfl, ?_⟩) (fun _ => hS) ?_
  rotate_left
  · (intro V; go_simp; (try with_reducible rfl))
  (try simp only [Act.put, List.setIfInBounds_toArray, List.set_cons_zero, List.set_cons_succ])
  refine wpAnyB_done (by kernel_rfl) ?_ _
  clear hS
  have a0 := A.at 0 _ rfl
  have a1 := A.at 1 _ rfl
  have a2 := A.at 2 _ rfl
  have a3 := A.at 3 _ rfl
  have a4 := A.at 4 _ rfl
  have a5 := A.at 5 _ rfl
  have al := A.lt
  have af := A.fr
  go_wp2_with fail
  refine wp_loop_rounds 4 ?_
  rw [rounds_succ]
  go_wp2_with fail
  rw [rounds_succ]
  go_wp2_with fail
  have A4 : SM w (((((w3.alloc (.cells #[.int .i64 (-(m.d 0)), .int .i64 (-(m.d 1)), .int .i64 (-(m.d 2))] 38)).alloc (.cells #[.int .i64 (m.s 0), .int .i64 (m.d 0)] 28)).alloc (.cells #[.int .i64 (m.s 1), .int .i64 (m.d 1)] 28)).alloc (.cells #[.int .i64 (m.s 2), .int .i64 (m.d 2)] 28)).alloc (.cells #[.bool (m.s 0 == 2), .bool (m.s 0 == 1), .bool (m.s 1 == 2), .bool (m.s 1 == 1), .bool (m.s 2 == 2), .bool (m.s 2 == 1)] 49)) w3.heap.size (w3.heap.size + 1 + 1 + 1 + 1) [.int .i64 P, .bool (m.s 0 == 2), .bool (m.s 0 == 1), .bool (m.s 1 == 2), .bool (m.s 1 == 1), .bool (m.s 2 == 2), .bool (m.s 2 == 1), .slice a (Pl.sim C m (3 * P)).es.length k] m.s m.d m.s m.l := by
    have hz := Z.lt
    have el : lslist m.l = [.int .i64 (-(m.d 0)), .int .i64 (-(m.d 1)), .int .i64 (-(m.d 2))] := by unfold lslist; rw [H.out.beg.l 0 (by omega), H.out.beg.l 1 (by omega), H.out.beg.l 2 (by omega)]
    have b12 : Blk (((((w3.alloc (.cells #[.int .i64 (-(m.d 0)), .int .i64 (-(m.d 1)), .int .i64 (-(m.d 2))] 38)).alloc (.cells #[.int .i64 (m.s 0), .int .i64 (m.d 0)] 28)).alloc (.cells #[.int .i64 (m.s 1), .int .i64 (m.d 1)] 28)).alloc (.cells #[.int .i64 (m.s 2), .int .i64 (m.d 2)] 28)).alloc (.cells #[.bool (m.s 0 == 2), .bool (m.s 0 == 1), .bool (m.s 1 == 2), .bool (m.s 1 == 1), .bool (m.s 2 == 2), .bool (m.s 2 == 1)] 49)) (w3.heap.size + 1 + 1 + 1 + 1) (onlist m.s) := by
      have h := Blk.new ((((w3.alloc (.cells #[.int .i64 (-(m.d 0)), .int .i64 (-(m.d 1)), .int .i64 (-(m.d 2))] 38)).alloc (.cells #[.int .i64 (m.s 0), .int .i64 (m.d 0)] 28)).alloc (.cells #[.int .i64 (m.s 1), .int .i64 (m.d 1)] 28)).alloc (.cells #[.int .i64 (m.s 2), .int .i64 (m.d 2)] 28)) [.bool (m.s 0 == 2), .bool (m.s 0 == 1), .bool (m.s 1 == 2), .bool (m.s 1 == 1), .bool (m.s 2 == 2), .bool (m.s 2 == 1)] 49
      rw [show ((((w3.alloc (.cells #[.int .i64 (-(m.d 0)), .int .i64 (-(m.d 1)), .int .i64 (-(m.d 2))] 38)).alloc (.cells #[.int .i64 (m.s 0), .int .i64 (m.d 0)] 28)).alloc (.cells #[.int .i64 (m.s 1), .int .i64 (m.d 1)] 28)).alloc (.cells #[.int .i64 (m.s 2), .int .i64 (m.d 2)] 28)).heap.size = w3.heap.size + 1 + 1 + 1 + 1 by simp] at h
      exact h
    have b9 : Blk (((((w3.alloc (.cells #[.int .i64 (-(m.d 0)), .int .i64 (-(m.d 1)), .int .i64 (-(m.d 2))] 38)).alloc (.cells #[.int .i64 (m.s 0), .int .i64 (m.d 0)] 28)).alloc (.cells #[.int .i64 (m.s 1), .int .i64 (m.d 1)] 28)).alloc (.cells #[.int .i64 (m.s 2), .int .i64 (m.d 2)] 28)).alloc (.cells #[.bool (m.s 0 == 2), .bool (m.s 0 == 1), .bool (m.s 1 == 2), .bool (m.s 1 == 1), .bool (m.s 2 == 2), .bool (m.s 2 == 1)] 49)) w3.heap.size (lslist m.l) := by
      rw [el]
      exact ((((Blk.new w3 [.int .i64 (-(m.d 0)), .int .i64 (-(m.d 1)), .int .i64 (-(m.d 2))] 38).alloc (.cells #[.int .i64 (m.s 0), .int .i64 (m.d 0)] 28)).alloc (.cells #[.int .i64 (m.s 1), .int .i64 (m.d 1)] 28)).alloc (.cells #[.int .i64 (m.s 2), .int .i64 (m.d 2)] 28)).alloc (.cells #[.bool (m.s 0 == 2), .bool (m.s 0 == 1), .bool (m.s 1 == 2), .bool (m.s 1 == 1), .bool (m.s 2 == 2), .bool (m.s 2 == 1)] 49)
    exact ⟨((((A.alloc (.cells #[.int .i64 (-(m.d 0)), .int .i64 (-(m.d 1)), .int .i64 (-(m.d 2))] 38)).alloc (.cells #[.int .i64 (m.s 0), .int .i64 (m.d 0)] 28)).alloc (.cells #[.int .i64 (m.s 1), .int .i64 (m.d 1)] 28)).alloc (.cells #[.int .i64 (m.s 2), .int .i64 (m.d 2)] 28)).alloc _, ((((G.alloc (.cells #[.int .i64 (-(m.d 0)), .int .i64 (-(m.d 1)), .int .i64 (-(m.d 2))] 38)).alloc (.cells #[.int .i64 (m.s 0), .int .i64 (m.d 0)] 28)).alloc (.cells #[.int .i64 (m.s 1), .int .i64 (m.d 1)] 28)).alloc (.cells #[.int .i64 (m.s 2), .int .i64 (m.d 2)] 28)).alloc _, ((((Z.alloc (.cells #[.int .i64 (-(m.d 0)), .int .i64 (-(m.d 1)), .int .i64 (-(m.d 2))] 38)).alloc (.cells #[.int .i64 (m.s 0), .int .i64 (m.d 0)] 28)).alloc (.cells #[.int .i64 (m.s 1), .int .i64 (m.d 1)] 28)).alloc (.cells #[.int .i64 (m.s 2), .int .i64 (m.d 2)] 28)).alloc _, b9, b12, by omega, by omega, ((((E.alloc (.cells #[.int .i64 (-(m.d 0)), .int .i64 (-(m.d 1)), .int .i64 (-(m.d 2))] 38)).alloc (.cells #[.int .i64 (m.s 0), .int .i64 (m.d 0)] 28)).alloc (.cells #[.int .i64 (m.s 1), .int .i64 (m.d 1)] 28)).alloc (.cells #[.int .i64 (m.s 2), .int .i64 (m.d 2)] 28)).alloc _⟩
  rw [rounds_succ]
  go_wp2_with fail
  rw [rounds_succ]
  have G4 := (((G.alloc (.cells #[.int .i64 (-(m.d 0)), .int .i64 (-(m.d 1)), .int .i64 (-(m.d 2))] 38)).alloc (.cells #[.int .i64 (m.s 0), .int .i64 (m.d 0)] 28)).alloc (.cells #[.int .i64 (m.s 1), .int .i64 (m.d 1)] 28)).alloc (.cells #[.int .i64 (m.s 2), .int .i64 (m.d 2)] 28)
  have g0 := G4.at 0 _ rfl
  have g1 := G4.at 1 _ rfl
  have g2 := G4.at 2 _ rfl
  have g3 := G4.at 3 _ rfl
  have g4 := G4.at 4 _ rfl
  have g5 := G4.at 5 _ rfl
  have g6 := G4.at 6 _ rfl
  have g7 := G4.at 7 _ rfl
  have gl := G4.lt
  have gf := G4.fr
  have G5 := A4.gt
  have h0 := G5.at 0 _ rfl
  have h1 := G5.at 1 _ rfl
  have h2 := G5.at 2 _ rfl
  have h3 := G5.at 3 _ rfl
  have h4 := G5.at 4 _ rfl
  have h5 := G5.at 5 _ rfl
  have h6 := G5.at 6 _ rfl
  have h7 := G5.at 7 _ rfl
  have hl := G5.lt
  have hf := G5.fr
  go_wp2_with fail
  clear G4 G5 g0 g1 g2 g3 g4 g5 g6 g7 gl gf h0 h1 h2 h3 h4 h5 h6 h7 hl hf A G Z E a0 a1 a2 a3 a4 a5 al af
  have HA4 := Lib.hid A4
  clear A4
  obtain ⟨N, hN⟩ : ∃ N, N = (Pl.sim C m (3 * P)).es.length := ⟨_, rfl⟩
  have HN := Lib.hid hN
  go_loopw [56] (fun i wr => ∃ (j kk : Nat), j ≤ (Pl.sim C m (3 * P)).es.length ∧ i = .int .i64 j ∧ kk ≤ 3 * P ∧ Hid ((Pl.sim C m kk).es.length = j) ∧ SM w wr w3.heap.size (w3.heap.size + 1 + 1 + 1 + 1) [.int .i64 P, .bool (m.s 0 == 2), .bool (m.s 0 == 1), .bool (m.s 1 == 2), .bool (m.s 1 == 1), .bool (m.s 2 == 2), .bool (m.s 2 == 1), .slice a (Pl.sim C m (3 * P)).es.length k] m.s m.d (Pl.sim C m kk).s (Pl.sim C m kk).l) (fun i _ => (Pl.sim C m (3 * P)).es.length - (intOf i).toNat)
  case atStart => exact ⟨0, 0, by omega, rfl, by omega, Lib.hid (by show m.es.length = 0; rw [H.out.beg.es]; rfl), HA4.out⟩
  case round =>
    obtain ⟨j, kk, hj', rfl, hkk, hlen, S⟩ := hrel
    by_cases hj : j < (Pl.sim C m (3 * P)).es.length
    · obtain ⟨n, e, n1, n2, n3, hem, hat⟩ := Pl.next_edge C m kk (3 * P) hkk (by rw [hlen.out]; exact hj)
      rw [hlen.out] at hat n3
      have ⟨q1, q2⟩ := Pl.still C m n1 (by rw [hlen.out, n3])
      rw [← q1, ← q2] at S
      have iv := Pl.inv C H.out.beg n
      have hi3 : n % 3 < 3 := Nat.mod_lt _ (by omega)
      obtain ⟨b, off, ea, hb, hc⟩ := HROW.out (fun h => by rw [h] at hj; simp at hj)
      have ⟨c0, c1, c2⟩ := hc j e hat
      have c0 := (S.ext.cell hb).trans c0
      have c1 := (S.ext.cell hb).trans c1
      have c2 := (S.ext.cell hb).trans c2
      have hbr : b < wr.heap.size := Nat.lt_of_lt_of_le hb S.ext.size
      have hnx : (Pl.sim C m (n + 1)) = Pl.sstep C (Pl.sim C m n) (n / 3) (n % 3) := rfl
      obtain ⟨i, hi⟩ : ∃ i, i = n % 3 := ⟨_, rfl⟩
      obtain ⟨t, ht⟩ : ∃ t, t = n / 3 := ⟨_, rfl⟩
      rw [← hi] at hem hi3
      rw [← ht] at hem
      have ivs := iv.s i hi3
      have ivd := iv.d i hi3
      have ivl := iv.l i hi3
      have tk : Pl.took n i = t := by rw [hi, ht]; exact Pl.took_at n
      rw [tk] at ivd ivl
      have tP : t < P := by rw [ht]; omega
      have hlen1 : (Pl.sim C m (n + 1)).es.length = j + 1 := by rw [hnx, ← hi, ← ht, hem.es, List.length_append, n3]; rfl
      have HL1 := Lib.hid hlen1
      have HNX := Lib.hid hnx
      have HI := Lib.hid hi
      have HT := Lib.hid ht
      have ej : (j : Int) < ((Pl.sim C m (3 * P)).es.length : Int) := by omega
      have jl : (j : Int) ≤ 1000000 := by omega
      clear hc hat iv hnx n3 q1 q2 hlen tk hlen1 hkk hi ht
      have la := S.la.at i _ (lslist_at _ hi3)
      have laf := S.la.fr
      have lal := S.la.lt
      have iof := S.io.fr
      have iol := S.io.lt
      subst ea
      rcases hem with ⟨z, rfl, hst⟩ | ⟨z, u, x, rfl, hst⟩
      · have HST := Lib.hid hst
        clear hst
        have zz : (Pl.sim C m n).s i = 1 ∨ (Pl.sim C m n).s i = 2 := by omega
        have ⟨o1, o2⟩ := on_off (Pl.sim C m n).s hi3 zz
        have hs6 := sw_lt hi3 ((Pl.sim C m n).s i)
        have hsh := sw_half i ((Pl.sim C m n).s i)
        dsimp only at c0 c1 c2
        rw [sw_nmb] at c1
        obtain ⟨σ, hσ⟩ : ∃ σ, σ = sw i ((Pl.sim C m n).s i) := ⟨_, rfl⟩
        rw [← hσ] at o1 o2 hs6 hsh c1
        have io := S.io.at σ _ (onlist_at _ hs6)
        rw [o1] at io
        have dq : (σ : Int).tdiv 2 = (i : Int) := by rw [Int.tdiv_eq_ediv_of_nonneg (by omega)]; omega
        have wi : IntKind.i64.wrap (i : Int) = (i : Int) := IntWalk.i64_in _ (by omega)
        have si0 : (0 : Int) ≤ (σ : Int) := by omega
        have si6 : (σ : Int) < 6 := by omega
        have ii3 : (i : Int) < 3 := by omega
        have O2 := Lib.hid o2
        clear o1 o2 zz hσ
        go_upto_region 16 with fail
        go_quiet (fail)
        go_upto_region 18 with fail
        go_quiet (fail)
        go_wp2_with fail
        go_roundw
        case rel =>
          refine ⟨j + 1, n + 1, by omega, by go_num, by omega, HL1, ?_⟩
          rw [HNX.out, ← HI.out, ← HT.out, HST.out]
          exact (((S.al _).drN _).setL hi3 _).setI hs6 O2.out
        case measure => first | (simp [intOf]; done) | (simp [intOf]; omega)
      · have HST := Lib.hid hst
        clear hst
        have wv := Pl.want_in C i (t : Int)
        obtain ⟨v, hv⟩ : ∃ v, v = Pl.want C i (t : Int) := ⟨_, rfl⟩
        rw [← hv] at wv u HST
        dsimp only at c0 c1 c2
        rw [← hv] at c1
        have HV := Lib.hid hv
        clear hv
        have vv : v = 1 ∨ v = 2 := by omega
        have ⟨o1, o3, o2⟩ := on_on (Pl.sim C m n).s hi3 z v vv
        have hs6 := sw_lt hi3 v
        have hsh := sw_half i v
        rw [sw_nmb] at c1
        have hx6 : swo i v < 6 ∧ (sw i v = 2 * i ∧ swo i v = 2 * i + 1 ∨ sw i v = 2 * i + 1 ∧ swo i v = 2 * i) := by unfold swo sw; split <;> omega
        obtain ⟨σ, hσ⟩ : ∃ σ, σ = sw i v := ⟨_, rfl⟩
        obtain ⟨τ, hτ⟩ : ∃ τ, τ = swo i v := ⟨_, rfl⟩
        rw [← hσ] at o1 o2 hs6 hsh c1 hx6
        rw [← hτ] at o3 hx6
        have io := S.io.at σ _ (onlist_at _ hs6)
        rw [o1] at io
        have io2 := S.io.at τ _ (onlist_at _ hx6.1)
        rw [o3] at io2
        have dq : (σ : Int).tdiv 2 = (i : Int) := by rw [Int.tdiv_eq_ediv_of_nonneg (by omega)]; omega
        have wi : IntKind.i64.wrap (i : Int) = (i : Int) := IntWalk.i64_in _ (by omega)
        have wl : IntKind.i64.wrap ((t : Int) - (Pl.sim C m n).l i) = (t : Int) - (Pl.sim C m n).l i := IntWalk.i64_in _ (by omega)
        have si0 : (0 : Int) ≤ (σ : Int) := by omega
        have si6 : (σ : Int) < 6 := by omega
        have ti0 : (0 : Int) ≤ (τ : Int) := by omega
        have ti6 : (τ : Int) < 6 := by omega
        have ii3 : (i : Int) < 3 := by omega
        have dl : decide ((t : Int) - (Pl.sim C m n).l i < C.dead) = false := decide_eq_false (by omega)
        have hxor := xor_any σ τ hx6.1 ⟨i, hx6.2⟩
        have O2 := Lib.hid o2
        have HX6 := Lib.hid hx6
        clear o1 o2 o3 vv hσ hτ hx6
        go_upto_region 16 with fail
        go_quiet (fail)
        go_upto_region 18 with fail
        trace_state
        go_quiet (fail)
        go_wp2_with fail
        go_roundw
        case rel =>
          refine ⟨j + 1, n + 1, by omega, by go_num, by omega, HL1, ?_⟩
          rw [HNX.out, ← HI.out, ← HT.out, HST.out]
          exact ((S.al _).drN _).setI hs6 O2.out
        case measure => first | (simp [intOf]; done) | (simp [intOf]; omega)
    · have hje : j = (Pl.sim C m (3 * P)).es.length := by omega
      have ⟨q1, q2⟩ := Pl.still C m hkk (by rw [hlen.out, hje])
      rw [← q1, ← q2] at S
      have iv := Pl.inv C H.out.beg (3 * P)
      have hnj : ((Pl.sim C m (3 * P)).es.length : Int) ≤ (j : Int) := by omega
      have hdN : decide (j < (Pl.sim C m (3 * P)).es.length) = false := decide_eq_false hj
      have HS := Lib.hid S
      have HIV := Lib.hid iv
      clear S q1 q2 hlen hj hj' hje iv
      go_wp2_with fail
      go_loopw [107] (fun i wx => Upto 3 (fun q => SM w wx w3.heap.size (w3.heap.size + 1 + 1 + 1 + 1) [.int .i64 P, .bool (m.s 0 == 2), .bool (m.s 0 == 1), .bool (m.s 1 == 2), .bool (m.s 1 == 1), .bool (m.s 2 == 2), .bool (m.s 2 == 1), .slice a (Pl.sim C m (3 * P)).es.length k] (mx q (Pl.sim C m (3 * P)).s m.s) (mx q (Pl.sim C m (3 * P)).d m.d) (Pl.sim C m (3 * P)).s (Pl.sim C m (3 * P)).l) i) (fun i _ => 3 - (intOf i).toNat)
      case atStart => exact ⟨0, by omega, rfl, HS.out⟩
      case round =>
        clear HS
        obtain ⟨q, hq, rfl, S⟩ := hrel
        by_cases hq3 : q < 3
        · have q3 : (q : Int) < 3 := by omega
          have ivs := HIV.out.s q hq3
          have ivd := HIV.out.d q hq3
          have ivl := HIV.out.l q hq3
          rw [Pl.took_all hq3] at ivd ivl
          obtain ⟨sv, hsv⟩ : ∃ x, x = (Pl.sim C m (3 * P)).s q := ⟨_, rfl⟩
          obtain ⟨dv, hdv⟩ : ∃ x, x = (Pl.sim C m (3 * P)).d q := ⟨_, rfl⟩
          obtain ⟨lv, hlv⟩ : ∃ x, x = (Pl.sim C m (3 * P)).l q := ⟨_, rfl⟩
          rw [← hdv, ← hlv] at ivd
          rw [← hsv] at ivs
          rw [← hlv] at ivl
          have wpl : IntKind.i64.wrap ((P : Int) - lv) = (P : Int) - lv := IntWalk.i64_in _ (by omega)
          have dm : min ((P : Int) - lv) 4096 = dv := ivd.2.symm
          have w2q : IntKind.i64.wrap (2 * (q : Int)) = 2 * (q : Int) := IntWalk.i64_in _ (by omega)
          have w2q1 : IntKind.i64.wrap (2 * (q : Int) + 1) = 2 * (q : Int) + 1 := IntWalk.i64_in _ (by omega)
          have q20 : (0 : Int) ≤ 2 * (q : Int) := by omega
          have q26 : 2 * (q : Int) < 6 := by omega
          have q210 : (0 : Int) ≤ 2 * (q : Int) + 1 := by omega
          have q216 : 2 * (q : Int) + 1 < 6 := by omega
          have HSV := Lib.hid hsv
          have HDV := Lib.hid hdv
          have HLV := Lib.hid hlv
          obtain ⟨ivs1, ivs2⟩ := ivs
          have io0 : onb (Pl.sim C m (3 * P)).s (2 * q) = (sv == 2) := by rw [hsv]; unfold onb; rw [if_pos (by omega), show 2 * q / 2 = q by omega]
          have io1 : onb (Pl.sim C m (3 * P)).s (2 * q + 1) = (sv == 1) := by rw [hsv]; unfold onb; rw [if_neg (by omega), show (2 * q + 1) / 2 = q by omega]
          have S0 := S.dr
          have HS := Lib.hid S
          clear hsv hdv hlv ivd S
          go_upto_region 27 with fail
          refine wp_region_B (fun V => SM w V w3.heap.size (w3.heap.size + 1 + 1 + 1 + 1) [.int .i64 P, .bool (m.s 0 == 2), .bool (m.s 0 == 1), .bool (m.s 1 == 2), .bool (m.s 1 == 1), .bool (m.s 2 == 2), .bool (m.s 2 == 1), .slice a (Pl.sim C m (3 * P)).es.length k] (mx q (Pl.sim C m (3 * P)).s m.s) (mx q (Pl.sim C m (3 * P)).d m.d) (Pl.sim C m (3 * P)).s (Pl.sim C m (3 * P)).l) [10] (by kernel_rfl) ?_
          have hS := S0
          refine wpAnyB_take0 (i := 0) (v := ?_) rfl (by kernel_rfl) (by kernel_rfl) (by kernel_rfl) (by kernel_rfl) (fun _ _ _ h => h) (Or.inl ⟨by rfl, ?_⟩) (fun _ => hS) ?_
          rotate_left
          · (intro V; go_simp; (try with_reducible rfl))
          (try simp only [Act.put, List.setIfInBounds_toArray, List.set_cons_zero, List.set_cons_succ])
          refine wpAnyB_take0 (i := 1) (v := ?_) rfl (by kernel_rfl) (by kernel_rfl) (by kernel_rfl) (by kernel_rfl) (fun _ _ _ h => h) (Or.inl ⟨by rfl, ?_⟩) (fun _ => hS) ?_
          rotate_left
          · (intro V; go_simp; (try with_reducible rfl))
          (try simp only [Act.put, List.setIfInBounds_toArray, List.set_cons_zero, List.set_cons_succ])
          refine wpAnyB_take (i := 2) (v := ?_) rfl (by kernel_rfl) (by kernel_rfl) (by kernel_rfl) (by kernel_rfl) (by kernel_rfl) (by kernel_rfl) (fun _ _ _ h => h) (Or.inl ⟨by rfl, ?_⟩) hS ?_
          rotate_left
          · (intro V hV; have e0 := hV.gt.at 0 _ rfl; go_simp; (try with_reducible rfl))
          (try simp only [Act.put, List.setIfInBounds_toArray, List.set_cons_zero, List.set_cons_succ])
          refine wpAnyB_take0 (i := 3) (v := ?_) rfl (by kernel_rfl) (by kernel_rfl) (by kernel_rfl) (by kernel_rfl) (fun _ _ _ h => h) (Or.inl ⟨by rfl, ?_⟩) (fun _ => hS) ?_
          rotate_left
          · (intro V; go_simp; (try with_reducible rfl))
          (try simp only [Act.put, List.setIfInBounds_toArray, List.set_cons_zero, List.set_cons_succ])
          refine wpAnyB_take0 (i := 4) (v := ?_) rfl (by kernel_rfl) (by kernel_rfl) (by kernel_rfl) (by kernel_rfl) (fun _ _ _ h => h) (Or.inl ⟨by rfl, ?_⟩) (fun _ => hS) ?_
          rotate_left
          · (intro V; go_simp; (try with_reducible rfl))
          (try simp only [Act.put, List.setIfInBounds_toArray, List.set_cons_zero, List.set_cons_succ])
          refine wpAnyB_take (i := 5) (v := ?_) rfl (by kernel_rfl) (by kernel_rfl) (by kernel_rfl) (by kernel_rfl) (by kernel_rfl) (by kernel_rfl) (fun _ _ _ h => h) (Or.inl ⟨by rfl, ?_⟩) hS ?_
          rotate_left
          · (intro V hV; have e0 := hV.la.at q _ (lslist_at _ hq3); rw [← HLV.out] at e0; go_simp; (try with_reducible rfl))
          (try simp only [Act.put, List.setIfInBounds_toArray, List.set_cons_zero, List.set_cons_succ])
          refine wpAnyB_take0 (i := 6) (v := ?_) rfl (by kernel_rfl) (by kernel_rfl) (by kernel_rfl) (by kernel_rfl) (fun _ _ _ h => h) (Or.inl ⟨by rfl, ?_⟩) (fun _ => hS) ?_
          rotate_left
          · (intro V; go_simp; (try with_reducible rfl))
          (try simp only [Act.put, List.setIfInBounds_toArray, List.set_cons_zero, List.set_cons_succ])
          refine wpAnyB_take0 (i := 7) (v := ?_) rfl (by kernel_rfl) (by kernel_rfl) (by kernel_rfl) (by kernel_rfl) (fun _ _ _ h => h) (Or.inl ⟨by rfl, ?_⟩) (fun _ => hS) ?_
          rotate_left
          · (intro V; go_simp; (try with_reducible rfl))
          (try simp only [Act.put, List.setIfInBounds_toArray, List.set_cons_zero, List.set_cons_succ])
          refine wpAnyB_take0 (i := 8) (v := ?_) rfl (by kernel_rfl) (by kernel_rfl) (by kernel_rfl) (by kernel_rfl) (fun _ _ _ h => h) (Or.inl ⟨by rfl, ?_⟩) (fun _ => hS) ?_
          rotate_left
          · (intro V; go_simp; (try with_reducible rfl))
          (try simp only [Act.put, List.setIfInBounds_toArray, List.set_cons_zero, List.set_cons_succ])
          refine wpAnyB_take0 (i := 9) (v := ?_) rfl (by kernel_rfl) (by kernel_rfl) (by kernel_rfl) (by kernel_rfl) (fun _ _ _ h => h) (Or.inl ⟨by rfl, ?_⟩) (fun _ => hS) ?_
          rotate_left
          · (intro V; go_simp; (try with_reducible rfl))
          (try simp only [Act.put, List.setIfInBounds_toArray, List.set_cons_zero, List.set_cons_succ])
          have k0 := HS.out.st.at (q * 2) _ (stlist_at _ _ hq3).1
          have k1 := HS.out.st.at (q * 2 + 1) _ (stlist_at _ _ hq3).2
          have kf := HS.out.st.fr
          have kl := HS.out.st.lt
          refine wpAnyB_ready (rs := [10]) (by kernel_rfl) (by simp) ?_
          refine AllReadyB.cons rfl (fun K hK => ?_) AllReadyB.nil
          go_simp
          refine hK.out _ _ (fun h => absurd h (by decide)) ?_
          clear hK K
          (try simp only [Act.put, List.setIfInBounds_toArray, List.set_cons_zero, List.set_cons_succ])
          refine wpAnyB_done (by kernel_rfl) ?_ _
          clear hS
          have e2 : Pl.upd (mx q (Pl.sim C m (3 * P)).d m.d) q dv = mx (q + 1) (Pl.sim C m (3 * P)).d m.d := by
            have h := mx_upd1 q (Pl.sim C m (3 * P)).d m.d
            rwa [← HDV.out] at h
          have S1 := ((HS.out.setS hq3 0).setD hq3 dv).dr
          rw [e2] at S1
          have c0 := HS.out.io.at (2 * q) _ (onlist_at _ (by omega))
          have c1 := HS.out.io.at (2 * q + 1) _ (onlist_at _ (by omega))
          rw [io0] at c0
          rw [io1] at c1
          have d0 := S1.io.at (2 * q) _ (onlist_at _ (by omega))
          have d1 := S1.io.at (2 * q + 1) _ (onlist_at _ (by omega))
          rw [io0] at d0
          rw [io1] at d1
          have dl := S1.io.lt
          have f0 := S1.st.at (q * 2) _ (stlist_at _ _ hq3).1
          have ff := S1.st.fr
          have fl := S1.st.lt
          rw [Pl.upd_same] at f0
          have z012 : sv = 0 ∨ sv = 1 ∨ sv = 2 := by omega
          rcases z012 with z | z | z
          · have y0 : (sv == 2) = false := by simp; omega
            have y1 : (sv == 1) = false := by simp; omega
            have e1 : Pl.upd (mx q (Pl.sim C m (3 * P)).s m.s) q 0 = mx (q + 1) (Pl.sim C m (3 * P)).s m.s := by
              have h := mx_upd1 q (Pl.sim C m (3 * P)).s m.s
              rwa [← HSV.out, z] at h
            rw [e1] at S1
            have HS1 := Lib.hid S1
            clear S1 z io0 io1
            go_wp2_with fail
            refine ⟨⟨q + 1, by omega, by go_num, HS1.out⟩, ?_⟩
            · first | (simp [intOf]; done) | (simp [intOf]; omega)
          · have y0 : (sv == 2) = false := by simp; omega
            have y1 : (sv == 1) = true := by simp; omega
            have e1 : Pl.upd (Pl.upd (mx q (Pl.sim C m (3 * P)).s m.s) q 0) q 1 = mx (q + 1) (Pl.sim C m (3 * P)).s m.s := by
              have h := mx_upd q (Pl.sim C m (3 * P)).s m.s 0
              rwa [← HSV.out, z] at h
            have HS1 := Lib.hid S1
            clear S1 z io0 io1
            go_wp2_with fail
            have S2 := HS1.out.setS hq3 1
            rw [e1] at S2
            refine ⟨⟨q + 1, by omega, by go_num, S2⟩, ?_⟩
            · first | (simp [intOf]; done) | (simp [intOf]; omega)
          · have y0 : (sv == 2) = true := by simp; omega
            have e1 : Pl.upd (Pl.upd (mx q (Pl.sim C m (3 * P)).s m.s) q 0) q 2 = mx (q + 1) (Pl.sim C m (3 * P)).s m.s := by
              have h := mx_upd q (Pl.sim C m (3 * P)).s m.s 0
              rwa [← HSV.out, z] at h
            have HS1 := Lib.hid S1
            clear S1 z io0 io1
            go_wp2_with fail
            have S2 := HS1.out.setS hq3 2
            rw [e1] at S2
            refine ⟨⟨q + 1, by omega, by go_num, S2⟩, ?_⟩
            · first | (simp [intOf]; done) | (simp [intOf]; omega)
        · obtain rfl : q = 3 := by omega
          have S0 := S.dr
          have HS := Lib.hid S
          clear S
          go_upto_region 33 with fail
          refine wp_region_B (fun V => Blk V w.heap.size (stlist (Pl.sim C m (3 * P)).s (Pl.sim C m (3 * P)).d)) [2] (by kernel_rfl) ?_
          have hS : Blk wr.drew w.heap.size (stlist (Pl.sim C m (3 * P)).s (Pl.sim C m (3 * P)).d) := S0.st
          refine wpAnyB_take (i := 0) (v := ?_) rfl (by kernel_rfl) (by kernel_rfl) (by kernel_rfl) (by kernel_rfl) (by kernel_rfl) (by kernel_rfl) (fun _ _ _ h => h) (Or.inl ⟨by rfl, ?_⟩) hS ?_
          rotate_left
          · (intro V hV; have e0 := hV.at 0 _ rfl; have e1 := hV.at 1 _ rfl; have e2 := hV.at 2 _ rfl; have e3 := hV.at 3 _ rfl; have e4 := hV.at 4 _ rfl; have e5 := hV.at 5 _ rfl; go_simp; (try with_reducible rfl))
          (try simp only [Act.put, List.setIfInBounds_toArray, List.set_cons_zero, List.set_cons_succ])
          refine wpAnyB_take0 (i := 1) (v := ?_) rfl (by kernel_rfl) (by kernel_rfl) (by kernel_rfl) (by kernel_rfl) (fun _ _ _ h => h) (Or.inl ⟨by rfl, ?_⟩) (fun _ => hS) ?_
          rotate_left
          · (intro V; go_simp; (try with_reducible rfl))
          (try simp only [Act.put, List.setIfInBounds_toArray, List.set_cons_zero, List.set_cons_succ])
          have x0 := HS.out.rs.at 0 _ rfl
          have x1 := HS.out.rs.at 1 _ rfl
          have x2 := HS.out.rs.at 2 _ rfl
          have x3 := HS.out.rs.at 3 _ rfl
          have x4 := HS.out.rs.at 4 _ rfl
          have x5 := HS.out.rs.at 5 _ rfl
          have xl := HS.out.rs.lt
          have xf := HS.out.rs.fr
          refine wpAnyB_ready (rs := [2]) (by kernel_rfl) (by simp) ?_
          refine AllReadyB.cons rfl (fun K hK => ?_) AllReadyB.nil
          go_simp
          refine hK.out _ _ (fun h => absurd h (by decide)) ?_
          clear hK K
          (try simp only [Act.put, List.setIfInBounds_toArray, List.set_cons_zero, List.set_cons_succ])
          refine wpAnyB_ready (rs := [3]) (by kernel_rfl) (by simp) ?_
          refine AllReadyB.cons rfl (fun K hK => ?_) AllReadyB.nil
          go_simp
          refine hK.out _ _ (fun h => absurd h (by decide)) ?_
          clear hK K
          (try simp only [Act.put, List.setIfInBounds_toArray, List.set_cons_zero, List.set_cons_succ])
          refine wpAnyB_done (by kernel_rfl) ?_ _
          go_wp2_with fail
          refine bodyPost_ret (safe_ret ((((((HS.out.rs.set 0 (.int .i64 ((Pl.sim C m (3 * P)).s 0)) (by simp)).set 1 (.int .i64 ((Pl.sim C m (3 * P)).d 0)) (by simp)).set 2 (.int .i64 ((Pl.sim C m (3 * P)).s 1)) (by simp)).set 3 (.int .i64 ((Pl.sim C m (3 * P)).d 1)) (by simp)).set 4 (.int .i64 ((Pl.sim C m (3 * P)).s 2)) (by simp)).set 5 (.int .i64 ((Pl.sim C m (3 * P)).d 2)) (by simp)).drew rfl rfl rfl) rfl ⟨rfl, ?_⟩
          (repeat (first | with_reducible refine Ext.drew ?_ | (with_reducible refine Ext.setCell ?_ (by simp; omega) _)))
          with_reducible exact HS.out.ext

end Go.Proofs.Ytfignlcplkihpaa
