/- The legs of a period, step by step, in plain numbers: sides, idles, edges; what the edges say; how long each switch is on.
   Conditions: none beyond each lemma's own. -/
namespace Go.Proofs.Ytfignlcplkihpaa.Pl

/-- An edge: the count, the switch, on or off. -/
structure Ed where
  a : Int
  s : Int
  o : Bool
/-- What is asked of the legs: from, to; the dead time; the trip. -/
structure GC where
  f : Nat → Int
  g : Nat → Int
  dead : Int
  trip : Int
def want (C : GC) (i : Nat) (t : Int) : Int := if C.trip ≤ t then 0 else if C.f i ≤ t ∧ t < C.g i then 2 else 1
def nmb (i : Nat) (s : Int) : Int := if s = 2 then 2 * i else 2 * i + 1
def upd {α : Type} (f : Nat → α) (i : Nat) (x : α) : Nat → α := fun j => if j = i then x else f j
theorem upd_same {α : Type} (f : Nat → α) (i : Nat) (x : α) : upd f i x i = x := if_pos rfl
theorem upd_off {α : Type} (f : Nat → α) {i j : Nat} (x : α) (h : j ≠ i) : upd f i x j = f j := if_neg h
/-- The legs: sides, idles, the counts of the last turn-offs, the edges so far. -/
structure Sim where
  s : Nat → Int
  d : Nat → Int
  l : Nat → Int
  es : List Ed
def sstep (C : GC) (m : Sim) (t i : Nat) : Sim :=
  if m.s i ≠ 0 ∧ m.s i ≠ want C i t then ⟨upd m.s i 0, upd m.d i 1, upd m.l i t, m.es ++ [⟨t, nmb i (m.s i), false⟩]⟩
  else if m.s i = 0 ∧ want C i t ≠ 0 ∧ C.dead ≤ m.d i then ⟨upd m.s i (want C i t), upd m.d i (min (m.d i + 1) 4096), m.l, m.es ++ [⟨t, nmb i (want C i t), true⟩]⟩
  else ⟨m.s, upd m.d i (min (m.d i + 1) 4096), m.l, m.es⟩
/-- k steps, each of one leg. -/
def sim (C : GC) (m : Sim) : Nat → Sim
  | 0 => m
  | k + 1 => sstep C (sim C m k) (k / 3) (k % 3)

theorem want_in (C : GC) (i : Nat) (t : Int) : 0 ≤ want C i t ∧ want C i t ≤ 2 := by
  unfold want
  split
  · omega
  · split <;> omega
/-- The three ways of a step. -/
theorem step_off {C : GC} {m : Sim} {t i : Nat} (h1 : m.s i ≠ 0) (h2 : m.s i ≠ want C i t) :
    sstep C m t i = ⟨upd m.s i 0, upd m.d i 1, upd m.l i t, m.es ++ [⟨t, nmb i (m.s i), false⟩]⟩ := by unfold sstep; rw [if_pos ⟨h1, h2⟩]
theorem step_on {C : GC} {m : Sim} {t i : Nat} (h1 : m.s i = 0) (h2 : want C i t ≠ 0) (h3 : C.dead ≤ m.d i) :
    sstep C m t i = ⟨upd m.s i (want C i t), upd m.d i (min (m.d i + 1) 4096), m.l, m.es ++ [⟨t, nmb i (want C i t), true⟩]⟩ := by
  unfold sstep; rw [if_neg (fun h => h.1 h1), if_pos ⟨h1, h2, h3⟩]
theorem step_no {C : GC} {m : Sim} {t i : Nat} (h1 : m.s i = 0 ∨ m.s i = want C i t) (h2 : m.s i ≠ 0 ∨ want C i t = 0 ∨ m.d i < C.dead) :
    sstep C m t i = ⟨m.s, upd m.d i (min (m.d i + 1) 4096), m.l, m.es⟩ := by
  unfold sstep
  rw [if_neg (fun h => by rcases h1 with h1 | h1 <;> simp_all), if_neg (fun h => by rcases h2 with h2 | h2 | h2 <;> first | exact h2 h.1 | exact h.2.1 h2 | omega)]
theorem step_ways (C : GC) (m : Sim) (t i : Nat) :
    (m.s i ≠ 0 ∧ m.s i ≠ want C i t ∧ sstep C m t i = ⟨upd m.s i 0, upd m.d i 1, upd m.l i t, m.es ++ [⟨t, nmb i (m.s i), false⟩]⟩) ∨
    (m.s i = 0 ∧ want C i t ≠ 0 ∧ C.dead ≤ m.d i ∧ sstep C m t i = ⟨upd m.s i (want C i t), upd m.d i (min (m.d i + 1) 4096), m.l, m.es ++ [⟨t, nmb i (want C i t), true⟩]⟩) ∨
    ((m.s i = 0 ∨ m.s i = want C i t) ∧ (m.s i ≠ 0 ∨ want C i t = 0 ∨ m.d i < C.dead) ∧ sstep C m t i = ⟨m.s, upd m.d i (min (m.d i + 1) 4096), m.l, m.es⟩) := by
  by_cases h0 : m.s i = 0
  · by_cases h1 : want C i t ≠ 0 ∧ C.dead ≤ m.d i
    · exact .inr (.inl ⟨h0, h1.1, h1.2, step_on h0 h1.1 h1.2⟩)
    · have h2 : m.s i ≠ 0 ∨ want C i t = 0 ∨ m.d i < C.dead := by
        by_cases hw : want C i t = 0
        · exact .inr (.inl hw)
        · exact .inr (.inr (by have : ¬ C.dead ≤ m.d i := fun hd => h1 ⟨hw, hd⟩
                               omega))
      exact .inr (.inr ⟨.inl h0, h2, step_no (.inl h0) h2⟩)
  · by_cases h1 : m.s i = want C i t
    · exact .inr (.inr ⟨.inr h1, .inl h0, step_no (.inr h1) (.inl h0)⟩)
    · exact .inl ⟨h0, h1, step_off h0 h1⟩

/-- A beginning. -/
structure Beg (m : Sim) : Prop where
  s : ∀ i, i < 3 → 0 ≤ m.s i ∧ m.s i ≤ 2
  d : ∀ i, i < 3 → 0 ≤ m.d i ∧ m.d i ≤ 4096
  l : ∀ i, i < 3 → m.l i = -m.d i
  es : m.es = []
/-- How many steps leg i has taken ahead of step k. -/
def took (k i : Nat) : Nat := (k + 2 - i) / 3
theorem took_step {k i : Nat} (hi : i < 3) : took (k + 1) i = took k i + if k % 3 = i then 1 else 0 := by
  unfold took
  split <;> omega
theorem took_at (k : Nat) : took k (k % 3) = k / 3 := by unfold took; omega
theorem took_all {t i : Nat} (hi : i < 3) : took (3 * t) i = t := by unfold took; omega
structure Inv (m : Sim) (k : Nat) : Prop where
  s : ∀ i, i < 3 → 0 ≤ m.s i ∧ m.s i ≤ 2
  d : ∀ i, i < 3 → 0 ≤ m.d i ∧ m.d i = min (took k i - m.l i) 4096
  l : ∀ i, i < 3 → -4096 ≤ m.l i ∧ m.l i ≤ took k i
theorem inv (C : GC) {m : Sim} (h : Beg m) : ∀ k, Inv (sim C m k) k := by
  intro k
  induction k with
  | zero =>
    refine ⟨h.s, fun i hi => ?_, fun i hi => ?_⟩
    · have := h.d i hi; have := h.l i hi
      have e : took 0 i = 0 := by unfold took; omega
      show 0 ≤ m.d i ∧ m.d i = min ((took 0 i : Int) - m.l i) 4096
      rw [e]; omega
    · have := h.d i hi; have := h.l i hi
      show -4096 ≤ m.l i ∧ m.l i ≤ (took 0 i : Int)
      omega
  | succ k ih =>
    have hi3 : k % 3 < 3 := Nat.mod_lt _ (by omega)
    have w := want_in C (k % 3) ((k / 3 : Nat) : Int)
    have a := ih.s (k % 3) hi3
    have b := ih.d (k % 3) hi3
    have c := ih.l (k % 3) hi3
    have ta := took_at k
    rw [ta] at b c
    have key : ∀ (i : Nat), i < 3 → ∀ (x y z : Int), 0 ≤ x → x ≤ 2 → 0 ≤ y → y = min ((k / 3 : Nat) + 1 - z) 4096 → -4096 ≤ z → z ≤ (k / 3 : Nat) + 1 →
        (0 ≤ upd (sim C m k).s (k % 3) x i ∧ upd (sim C m k).s (k % 3) x i ≤ 2) ∧ (0 ≤ upd (sim C m k).d (k % 3) y i ∧ upd (sim C m k).d (k % 3) y i = min (took (k + 1) i - upd (sim C m k).l (k % 3) z i) 4096) ∧ (-4096 ≤ upd (sim C m k).l (k % 3) z i ∧ upd (sim C m k).l (k % 3) z i ≤ took (k + 1) i) := by
      intro i hi x y z x0 x1 y0 y1 z0 z1
      have tk := took_step (k := k) hi
      by_cases e : i = k % 3
      · rw [if_pos e.symm, e, ta] at tk
        subst e
        rw [upd_same, upd_same, upd_same, tk]
        omega
      · rw [if_neg (fun h => e h.symm)] at tk
        have a' := ih.s i hi
        have b' := ih.d i hi
        have c' := ih.l i hi
        rw [upd_off _ _ e, upd_off _ _ e, upd_off _ _ e, tk]
        omega
    have same : ∀ (f : Nat → Int), upd f (k % 3) (f (k % 3)) = f := fun f => by
      funext j; unfold upd; split
      · rename_i e; rw [e]
      · rfl
    show Inv (sstep C (sim C m k) (k / 3) (k % 3)) (k + 1)
    rcases step_ways C (sim C m k) (k / 3) (k % 3) with ⟨_, _, e⟩ | ⟨_, _, _, e⟩ | ⟨_, _, e⟩
    · rw [e]
      have q := fun i hi => key i hi 0 1 ((k / 3 : Nat) : Int) (by omega) (by omega) (by omega) (by omega) (by omega) (by omega)
      exact ⟨fun i hi => (q i hi).1, fun i hi => (q i hi).2.1, fun i hi => (q i hi).2.2⟩
    · rw [e]
      have q := fun i hi => key i hi (want C (k % 3) ((k / 3 : Nat) : Int)) (min ((sim C m k).d (k % 3) + 1) 4096) ((sim C m k).l (k % 3)) w.1 w.2 (by omega) (by omega) (by omega) (by omega)
      rw [same] at q
      exact ⟨fun i hi => (q i hi).1, fun i hi => (q i hi).2.1, fun i hi => (q i hi).2.2⟩
    · rw [e]
      have q := fun i hi => key i hi ((sim C m k).s (k % 3)) (min ((sim C m k).d (k % 3) + 1) 4096) ((sim C m k).l (k % 3)) a.1 a.2 (by omega) (by omega) (by omega) (by omega)
      rw [same, same] at q
      exact ⟨fun i hi => (q i hi).1, fun i hi => (q i hi).2.1, fun i hi => (q i hi).2.2⟩

/-! The edges -/
/-- What a step adds. -/
def Emits (C : GC) (m : Sim) (t i : Nat) (e : Ed) : Prop :=
  (m.s i ≠ 0 ∧ e = ⟨t, nmb i (m.s i), false⟩ ∧ sstep C m t i = ⟨upd m.s i 0, upd m.d i 1, upd m.l i t, m.es ++ [e]⟩) ∨
  (m.s i = 0 ∧ want C i t ≠ 0 ∧ C.dead ≤ m.d i ∧ e = ⟨t, nmb i (want C i t), true⟩ ∧ sstep C m t i = ⟨upd m.s i (want C i t), upd m.d i (min (m.d i + 1) 4096), m.l, m.es ++ [e]⟩)
theorem Emits.es {C : GC} {m : Sim} {t i : Nat} {e : Ed} (h : Emits C m t i e) : (sstep C m t i).es = m.es ++ [e] := by
  rcases h with ⟨_, _, h⟩ | ⟨_, _, _, _, h⟩ <;> rw [h]
theorem emits_or (C : GC) (m : Sim) (t i : Nat) : (∃ e, Emits C m t i e) ∨ ((sstep C m t i).s = m.s ∧ (sstep C m t i).l = m.l ∧ (sstep C m t i).es = m.es) := by
  rcases step_ways C m t i with ⟨h1, h2, e⟩ | ⟨h1, h2, h3, e⟩ | ⟨_, _, e⟩
  · exact .inl ⟨_, .inl ⟨h1, rfl, e⟩⟩
  · exact .inl ⟨_, .inr ⟨h1, h2, h3, rfl, e⟩⟩
  · exact .inr (by rw [e]; exact ⟨rfl, rfl, rfl⟩)
theorem nmb_bd {i : Nat} (s : Int) : 2 * (i : Int) ≤ nmb i s ∧ nmb i s ≤ 2 * i + 1 := by unfold nmb; split <;> omega
theorem Emits.key {C : GC} {m : Sim} {t i : Nat} {e : Ed} (h : Emits C m t i e) : e.a = t ∧ 2 * (i : Int) ≤ e.s ∧ e.s ≤ 2 * i + 1 := by
  rcases h with ⟨_, h, _⟩ | ⟨_, _, _, h, _⟩ <;> (rw [h]; exact ⟨rfl, nmb_bd _⟩)
def key (e : Ed) : Int := 6 * e.a + e.s
/-- The edges ascend, and lie in the steps so far. -/
theorem es_keys (C : GC) {m : Sim} (hb : Beg m) : ∀ k, ((sim C m k).es.Pairwise fun a b => key a < key b) ∧ ∀ e ∈ (sim C m k).es, 0 ≤ e.a ∧ 0 ≤ e.s ∧ e.s ≤ 5 ∧ key e < 2 * k := by
  intro k
  induction k with
  | zero => show ((m.es).Pairwise _) ∧ _; exact ⟨by rw [hb.es]; exact List.Pairwise.nil, by show ∀ e ∈ m.es, _; rw [hb.es]; intro e h; cases h⟩
  | succ k ih =>
    rcases emits_or C (sim C m k) (k / 3) (k % 3) with ⟨e, he⟩ | ⟨_, _, e⟩
    · have ee : (sim C m (k + 1)).es = (sim C m k).es ++ [e] := he.es
      have ⟨k1, k2, k3⟩ := he.key
      rw [ee]
      have kk : 2 * (k : Int) ≤ key e ∧ key e ≤ 2 * k + 1 := by unfold key; omega
      refine ⟨List.pairwise_append.2 ⟨ih.1, List.pairwise_singleton _ _, fun a ha b hb => ?_⟩, fun x hx => ?_⟩
      · have := (ih.2 a ha).2.2.2
        rw [List.mem_singleton.1 hb]; omega
      · rcases List.mem_append.1 hx with hx | hx
        · have := ih.2 x hx; omega
        · rw [List.mem_singleton.1 hx]; omega
    · have ee : (sim C m (k + 1)).es = (sim C m k).es := e
      rw [ee]
      exact ⟨ih.1, fun x hx => by have := ih.2 x hx; omega⟩
theorem es_len (C : GC) (m : Sim) (k : Nat) : (sim C m k).es.length ≤ (sim C m (k + 1)).es.length := by
  rcases emits_or C (sim C m k) (k / 3) (k % 3) with ⟨e, he⟩ | ⟨_, _, e⟩
  · have ee : (sim C m (k + 1)).es = (sim C m k).es ++ [e] := he.es
    rw [ee]; simp
  · have ee : (sim C m (k + 1)).es = (sim C m k).es := e
    rw [ee]; exact Nat.le_refl _
theorem es_mono (C : GC) (m : Sim) {k k' : Nat} (h : k ≤ k') : (sim C m k).es.length ≤ (sim C m k').es.length := by
  induction h with
  | refl => exact Nat.le_refl _
  | step _ ih => exact Nat.le_trans ih (es_len C m _)
theorem es_pre (C : GC) (m : Sim) {k k' : Nat} (h : k ≤ k') : ∃ r, (sim C m k').es = (sim C m k).es ++ r := by
  induction h with
  | refl => exact ⟨[], (List.append_nil _).symm⟩
  | @step n _ ih =>
    obtain ⟨r, hr⟩ := ih
    rcases emits_or C (sim C m n) (n / 3) (n % 3) with ⟨e, he⟩ | ⟨_, _, e⟩
    · have ee : (sim C m (n + 1)).es = (sim C m n).es ++ [e] := he.es
      exact ⟨r ++ [e], by rw [ee, hr, List.append_assoc]⟩
    · have ee : (sim C m (n + 1)).es = (sim C m n).es := e
      exact ⟨r, by rw [ee, hr]⟩
/-- Between two counts of equally many edges no side has changed. -/
theorem still (C : GC) (m : Sim) {k k' : Nat} (h : k ≤ k') (hl : (sim C m k).es.length = (sim C m k').es.length) : (sim C m k').s = (sim C m k).s ∧ (sim C m k').l = (sim C m k).l := by
  induction h with
  | refl => exact ⟨rfl, rfl⟩
  | @step n hn ih =>
    have h1 := es_mono C m hn
    have h2 := es_len C m n
    have hl : (sim C m k).es.length = (sim C m (n + 1)).es.length := hl
    have ih := ih (by omega)
    rcases emits_or C (sim C m n) (n / 3) (n % 3) with ⟨e, he⟩ | ⟨e1, e2, _⟩
    · have ee : (sim C m (n + 1)).es = (sim C m n).es ++ [e] := he.es
      have : (sim C m (n + 1)).es.length = (sim C m n).es.length + 1 := by rw [ee]; simp
      omega
    · exact ⟨Eq.trans e1 ih.1, Eq.trans e2 ih.2⟩
/-- The next edge: which step lays it. -/
theorem next_edge (C : GC) (m : Sim) (k : Nat) : ∀ K, k ≤ K → (sim C m k).es.length < (sim C m K).es.length →
    ∃ n e, k ≤ n ∧ n < K ∧ (sim C m n).es.length = (sim C m k).es.length ∧ Emits C (sim C m n) (n / 3) (n % 3) e ∧ (sim C m K).es[(sim C m k).es.length]? = some e := by
  intro K hK
  induction hK with
  | refl => intro h; omega
  | @step n hn ih =>
    intro hl
    by_cases h1 : (sim C m k).es.length < (sim C m n).es.length
    · obtain ⟨q, e, a1, a2, a3, a4, a5⟩ := ih h1
      obtain ⟨r, hr⟩ := es_pre C m (Nat.le_succ n)
      refine ⟨q, e, a1, by omega, a3, a4, ?_⟩
      show (sim C m (n + 1)).es[_]? = _
      rw [hr, List.getElem?_append_left h1]
      exact a5
    · have h2 := es_mono C m hn
      have h3 : (sim C m n).es.length = (sim C m k).es.length := by omega
      rcases emits_or C (sim C m n) (n / 3) (n % 3) with ⟨e, he⟩ | ⟨_, _, e⟩
      · have ee : (sim C m (n + 1)).es = (sim C m n).es ++ [e] := he.es
        refine ⟨n, e, hn, by omega, h3, he, ?_⟩
        show (sim C m (n + 1)).es[_]? = _
        rw [ee, ← h3, List.getElem?_append_right (Nat.le_refl _), Nat.sub_self]; rfl
      · have ee : (sim C m (n + 1)).es = (sim C m n).es := e
        have hl' : (sim C m k).es.length < (sim C m (n + 1)).es.length := hl
        rw [ee] at hl'
        omega

/-! One leg -/
def stepS (w dead s d : Int) : Int := if s ≠ 0 ∧ s ≠ w then 0 else if s = 0 ∧ w ≠ 0 ∧ dead ≤ d then w else s
def stepD (w s d : Int) : Int := if s ≠ 0 ∧ s ≠ w then 1 else min (d + 1) 4096
theorem stepS_up {dead s d : Int} (z : s = 0) (h : dead ≤ d) : stepS 2 dead s d = 2 := by
  unfold stepS; rw [if_neg (fun h => h.1 z : ¬ (s ≠ 0 ∧ s ≠ 2)), if_pos (⟨z, by omega, h⟩ : s = 0 ∧ (2 : Int) ≠ 0 ∧ dead ≤ d)]
theorem stepS_wait {w dead s d : Int} (z : s = 0) (h : d < dead) : stepS w dead s d = 0 := by
  unfold stepS; rw [if_neg (fun h => h.1 z : ¬ (s ≠ 0 ∧ s ≠ w)), if_neg (fun h' => by have := h'.2.2; omega : ¬ (s = 0 ∧ w ≠ 0 ∧ dead ≤ d))]; exact z
theorem stepD_0 {w s d : Int} (z : s = 0) : stepD w s d = min (d + 1) 4096 := by
  unfold stepD; rw [if_neg (fun h => h.1 z : ¬ (s ≠ 0 ∧ s ≠ w))]
theorem stepS_2 (dead d : Int) : stepS 2 dead 2 d = 2 := by
  unfold stepS; rw [if_neg (fun h => h.2 rfl : ¬ ((2 : Int) ≠ 0 ∧ (2 : Int) ≠ 2)), if_neg (fun h => by have := h.1; omega : ¬ ((2 : Int) = 0 ∧ (2 : Int) ≠ 0 ∧ dead ≤ d))]
theorem step_x {w dead s d : Int} (z : s ≠ 0) (h : s ≠ w) : stepS w dead s d = 0 ∧ stepD w s d = 1 := by
  unfold stepS stepD; rw [if_pos (⟨z, h⟩ : s ≠ 0 ∧ s ≠ w), if_pos (⟨z, h⟩ : s ≠ 0 ∧ s ≠ w)]; exact ⟨rfl, rfl⟩
theorem sstep_s (C : GC) (m : Sim) (t i : Nat) : (sstep C m t i).s i = stepS (want C i t) C.dead (m.s i) (m.d i) ∧ (sstep C m t i).d i = stepD (want C i t) (m.s i) (m.d i) := by
  unfold stepS stepD
  rcases step_ways C m t i with ⟨h1, h2, e⟩ | ⟨h1, h2, h3, e⟩ | ⟨h1, h2, e⟩
  · rw [e, if_pos ⟨h1, h2⟩, if_pos ⟨h1, h2⟩]; exact ⟨upd_same _ _ _, upd_same _ _ _⟩
  · rw [e, if_neg (fun h => h.1 h1), if_pos ⟨h1, h2, h3⟩, if_neg (fun h => h.1 h1)]; exact ⟨upd_same _ _ _, upd_same _ _ _⟩
  · rw [e, if_neg (fun h => by rcases h1 with h1 | h1 <;> simp_all), if_neg (fun h => by rcases h2 with h2 | h2 | h2 <;> first | exact h2 h.1 | exact h.2.1 h2 | omega), if_neg (fun h => by rcases h1 with h1 | h1 <;> simp_all)]
    exact ⟨rfl, upd_same _ _ _⟩
theorem sstep_o (C : GC) (m : Sim) (t : Nat) {i j : Nat} (h : j ≠ i) : (sstep C m t i).s j = m.s j ∧ (sstep C m t i).d j = m.d j := by
  rcases step_ways C m t i with ⟨_, _, e⟩ | ⟨_, _, _, e⟩ | ⟨_, _, e⟩ <;> rw [e]
  · exact ⟨upd_off _ _ h, upd_off _ _ h⟩
  · exact ⟨upd_off _ _ h, upd_off _ _ h⟩
  · exact ⟨rfl, upd_off _ _ h⟩
/-- A leg's side and idle behind t counts. -/
def sd (C : GC) (m : Sim) (t i : Nat) : Int := (sim C m (3 * t)).s i
def dd (C : GC) (m : Sim) (t i : Nat) : Int := (sim C m (3 * t)).d i
theorem leg_step (C : GC) (m : Sim) (t : Nat) {i : Nat} (hi : i < 3) : sd C m (t + 1) i = stepS (want C i t) C.dead (sd C m t i) (dd C m t i) ∧ dd C m (t + 1) i = stepD (want C i t) (sd C m t i) (dd C m t i) := by
  unfold sd dd
  have e3 : 3 * (t + 1) = 3 * t + 1 + 1 + 1 := by omega
  have s0 : sim C m (3 * t + 1) = sstep C (sim C m (3 * t)) t 0 := by
    show sstep C _ (3 * t / 3) (3 * t % 3) = _
    rw [show 3 * t / 3 = t by omega, show 3 * t % 3 = 0 by omega]
  have s1 : sim C m (3 * t + 1 + 1) = sstep C (sim C m (3 * t + 1)) t 1 := by
    show sstep C _ ((3 * t + 1) / 3) ((3 * t + 1) % 3) = _
    rw [show (3 * t + 1) / 3 = t by omega, show (3 * t + 1) % 3 = 1 by omega]
  have s2 : sim C m (3 * t + 1 + 1 + 1) = sstep C (sim C m (3 * t + 1 + 1)) t 2 := by
    show sstep C _ ((3 * t + 1 + 1) / 3) ((3 * t + 1 + 1) % 3) = _
    rw [show (3 * t + 1 + 1) / 3 = t by omega, show (3 * t + 1 + 1) % 3 = 2 by omega]
  rw [e3, s2, s1, s0]
  match i, hi with
  | 0, _ =>
    have a := sstep_s C (sim C m (3 * t)) t 0
    have b := sstep_o C (sstep C (sim C m (3 * t)) t 0) t (i := 1) (j := 0) (by omega)
    have c := sstep_o C (sstep C (sstep C (sim C m (3 * t)) t 0) t 1) t (i := 2) (j := 0) (by omega)
    exact ⟨(c.1.trans b.1).trans a.1, (c.2.trans b.2).trans a.2⟩
  | 1, _ =>
    have a := sstep_o C (sim C m (3 * t)) t (i := 0) (j := 1) (by omega)
    have b := sstep_s C (sstep C (sim C m (3 * t)) t 0) t 1
    have c := sstep_o C (sstep C (sstep C (sim C m (3 * t)) t 0) t 1) t (i := 2) (j := 1) (by omega)
    rw [a.1, a.2] at b
    exact ⟨c.1.trans b.1, c.2.trans b.2⟩
  | 2, _ =>
    have a := sstep_o C (sim C m (3 * t)) t (i := 0) (j := 2) (by omega)
    have b := sstep_o C (sstep C (sim C m (3 * t)) t 0) t (i := 1) (j := 2) (by omega)
    have c := sstep_s C (sstep C (sstep C (sim C m (3 * t)) t 0) t 1) t 2
    rw [b.1, b.2, a.1, a.2] at c
    exact c

/-! How long each switch is on -/
/-- In how many of the first t counts leg i's side was c. -/
def cnt (C : GC) (m : Sim) (i : Nat) (c : Int) : Nat → Int
  | 0 => 0
  | t + 1 => cnt C m i c t + if sd C m (t + 1) i = c then 1 else 0
theorem cnt_nonneg (C : GC) (m : Sim) (i : Nat) (c : Int) : ∀ t, 0 ≤ cnt C m i c t
  | 0 => Int.le_refl 0
  | t + 1 => by have := cnt_nonneg C m i c t; unfold cnt; split <;> omega
theorem cnt_le (C : GC) (m : Sim) (i : Nat) (c : Int) : ∀ t : Nat, cnt C m i c t ≤ t
  | 0 => Int.le_refl 0
  | t + 1 => by have := cnt_le C m i c t; unfold cnt; split <;> omega
theorem sd_in (C : GC) {m : Sim} (h : Beg m) (t : Nat) {i : Nat} (hi : i < 3) : 0 ≤ sd C m t i ∧ sd C m t i ≤ 2 := (inv C h (3 * t)).s i hi
theorem cnt_sum (C : GC) {m : Sim} (h : Beg m) {i : Nat} (hi : i < 3) : ∀ t : Nat, cnt C m i 2 t + cnt C m i 1 t + cnt C m i 0 t = t
  | 0 => rfl
  | t + 1 => by
    have := cnt_sum C h hi t
    have := sd_in C h (t + 1) hi
    unfold cnt
    split <;> split <;> split <;> omega
theorem sd_want (C : GC) (m : Sim) (t : Nat) {i : Nat} (hi : i < 3) : sd C m (t + 1) i = 0 ∨ sd C m (t + 1) i = want C i t := by
  rw [(leg_step C m t hi).1]
  unfold stepS
  split
  · exact .inl rfl
  · split
    · exact .inr rfl
    · rename_i h1 _
      by_cases h : sd C m t i = 0
      · exact .inl h
      · exact .inr (by
          by_cases h2 : sd C m t i = want C i t
          · exact h2
          · exact absurd ⟨h, h2⟩ h1)
theorem cnt_hi (C : GC) (m : Sim) {i : Nat} (hi : i < 3) (f0 : 0 ≤ C.f i) (fg : C.f i ≤ C.g i) : ∀ t : Nat, cnt C m i 2 t ≤ max 0 (min (t : Int) (C.g i) - C.f i)
  | 0 => by show (0 : Int) ≤ _; omega
  | t + 1 => by
    have ih := cnt_hi C m hi f0 fg t
    unfold cnt
    split
    · rename_i h
      have w : want C i t = 2 := by
        rcases sd_want C m t hi with h1 | h1
        · omega
        · omega
      unfold want at w
      split at w
      · omega
      · split at w
        · omega
        · omega
    · omega
theorem tripped (C : GC) (m : Sim) (t : Nat) {i : Nat} (hi : i < 3) (h : C.trip ≤ t) : sd C m (t + 1) i = 0 := by
  have w : want C i t = 0 := by unfold want; rw [if_pos h]
  rcases sd_want C m t hi with h1 | h1 <;> omega
/-- Without a trip the upper switch is on from the dead time behind From on. -/
theorem cnt_lo (C : GC) {m : Sim} (hb : Beg m) {i : Nat} (hi : i < 3) (P : Nat) (hP : P ≤ C.trip) (d1 : 1 ≤ C.dead) (d2 : C.dead ≤ 1024) (F : Nat) (hF : C.f i = F) : ∀ j : Nat, (F : Int) + j ≤ C.g i → F + j ≤ P →
    (F : Int) + j - F - C.dead ≤ cnt C m i 2 (F + j) ∧ (0 < j → sd C m (F + j) i = 2 ∨ (sd C m (F + j) i = 0 ∧ (j : Int) ≤ dd C m (F + j) i ∧ (j : Int) ≤ C.dead)) := by
  intro j
  induction j with
  | zero => exact fun _ _ => ⟨by have := cnt_nonneg C m i 2 (F + 0); omega, fun h => absurd h (by omega)⟩
  | succ j ih =>
    intro h1 h2
    have ⟨i1, i2⟩ := ih (by omega) (by omega)
    have ⟨l1, l2⟩ := leg_step C m (F + j) hi
    have e : F + (j + 1) = F + j + 1 := by omega
    have w : want C i ((F + j : Nat) : Int) = 2 := by
      unfold want
      rw [if_neg (by omega), if_pos ⟨by rw [hF]; omega, by omega⟩]
    rw [w] at l1 l2
    have iv := inv C hb (3 * (F + j))
    have sb := iv.s i hi
    have db := (iv.d i hi).1
    have hs : sd C m (F + j) i = (sim C m (3 * (F + j))).s i := rfl
    have hd : dd C m (F + j) i = (sim C m (3 * (F + j))).d i := rfl
    rw [← hs] at sb
    rw [← hd] at db
    have res : sd C m (F + j + 1) i = 2 ∨ (sd C m (F + j + 1) i = 0 ∧ (j : Int) + 1 ≤ dd C m (F + j + 1) i ∧ (j : Int) + 1 ≤ C.dead) := by
      rw [l1, l2]
      by_cases z : sd C m (F + j) i = 0
      · by_cases hd2 : C.dead ≤ dd C m (F + j) i
        · exact .inl (stepS_up z hd2)
        · have e1 := stepS_wait (w := 2) z (show dd C m (F + j) i < C.dead by omega)
          have e2 := stepD_0 (w := 2) (d := dd C m (F + j) i) z
          rw [e1, e2]
          refine .inr ⟨rfl, ?_, ?_⟩
          · rcases Nat.eq_zero_or_pos j with hj | hj
            · omega
            · rcases i2 hj with h | h <;> omega
          · rcases Nat.eq_zero_or_pos j with hj | hj
            · omega
            · rcases i2 hj with h | h <;> omega
      · by_cases z2 : sd C m (F + j) i = 2
        · exact .inl (by rw [z2]; exact stepS_2 _ _)
        · have ⟨e1, e2⟩ := step_x (w := 2) (dead := C.dead) (d := dd C m (F + j) i) z z2
          rw [e1, e2]
          refine .inr ⟨rfl, ?_, ?_⟩
          · rcases Nat.eq_zero_or_pos j with hj | hj
            · omega
            · rcases i2 hj with h | h <;> omega
          · rcases Nat.eq_zero_or_pos j with hj | hj
            · omega
            · rcases i2 hj with h | h <;> omega
    have ec : cnt C m i 2 (F + j + 1) = cnt C m i 2 (F + j) + if sd C m (F + j + 1) i = 2 then 1 else 0 := rfl
    rw [e]
    refine ⟨?_, fun _ => by have e2 : ((j + 1 : Nat) : Int) = (j : Int) + 1 := by omega
                            rw [e2]; exact res⟩
    rw [ec]
    have cn := cnt_nonneg C m i 2 (F + j)
    rcases res with h | h
    · rw [if_pos h]; omega
    · rw [if_neg (by omega)]; omega
theorem cnt_mono (C : GC) (m : Sim) (i : Nat) (c : Int) {t t' : Nat} (h : t ≤ t') : cnt C m i c t ≤ cnt C m i c t' := by
  induction h with
  | refl => exact Int.le_refl _
  | step _ ih => refine Int.le_trans ih ?_; show _ ≤ cnt C m i c _ + _; split <;> omega

end Go.Proofs.Ytfignlcplkihpaa.Pl
