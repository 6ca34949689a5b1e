/- A region that draws its order, whose last operations write cells that it loads ahead of them: the loads are taken first all the same.
   The law of the kit (wpAnyH) with one turn: behind the operations 'br' (each of which waits for every load that is taken first) the condition is no longer asked.
   Conditions: each lemma's own. -/
import Derived.Test.YtfignlcplkihpaaBase
import Derived.Deep.RegionHeld3
import Derived.Deep.Cut
namespace Go.Proofs.Ytfignlcplkihpaa
open Go.ChangeShapes Go.WideShapes Go.ChangeAt Go.RowKit

section
variable {P : Program} {ops : Array Oper} {Q : Exit → Act → World → Prop} {md : Region.Mode} {S : World → Prop} {br : List Nat}

/-- None of br has come up. -/
def early (br : List Nat) (listed : Array Bool) : Bool := br.all fun b => !listed.getD b true
/-- b waits for i, if only by way of others. -/
def waitsT (md : Region.Mode) (ops : Array Oper) (i : Nat) : Nat → Nat → Bool
  | 0, _ => false
  | f + 1, b => match ops[b]? with
    | some o => o.after.any fun e => Region.binds md e && (e.on == i || waitsT md ops i f e.on)
    | none => false
/-- Each of br waits for i. -/
def waits (md : Region.Mode) (ops : Array Oper) (br : List Nat) (i : Nat) : Bool := br.all fun b => waitsT md ops i 8 b
/-- What has come up did not come before what it waits for. -/
def closedB (md : Region.Mode) (ops : Array Oper) (listed : Array Bool) : Bool := (List.range ops.size).all fun k => !listed.getD k true || match ops[k]? with
  | some o => o.after.all fun e => !Region.binds md e || listed.getD e.on false
  | none => true
def Closed (md : Region.Mode) (ops : Array Oper) (listed : Array Bool) : Prop :=
  ∀ k ok, ops[k]? = some ok → listed.getD k true = true → ∀ e ∈ ok.after, Region.binds md e = true → listed.getD e.on false = true
theorem closed_of {listed : Array Bool} (h : closedB md ops listed = true) : Closed md ops listed := fun k ok hk hl e he hb => by
  unfold closedB at h
  rw [List.all_eq_true] at h
  have h1 := h k (List.mem_range.2 (Array.getElem?_eq_some_iff.1 hk).1)
  simp only [hk, hl, Bool.not_true, Bool.false_or] at h1
  have h2 := Array.all_eq_true_iff_forall_mem.1 h1 e he
  simp only [hb, Bool.not_true, Bool.false_or] at h2
  exact h2
theorem Closed.set {j : Nat} {listed : Array Bool} (h : Closed md ops listed) (hj : j ∈ Region.ready md ops listed) : Closed md ops (listed.setIfInBounds j true) := fun k ok hk hl e he hb => by
  by_cases ekj : j = k
  · subst ekj
    obtain ⟨_, oj, hoj, hall⟩ := mem_ready.1 hj
    rw [hk] at hoj
    cases hoj
    exact getD_set_true (hall e he hb)
  · rw [getD_set_ne true ekj] at hl
    exact getD_set_true (h k ok hk hl e he hb)
theorem getD_up {listed : Array Bool} {k : Nat} (h : listed.getD k false = true) : listed.getD k true = true := by
  rcases Nat.lt_or_ge k listed.size with h' | h'
  · simp [h'] at h ⊢; exact h
  · simp [Array.getElem?_eq_none h'] at h
theorem waitsT_listed {i : Nat} {listed : Array Bool} (hc : Closed md ops listed) : ∀ f b, waitsT md ops i f b = true → listed.getD b true = true → listed.getD i false = true
  | 0, _, h, _ => by simp [waitsT] at h
  | f + 1, b, h, hb => by
    unfold waitsT at h
    cases ho : ops[b]? with
    | none => rw [ho] at h; cases h
    | some o =>
      simp only [ho] at h
      obtain ⟨e, he, hx⟩ := Array.any_eq_true'.1 h
      simp only [Bool.and_eq_true, Bool.or_eq_true, beq_iff_eq] at hx
      have h2 := hc b o ho hb e he hx.1
      rcases hx.2 with h3 | h3
      · rw [← h3]; exact h2
      · exact waitsT_listed hc f e.on h3 (getD_up h2)

def wpAnyB (P : Program) (md : Region.Mode) (ops : Array Oper) (Q : Exit → Act → World → Prop) (S : World → Prop) (br : List Nat) : Nat → Array Bool → Act → World → Prop
  | 0, listed, a, w => Region.ready md ops listed = [] ∧ Q .normal a w
  | fuel + 1, listed, a, w =>
    (Region.ready md ops listed = [] → Q .normal a w) ∧
    ∀ i ∈ Region.ready md ops listed, wpOp P ops Q i (fun a' w' => (early br (listed.setIfInBounds i true) = true → S w') ∧ wpAnyB P md ops Q S br fuel (listed.setIfInBounds i true) a' w') a w

theorem wpAny_of_B : ∀ (fuel : Nat) (listed : Array Bool) (a : Act) (w : World), wpAnyB P md ops Q S br fuel listed a w → wpAny P md ops Q fuel listed a w
  | 0, _, _, _, h => h
  | fuel + 1, _, _, _, h => ⟨h.1, fun i hi => wpOp_mono (fun a' w' h' => wpAny_of_B fuel _ a' w' h'.2) (h.2 i hi)⟩

theorem waits_not {i j : Nat} {listed : Array Bool} (hc : Closed md ops listed) (hw : waits md ops br i = true) (hi : listed.getD i true = false) (hj : j ∈ Region.ready md ops listed) : j ∉ br := fun hb => by
  obtain ⟨_, oj, hoj, hall⟩ := mem_ready.1 hj
  have h1 := List.all_eq_true.1 hw j hb
  have hil : listed.getD i false = true := by
    unfold waitsT at h1
    simp only [hoj] at h1
    obtain ⟨e, he, hx⟩ := Array.any_eq_true'.1 h1
    simp only [Bool.and_eq_true, Bool.or_eq_true, beq_iff_eq] at hx
    have h2 := hall e he hx.1
    rcases hx.2 with h3 | h3
    · rw [← h3]; exact h2
    · exact waitsT_listed hc 7 e.on h3 (getD_up h2)
  rw [getD_up hil] at hi
  cases hi

theorem early_set {j : Nat} {listed : Array Bool} (h : early br listed = true) (hj : j ∉ br) : early br (listed.setIfInBounds j true) = true := by
  unfold early at *
  rw [List.all_eq_true] at *
  intro b hb
  have hne : j ≠ b := fun e => hj (e ▸ hb)
  rw [getD_set_ne true hne]
  exact h b hb

theorem wpAnyB_first {i : Nat} {oi : Oper} {v : Value} (hi : ops[i]? = some oi) (hsel : ∀ (j : Nat) (o : Oper) cs b, ops[j]? = some o → o.op ≠ .select cs b)
    (hQ : ∀ c a w, Q (.panic c) (a.put oi.dst v) w → Q (.panic c) a w) (hwt : waits md ops br i = true) :
    ∀ (fuel : Nat) (listed : Array Bool) (a : Act) (w : World),
      (∀ j oj, ops[j]? = some oj → j ≠ i → listed.getD j true = false → (∀ e ∈ oj.after, Region.binds md e = true → e.on ≠ i) → oi.apart ops oj = true) →
      i ∈ Region.ready md ops listed → Closed md ops listed → early br listed = true → YieldsIf P ops S oi v a → S w →
      wpAnyB P md ops Q S br fuel (listed.setIfInBounds i true) (a.put oi.dst v) w → wpAnyB P md ops Q S br (fuel + 1) listed a w := by
  intro fuel
  induction fuel with
  | zero =>
    intro listed a w _ hr _ _ hy hS H
    refine ⟨fun h => (by rw [h] at hr; cases hr), fun j hj => ?_⟩
    by_cases hji : j = i
    · subst hji; exact hy.wpOp hi hS ⟨fun _ => hS, H⟩
    · have := ready_mono hj hji
      rw [H.1] at this
      cases this
  | succ fuel ih =>
    intro listed a w hfree hr hcl hel hy hS H
    refine ⟨fun h => (by rw [h] at hr; cases hr), fun j hj => ?_⟩
    by_cases hji : j = i
    · subst hji; exact hy.wpOp hi hS ⟨fun _ => hS, H⟩
    · have h1 := H.2 j (ready_mono hj hji)
      have hr0 := (mem_ready.1 hr).1
      obtain ⟨hjun, oj, hoj, hall⟩ := mem_ready.1 hj
      have hnot : ∀ e ∈ oj.after, Region.binds md e = true → e.on ≠ i := fun e he hb heq => by
        have h1 := hall e he hb
        have h0 := hr0
        rw [heq] at h1
        rcases Nat.lt_or_ge i listed.size with h' | h'
        · simp [h'] at h0 h1; rw [h0] at h1; cases h1
        · simp [Array.getElem?_eq_none h'] at h1
      have hjb : j ∉ br := waits_not hcl hwt hr0 hj
      have hib : i ∉ br := waits_not hcl hwt hr0 hr
      have he1 : early br (listed.setIfInBounds j true) = true := early_set hel hjb
      have he2 : early br ((listed.setIfInBounds i true).setIfInBounds j true) = true := early_set (early_set hel hib) hjb
      have h2 := wpOp_putIf hoj (hfree j oj hoj hji hjun hnot) (fun cs b => hsel i oi cs b hi) (fun cs b => hsel j oj cs b hoj) hQ hy h1
      have hfree' : ∀ k ok, ops[k]? = some ok → k ≠ i → (listed.setIfInBounds j true).getD k true = false →
          (∀ e ∈ ok.after, Region.binds md e = true → e.on ≠ i) → oi.apart ops ok = true := fun k ok hk hki hun hno => by
        refine hfree k ok hk hki ?_ hno
        by_cases hjk : j = k
        · subst hjk; exact hjun
        · rw [getD_set_ne true hjk] at hun; exact hun
      refine wpOp_mono (fun a' w' h3 => ⟨fun _ => h3.2.1 he2, ih (listed.setIfInBounds j true) a' w' hfree' (ready_mono hr (Ne.symm hji)) (hcl.set hj) he1 h3.1 (h3.2.1 he2) ?_⟩) h2
      rw [Array.setIfInBounds_comm _ _ hji]
      exact h3.2.2

theorem wpAnyB_take {i : Nat} {oi : Oper} {v : Value} {fuel : Nat} {listed : Array Bool} {a : Act} {w : World} (hi : ops[i]? = some oi)
    (hs : Region.noSelect ops = true) (hf : Region.free md ops listed i = true) (hr : (Region.ready md ops listed).contains i = true)
    (hwt : waits md ops br i = true) (hcl : closedB md ops listed = true) (hel : early br listed = true)
    (hQ : ∀ c a w, Q (.panic c) (a.put oi.dst v) w → Q (.panic c) a w) (hy : YieldsIf P ops S oi v a) (hS : S w)
    (h : wpAnyB P md ops Q S br fuel (listed.setIfInBounds i true) (a.put oi.dst v) w) : wpAnyB P md ops Q S br (fuel + 1) listed a w :=
  wpAnyB_first hi (Region.noSelect_spec hs) hQ hwt fuel listed a w (Region.free_spec hi hf) (by simpa using hr) (closed_of hcl) hel hy hS h

theorem early_off {i : Nat} {listed : Array Bool} (hi : i ∉ br) : early br (listed.setIfInBounds i true) = early br listed := by
  unfold early
  rw [Bool.eq_iff_iff, List.all_eq_true, List.all_eq_true]
  constructor
  · intro h b hb
    have hne : i ≠ b := fun e => hi (e ▸ hb)
    have := h b hb
    rwa [getD_set_ne true hne] at this
  · intro h b hb
    have hne : i ≠ b := fun e => hi (e ▸ hb)
    rw [getD_set_ne true hne]
    exact h b hb

theorem wpAnyB_first0 {i : Nat} {oi : Oper} {v : Value} (hi : ops[i]? = some oi) (hsel : ∀ (j : Nat) (o : Oper) cs b, ops[j]? = some o → o.op ≠ .select cs b)
    (hQ : ∀ c a w, Q (.panic c) (a.put oi.dst v) w → Q (.panic c) a w) (hib : i ∉ br) :
    ∀ (fuel : Nat) (listed : Array Bool) (a : Act) (w : World),
      (∀ j oj, ops[j]? = some oj → j ≠ i → listed.getD j true = false → (∀ e ∈ oj.after, Region.binds md e = true → e.on ≠ i) → oi.apart ops oj = true) →
      i ∈ Region.ready md ops listed → Yields P ops oi v a → (early br listed = true → S w) →
      wpAnyB P md ops Q S br fuel (listed.setIfInBounds i true) (a.put oi.dst v) w → wpAnyB P md ops Q S br (fuel + 1) listed a w := by
  intro fuel
  induction fuel with
  | zero =>
    intro listed a w _ hr hy hS H
    refine ⟨fun h => (by rw [h] at hr; cases hr), fun j hj => ?_⟩
    by_cases hji : j = i
    · subst hji; exact hy.wpOp hi ⟨fun h => hS (by rwa [early_off hib] at h), H⟩
    · have := ready_mono hj hji
      rw [H.1] at this
      cases this
  | succ fuel ih =>
    intro listed a w hfree hr hy hS H
    refine ⟨fun h => (by rw [h] at hr; cases hr), fun j hj => ?_⟩
    by_cases hji : j = i
    · subst hji; exact hy.wpOp hi ⟨fun h => hS (by rwa [early_off hib] at h), H⟩
    · have h1 := H.2 j (ready_mono hj hji)
      have hr0 := (mem_ready.1 hr).1
      obtain ⟨hjun, oj, hoj, hall⟩ := mem_ready.1 hj
      have hnot : ∀ e ∈ oj.after, Region.binds md e = true → e.on ≠ i := fun e he hb heq => by
        have h1 := hall e he hb
        have h0 := hr0
        rw [heq] at h1
        rcases Nat.lt_or_ge i listed.size with h' | h'
        · simp [h'] at h0 h1; rw [h0] at h1; cases h1
        · simp [Array.getElem?_eq_none h'] at h1
      have h2 := wpOp_put hoj (hfree j oj hoj hji hjun hnot) (fun cs b => hsel i oi cs b hi) (fun cs b => hsel j oj cs b hoj) hQ hy h1
      have hfree' : ∀ k ok, ops[k]? = some ok → k ≠ i → (listed.setIfInBounds j true).getD k true = false →
          (∀ e ∈ ok.after, Region.binds md e = true → e.on ≠ i) → oi.apart ops ok = true := fun k ok hk hki hun hno => by
        refine hfree k ok hk hki ?_ hno
        by_cases hjk : j = k
        · subst hjk; exact hjun
        · rw [getD_set_ne true hjk] at hun; exact hun
      have hcomm : early br (listed.setIfInBounds j true) = true → early br ((listed.setIfInBounds i true).setIfInBounds j true) = true := fun h => by
        rw [Array.setIfInBounds_comm _ _ (Ne.symm hji), early_off hib]; exact h
      refine wpOp_mono (fun a' w' h3 => ⟨fun h => h3.2.1 (hcomm h), ih (listed.setIfInBounds j true) a' w' hfree' (ready_mono hr (Ne.symm hji)) h3.1 (fun h => h3.2.1 (hcomm h)) ?_⟩) h2
      rw [Array.setIfInBounds_comm _ _ hji]
      exact h3.2.2
theorem wpAnyB_take0 {i : Nat} {oi : Oper} {v : Value} {fuel : Nat} {listed : Array Bool} {a : Act} {w : World} (hi : ops[i]? = some oi)
    (hs : Region.noSelect ops = true) (hf : Region.free md ops listed i = true) (hr : (Region.ready md ops listed).contains i = true)
    (hib : br.contains i = false)
    (hQ : ∀ c a w, Q (.panic c) (a.put oi.dst v) w → Q (.panic c) a w) (hy : Yields P ops oi v a) (hS : early br listed = true → S w)
    (h : wpAnyB P md ops Q S br fuel (listed.setIfInBounds i true) (a.put oi.dst v) w) : wpAnyB P md ops Q S br (fuel + 1) listed a w :=
  wpAnyB_first0 hi (Region.noSelect_spec hs) hQ (by simpa using hib) fuel listed a w (Region.free_spec hi hf) (by simpa using hr) hy hS h

def AllReadyB (P : Program) (md : Region.Mode) (ops : Array Oper) (Q : Exit → Act → World → Prop) (S : World → Prop) (br : List Nat) (fuel : Nat) (listed : Array Bool) (a : Act) (w : World) (rs : List Nat) : Prop :=
  ∀ i ∈ rs, wpOp P ops Q i (fun a' w' => (early br (listed.setIfInBounds i true) = true → S w') ∧ wpAnyB P md ops Q S br fuel (listed.setIfInBounds i true) a' w') a w
theorem AllReadyB.nil {fuel : Nat} {listed : Array Bool} {a : Act} {w : World} : AllReadyB P md ops Q S br fuel listed a w [] := fun _ h => by cases h
theorem AllReadyB.cons {fuel : Nat} {listed : Array Bool} {a : Act} {w : World} {i : Nat} {o : Oper} {rs : List Nat} (ho : ops[i]? = some o)
    (h : ∀ K' : Act → World → Prop, Shut (∀ a w, (early br (listed.setIfInBounds i true) = true → S w) → wpAnyB P md ops Q S br fuel (listed.setIfInBounds i true) a w → K' a w) → if Region.wanted o (yielded ops a.tmps) = true then Oper.wp P o a w K' Q else K' (a.put o.dst undef) w)
    (hs : AllReadyB P md ops Q S br fuel listed a w rs) : AllReadyB P md ops Q S br fuel listed a w (i :: rs) := fun j hj => by
  rcases List.mem_cons.1 hj with rfl | hj
  · exact wpOp_step ho (fun K' hK => h K' (fun a w hS hW => hK a w ⟨hS, hW⟩))
  · exact hs j hj
theorem wpAnyB_ready {rs : List Nat} {fuel : Nat} {listed : Array Bool} {a : Act} {w : World} (hr : Region.ready md ops listed = rs) (hne : rs ≠ [])
    (h : AllReadyB P md ops Q S br fuel listed a w rs) : wpAnyB P md ops Q S br (fuel + 1) listed a w := ⟨fun h0 => absurd (hr ▸ h0) hne, hr ▸ h⟩
theorem wpAnyB_done {listed : Array Bool} {a : Act} {w : World} (hr : Region.ready md ops listed = []) (h : Q .normal a w) :
    ∀ fuel, wpAnyB P md ops Q S br fuel listed a w
  | 0 => ⟨hr, h⟩
  | _ + 1 => ⟨fun _ => h, by rw [hr]; simp⟩
theorem wp_region_B {id : Nat} {a : Act} {w : World} (S : World → Prop) (br : List Nat) (hm : P.follows .mixedOrders = true)
    (h : wpAnyB P .any ops Q S br ops.size (Array.replicate ops.size false) a w.drew) : (Code.region id ops true).wp P Q a w :=
  wp_region_any hm (wpAny_of_B _ _ _ _ h)
end

end Go.Proofs.Ytfignlcplkihpaa
