/- VectorOrder: counts have the order of the phases; two counts differ as the phases do, to within one, if none is limited.
   Conditions: none: every input. -/
import Derived.Test.YtmifegcbhcgkfaaAwakeVector
import Derived.Test.YtmifegcbhcgkfaaPlainVector2
namespace Go.Proofs.Ytmifegcbhcgkfaa.vectorOrder
open Go.ChangeShapes Go.WideShapes Go.ChangeAt Go.RowKit
set_option linter.unusedVariables false

/-- Counts, phases and what is known of any two of them. -/
def ph (X Y : Int) (j : Nat) : Int := if j = 0 then X else if j = 1 then Pl.pb X Y else -X - Pl.pb X Y
def ct (X Y L T : Int) (j : Nat) : Int := Pl.cn T (Pl.dn T L (ph X Y j) (dms X Y))
theorem ct_mono (X Y L T : Int) (hL : 0 < L) (hT : 0 ≤ T) (i k : Nat) (h : ph X Y k ≤ ph X Y i) : ct X Y L T k ≤ ct X Y L T i := by
  unfold ct
  refine Pl.cn_mono ?_
  rw [Pl.dn_fz, Pl.dn_fz]
  exact Pl.fz_mono hT hL (by omega)
theorem ct_dn (X Y L T : Int) (h : (Pl.lm T (d0 X Y L T) || Pl.lm T (d1 X Y L T) || Pl.lm T (d2 X Y L T)) = false) (i : Nat) : ct X Y L T i = Pl.dn T L (ph X Y i) (dms X Y) := by
  simp only [Bool.or_eq_false_iff] at h
  have a := Pl.lm_false h.1.1
  have b := Pl.lm_false h.1.2
  have c := Pl.lm_false h.2
  unfold ct ph
  split
  · exact a
  · split
    · exact b
    · exact c
theorem ct_differ (X Y L T : Int) (hL : 0 < L) (h : (Pl.lm T (d0 X Y L T) || Pl.lm T (d1 X Y L T) || Pl.lm T (d2 X Y L T)) = false) (i k : Nat) :
    (ct X Y L T i - ct X Y L T k) * L - (ph X Y i - ph X Y k) * T < L ∧ -L < (ct X Y L T i - ct X Y L T k) * L - (ph X Y i - ph X Y k) * T := by
  rw [ct_dn X Y L T h i, ct_dn X Y L T h k]
  exact Pl.differ hL
theorem prod_bd {a b m n : Int} (ha : -m ≤ a ∧ a ≤ m) (hb : 0 ≤ b ∧ b ≤ n) (hm : 0 ≤ m) : -(m * n) ≤ a * b ∧ a * b ≤ m * n := by
  have p := Int.mul_le_mul_of_nonneg_right ha.2 hb.1
  have q := Int.mul_le_mul_of_nonneg_right ha.1 hb.1
  have r := Int.mul_le_mul_of_nonneg_left hb.2 hm
  rw [Int.neg_mul] at q
  omega
/-- Behind some rounds of a loop: both arrays stand. -/
def OR (w : World) (B C : Nat) (c p : Nat → Int) (l : Bool) (i : Value) (wr : World) : Prop :=
  ∃ k : Nat, k ≤ 3 ∧ i = .int .i64 k ∧ Blk wr B [.int .i64 (c 0), .int .i64 (c 1), .int .i64 (c 2), .bool l] ∧ Blk wr C [.int .i64 (p 0), .int .i64 (p 1), .int .i64 (p 2)] ∧ Ext w wr
theorem at3 {w : World} {B : Nat} {c : Nat → Int} {us : List Value} (h : Blk w B (.int .i64 (c 0) :: .int .i64 (c 1) :: .int .i64 (c 2) :: us)) (j : Nat) (hj : j < 3) : w.cell? ⟨B, j, none⟩ = some (.int .i64 (c j)) := by
  match j, hj with
  | 0, _ => exact h.at 0 _ rfl
  | 1, _ => exact h.at 1 _ rfl
  | 2, _ => exact h.at 2 _ rfl

set_option maxRecDepth 100000 in
set_option maxHeartbeats 1000000 in
theorem walk (a0x a0y : Int) (ba0x : I64 a0x) (ba0y : I64 a0y) (a1 : Int) (b1 : I64 a1) (a2 : Int) (b2 : I64 a2) (w : World) :
    Calls Try.prog 6 #[.agg #[.int .i64 a0x, .int .i64 a0y], .int .i64 a1, .int .i64 a2] w fun e w' => e = .returned (.bool true) ∧ Ext w w' := by
  clear ba0x ba0y b1 b2
  obtain ⟨X, hX⟩ : ∃ X, X = clip a0x (-1048576) (1048576) := ⟨_, rfl⟩
  have ⟨X1, X2⟩ := clip_bd a0x (-1048576) (1048576) (by omega)
  rw [← hX] at X1 X2
  have HX := Lib.hid hX
  clear hX
  obtain ⟨Y, hY⟩ : ∃ Y, Y = clip a0y (-1048576) (1048576) := ⟨_, rfl⟩
  have ⟨Y1, Y2⟩ := clip_bd a0y (-1048576) (1048576) (by omega)
  rw [← hY] at Y1 Y2
  have HY := Lib.hid hY
  clear hY
  obtain ⟨L, hL⟩ : ∃ L, L = clip a1 (1) (1048576) := ⟨_, rfl⟩
  have ⟨L1, L2⟩ := clip_bd a1 (1) (1048576) (by omega)
  rw [← hL] at L1 L2
  have HL := Lib.hid hL
  clear hL
  obtain ⟨T, hT⟩ : ∃ T, T = clip a2 (64) (4096) := ⟨_, rfl⟩
  have ⟨T1, T2⟩ := clip_bd a2 (64) (4096) (by omega)
  rw [← hT] at T1 T2
  have HT := Lib.hid hT
  clear hT
  have ok : DutyOK X Y L T := ⟨⟨L1, L2⟩, ⟨T1, T2⟩, ⟨X1, X2⟩, ⟨Y1, Y2⟩⟩
  have f1 := ct_mono X Y L T (by omega) (by omega)
  have f2 := ct_differ X Y L T (by omega)
  have f3 : ∀ j, 0 ≤ ct X Y L T j ∧ ct X Y L T j ≤ T := fun j => Pl.cn_bd (by omega)
  have f4 : ∀ j, -3145728 ≤ ph X Y j ∧ ph X Y j ≤ 3145728 := by
    intro j
    have := Pl.pb_bd X Y 1048576 ⟨X1, X2⟩ ⟨Y1, Y2⟩
    unfold ph
    split
    · omega
    · split <;> omega
  have hd : dutyOf X Y L T = .agg #[.int .i64 (ct X Y L T 0), .int .i64 (ct X Y L T 1), .int .i64 (ct X Y L T 2), .bool (Pl.lm T (d0 X Y L T) || Pl.lm T (d1 X Y L T) || Pl.lm T (d2 X Y L T))] := rfl
  have hp : phv X Y = .agg #[.int .i64 (ph X Y 0), .int .i64 (ph X Y 1), .int .i64 (ph X Y 2)] := rfl
  generalize (Pl.lm T (d0 X Y L T) || Pl.lm T (d1 X Y L T) || Pl.lm T (d2 X Y L T)) = l at *
  generalize ct X Y L T = c at *
  generalize ph X Y = p at *
  have HD := Lib.hid hd
  have HP := Lib.hid hp
  have OK := Lib.hid ok
  have F1 := Lib.hid f1
  have F2 := Lib.hid f2
  have F3 := Lib.hid f3
  have F4 := Lib.hid f4
  clear hd hp ok f1 f2 f3 f4
  go_enter Try.func6, Try.ntmps6
  go_wp2_with fail
  refine (awake21 _).mono ?_
  rintro e wa ⟨rfl, hxwa⟩
  have A := (Blk.new w [.int .i64 a0x, .int .i64 a0y] 23).ext hxwa
  have c0 := A.at 0 _ rfl
  have c1 := A.at 1 _ rfl
  have cf := A.fr
  have cn := A.lt
  go_wp2_with fail
  refine (fit21 a0x a0y a1 a2 _).mono ?_
  rw [← HX.out, ← HY.out, ← HL.out, ← HT.out]
  rintro e w1 ⟨rfl, hxw1⟩
  have A1 := A.ext hxw1
  have d0 := A1.at 0 _ rfl
  have d1 := A1.at 1 _ rfl
  have df := A1.fr
  have dn := A1.lt
  have A2 := (A1.set 0 (.int .i64 X) (by simp)).set 1 (.int .i64 Y) (by simp)
  have f0 := A2.at 0 _ rfl
  have f1 := A2.at 1 _ rfl
  have ff := A2.fr
  have fn := A2.lt
  go_wp2_with fail
  refine (duty_ok X Y L T _ OK.out).mono ?_
  rw [HD.out]
  rintro e w4 ⟨rfl, hxw4⟩
  have A4 : Blk _ w.heap.size [.int .i64 X, .int .i64 Y] := (A2.ext hxw4).alloc (.cells #[.int .i64 (c 0), .int .i64 (c 1), .int .i64 (c 2), .bool l] 27)
  have D4 := Blk.new w4 [.int .i64 (c 0), .int .i64 (c 1), .int .i64 (c 2), .bool l] 27
  have q0 := (A2.ext hxw4).at 0 _ rfl
  have q1 := (A2.ext hxw4).at 1 _ rfl
  have qf := (A2.ext hxw4).fr
  have qn := (A2.ext hxw4).lt
  go_wp2_with fail
  refine (back19_ok X Y _ (volt_in30 OK.out.2.2.1) (volt_in30 OK.out.2.2.2)).mono ?_
  rw [HP.out]
  rintro e w5 ⟨rfl, hxw5⟩
  have D5 := (D4.ext hxw5).alloc (.cells #[.int .i64 (p 0), .int .i64 (p 1), .int .i64 (p 2)] 25)
  have P5 := Blk.new w5 [.int .i64 (p 0), .int .i64 (p 1), .int .i64 (p 2)] 25
  go_wp2_with fail
  go_loopw [48] (fun i wr => OR w w4.heap.size w5.heap.size c p l i wr) (fun i _ => 3 - (intOf i).toNat)
  case atStart => exact ⟨0, by omega, rfl, D5, P5, (by repeat (first | with_reducible exact Ext.refl _ | with_reducible assumption | (with_reducible refine Ext.drew ?_) | (with_reducible refine Ext.drewN ?_ _) | (with_reducible refine Ext.alloc ?_ _) | (with_reducible refine Ext.setCell ?_ ?_ _) | (with_reducible refine Ext.trans ?_ (by with_reducible assumption)) | omega | (focus (simp <;> omega))))⟩
  case round =>
    clear A A1 A2 A4 D4 D5 P5
    obtain ⟨k, hk, rfl, D, N, hxr⟩ := hrel
    obtain ⟨wo, hwo⟩ : ∃ wo : World, wo = wr := ⟨_, rfl⟩
    rw [← hwo] at D N hxr ⊢
    clear hwo
    by_cases hlt : k < 3
    · have hk3 : decide ((k : Int) < 3) = true := by simp; omega
      have hk4 : (k : Int) < 3 := by omega
      go_wp2_with fail
      go_loopw [51] (fun i wr => OR w w4.heap.size w5.heap.size c p l i wr) (fun i _ => 3 - (intOf i).toNat)
      case atStart => exact ⟨0, by omega, rfl, D, N, hxr⟩
      case round =>
        clear D N hxr
        obtain ⟨j, hj, rfl, D, N, hxr⟩ := hrel
        have dn := D.lt
        have nn := N.lt
        by_cases hlj : j < 3
        · have ck := at3 D k hlt
          have cj := at3 D j hlj
          have pk := at3 N k hlt
          have pj := at3 N j hlj
          have dl := D.at 3 _ rfl
          have g1 := F1.out k j
          have g2 := fun h => F2.out h k j
          have ⟨g3, g4⟩ := F3.out k
          have ⟨g5, g6⟩ := F3.out j
          have ⟨g7, g8⟩ := F4.out k
          have ⟨g9, g10⟩ := F4.out j
          generalize c k = x at *
          generalize c j = y at *
          generalize p k = s at *
          generalize p j = t at *
          have ⟨b1, b2⟩ := prod_bd (a := x - y) (b := L) (m := 4096) (n := 1048576) (by omega) (by omega) (by omega)
          have ⟨b3, b4⟩ := prod_bd (a := s - t) (b := T) (m := 6291456) (n := 4096) (by omega) (by omega) (by omega)
          have e1 : IntKind.i64.wrap (x - y) = x - y := IntWalk.i64_in _ (by omega)
          have e2 : IntKind.i64.wrap ((x - y) * L) = (x - y) * L := IntWalk.i64_in _ (by omega)
          have e3 : IntKind.i64.wrap (s - t) = s - t := IntWalk.i64_in _ (by omega)
          have e4 : IntKind.i64.wrap ((s - t) * T) = (s - t) * T := IntWalk.i64_in _ (by omega)
          have e5 : IntKind.i64.wrap ((x - y) * L - (s - t) * T) = (x - y) * L - (s - t) * T := IntWalk.i64_in _ (by omega)
          clear F1 F2 F3 F4
          by_cases hts : t ≤ s
          · have g1 := g1 hts
            have t1 : decide (t ≤ s) = true := decide_eq_true hts
            have t2 : decide (x < y) = false := decide_eq_false (by omega)
            cases l
            · obtain ⟨g11, g12⟩ := g2 rfl
              clear g2
              go_wp2_with fail
              go_quiet (fail)
              go_wp2_with fail
              go_quiet (fail)
              go_wp2_with fail
              go_roundw
              case rel => first | exact ⟨j + 1, by omega, by go_num, D.drewN _, N.drewN _, (by repeat (first | with_reducible exact Ext.refl _ | with_reducible assumption | (with_reducible refine Ext.drew ?_) | (with_reducible refine Ext.drewN ?_ _) | (with_reducible refine Ext.alloc ?_ _) | (with_reducible refine Ext.setCell ?_ ?_ _) | (with_reducible refine Ext.trans ?_ (by with_reducible assumption)) | omega | (focus (simp <;> omega))))⟩ | ((repeat apply Exists.intro); exact ⟨⟨j + 1, by omega, by go_num, D.drewN _, N.drewN _, (by repeat (first | with_reducible exact Ext.refl _ | with_reducible assumption | (with_reducible refine Ext.drew ?_) | (with_reducible refine Ext.drewN ?_ _) | (with_reducible refine Ext.alloc ?_ _) | (with_reducible refine Ext.setCell ?_ ?_ _) | (with_reducible refine Ext.trans ?_ (by with_reducible assumption)) | omega | (focus (simp <;> omega))))⟩, rfl⟩)
              case measure => simp [intOf]; omega
            · clear g2
              go_wp2_with fail
              go_quiet (fail)
              go_wp2_with fail
              go_quiet (fail)
              go_wp2_with fail
              go_roundw
              case rel => first | exact ⟨j + 1, by omega, by go_num, D.drewN _, N.drewN _, (by repeat (first | with_reducible exact Ext.refl _ | with_reducible assumption | (with_reducible refine Ext.drew ?_) | (with_reducible refine Ext.drewN ?_ _) | (with_reducible refine Ext.alloc ?_ _) | (with_reducible refine Ext.setCell ?_ ?_ _) | (with_reducible refine Ext.trans ?_ (by with_reducible assumption)) | omega | (focus (simp <;> omega))))⟩ | ((repeat apply Exists.intro); exact ⟨⟨j + 1, by omega, by go_num, D.drewN _, N.drewN _, (by repeat (first | with_reducible exact Ext.refl _ | with_reducible assumption | (with_reducible refine Ext.drew ?_) | (with_reducible refine Ext.drewN ?_ _) | (with_reducible refine Ext.alloc ?_ _) | (with_reducible refine Ext.setCell ?_ ?_ _) | (with_reducible refine Ext.trans ?_ (by with_reducible assumption)) | omega | (focus (simp <;> omega))))⟩, rfl⟩)
              case measure => simp [intOf]; omega
          · have t1 : decide (t ≤ s) = false := decide_eq_false hts
            clear g1
            cases l
            · obtain ⟨g11, g12⟩ := g2 rfl
              clear g2
              go_wp2_with fail
              go_quiet (fail)
              go_wp2_with fail
              go_quiet (fail)
              go_wp2_with fail
              go_roundw
              case rel => first | exact ⟨j + 1, by omega, by go_num, D.drewN _, N.drewN _, (by repeat (first | with_reducible exact Ext.refl _ | with_reducible assumption | (with_reducible refine Ext.drew ?_) | (with_reducible refine Ext.drewN ?_ _) | (with_reducible refine Ext.alloc ?_ _) | (with_reducible refine Ext.setCell ?_ ?_ _) | (with_reducible refine Ext.trans ?_ (by with_reducible assumption)) | omega | (focus (simp <;> omega))))⟩ | ((repeat apply Exists.intro); exact ⟨⟨j + 1, by omega, by go_num, D.drewN _, N.drewN _, (by repeat (first | with_reducible exact Ext.refl _ | with_reducible assumption | (with_reducible refine Ext.drew ?_) | (with_reducible refine Ext.drewN ?_ _) | (with_reducible refine Ext.alloc ?_ _) | (with_reducible refine Ext.setCell ?_ ?_ _) | (with_reducible refine Ext.trans ?_ (by with_reducible assumption)) | omega | (focus (simp <;> omega))))⟩, rfl⟩)
              case measure => simp [intOf]; omega
            · clear g2
              go_wp2_with fail
              go_quiet (fail)
              go_wp2_with fail
              go_quiet (fail)
              go_wp2_with fail
              go_roundw
              case rel => first | exact ⟨j + 1, by omega, by go_num, D.drewN _, N.drewN _, (by repeat (first | with_reducible exact Ext.refl _ | with_reducible assumption | (with_reducible refine Ext.drew ?_) | (with_reducible refine Ext.drewN ?_ _) | (with_reducible refine Ext.alloc ?_ _) | (with_reducible refine Ext.setCell ?_ ?_ _) | (with_reducible refine Ext.trans ?_ (by with_reducible assumption)) | omega | (focus (simp <;> omega))))⟩ | ((repeat apply Exists.intro); exact ⟨⟨j + 1, by omega, by go_num, D.drewN _, N.drewN _, (by repeat (first | with_reducible exact Ext.refl _ | with_reducible assumption | (with_reducible refine Ext.drew ?_) | (with_reducible refine Ext.drewN ?_ _) | (with_reducible refine Ext.alloc ?_ _) | (with_reducible refine Ext.setCell ?_ ?_ _) | (with_reducible refine Ext.trans ?_ (by with_reducible assumption)) | omega | (focus (simp <;> omega))))⟩, rfl⟩)
              case measure => simp [intOf]; omega
        · go_wp2_with fail
          go_roundw
          case rel => exact ⟨k + 1, by omega, by go_num, D, N, hxr⟩
          case measure => simp [intOf]; omega
    · go_wp2_with fail
      go_ret
      exact ⟨(by first | rfl | exact ret_true (by simp <;> omega)), (by repeat (first | with_reducible exact Ext.refl _ | with_reducible assumption | (with_reducible refine Ext.drew ?_) | (with_reducible refine Ext.drewN ?_ _) | (with_reducible refine Ext.alloc ?_ _) | (with_reducible refine Ext.setCell ?_ ?_ _) | (with_reducible refine Ext.trans ?_ (by with_reducible assumption)) | omega | (focus (simp <;> omega))))⟩

theorem own : ownKnob Try.prog.godebug = none := by kernel_rfl
theorem laidOut : laidOutB Try.prog = true := by kernel_rfl

/-- The row's step: the walk's end is what the row asks. -/
theorem lifted (os : Os) (started : os.Started) (H : Type) (enc : TypeId × Value → H) :
    ReturnsInHanded {} Try.checked os 6 .any (Rows.vectorOrderSpec.pre6 enc Try.prog Try.f6 Rows.vectorOrderRow.domain false) (Rows.vectorOrderSpec.post enc Try.prog Try.f6 false true false false) := by
  refine returnsInHanded_of_change (C := Try.checked) own started (by kernel_rfl) Try.func6
    (ChangeSpec.witness6 (enc := enc) (C := Try.checked) false ⟨#[], #[.agg #[.int .i64 0, .int .i64 0], .int .i64 0, .int .i64 0], []⟩ 8 (by kernel_rfl) (by kernel_rfl) (by kernel_rfl) (by kernel_rfl)) ?_
  intro W base args ds gs before hval0 hW hcnd _
  have hval : ∀ (j : Nat) t v, Try.f6.params[j]? = some t → args[j]? = some v → Value.okWide Try.prog W .any base t v := hval0
  have hW' := hW
  obtain ⟨p, q, hA0, hV, rfl, hfz, hnd⟩ := hW
  have hA : DataW.TrodAll enc Try.prog W 0 (fun _ => true) true Try.f6.params.toList args.toList ds p := hA0
  rw [Try.params6] at hA hval
  obtain ⟨v0, vs0, d0, ds0, p0, q0, hargs, rfl, rfl, h0, r0⟩ := trodAll_cons hA
  obtain ⟨v1, vs1, d1, ds1, p1, q1, rfl, rfl, rfl, h1, r1⟩ := trodAll_cons r0
  obtain ⟨v2, vs2, d2, ds2, p2, q2, rfl, rfl, rfl, h2, r2⟩ := trodAll_cons r1
  obtain ⟨rfl, rfl, rfl⟩ := trodAll_nil r2
  obtain rfl : args = #[v0, v1, v2] := by cases args; simp_all
  obtain ⟨rfl, rfl⟩ := trodVars_none hV
  have lt0 : ∀ x ∈ p0, x.block < W.heap.size := by obtain ⟨m, hm⟩ := h0; exact DataW.trod_lt m _ _ _ hm
  obtain ⟨a0x, a0y, rfl, ba0x, ba0y⟩ := open_str2 (u := 3) Try.underlying23 (by kernel_rfl) (by kernel_rfl) (by kernel_rfl) (hval 0 23 v0 rfl rfl)
  have lt1 : ∀ x ∈ p1, x.block < W.heap.size := by obtain ⟨m, hm⟩ := h1; exact DataW.trod_lt m _ _ _ hm
  obtain ⟨a1, rfl, b1⟩ := open_i64 Try.underlying3 (hval 1 3 v1 rfl rfl)
  have lt2 : ∀ x ∈ p2, x.block < W.heap.size := by obtain ⟨m, hm⟩ := h2; exact DataW.trod_lt m _ _ _ hm
  obtain ⟨a2, rfl, b2⟩ := open_i64 Try.underlying3 (hval 2 3 v2 rfl rfl)
  clear hA0 hval0
  refine (walk a0x a0y ba0x ba0y a1 b1 a2 b2 W).mono fun e W' ⟨he, bel0⟩ => ?_
  subst he
  have bel : Below W.heap.size W W' := bel0
  exact ⟨_, rfl, _, _, _, [], _, [], hW', trodAll_mk1 (shut_bool Try.underlying4 _), (trodAll_cons_mk (Below.trod laidOut (by kernel_rfl) (of_decide_eq_true (by kernel_rfl)) h0 bel lt0) (trodAll_cons_mk (Below.trod laidOut (by kernel_rfl) (of_decide_eq_true (by kernel_rfl)) h1 bel lt1) (trodAll_cons_mk (Below.trod laidOut (by kernel_rfl) (of_decide_eq_true (by kernel_rfl)) h2 bel lt2) trodAll_mk0))), rfl, bel.frame _, fun h => by cases h⟩

theorem over : Rows.vectorOrderRow.holds Try.pinned (OpenSpec.ofChange Rows.vectorOrderSpec) :=
  OpenClaim.holds_of_wide 6 Try.f6 rfl rfl rfl rfl rfl rfl rfl ⟨rfl, rfl, rfl, rfl, rfl⟩ rfl rfl rfl rfl rfl (by kernel_rfl) Try.func6 (by kernel_rfl)
    (of_decide_eq_true (by kernel_rfl)) (by unfold Func.isWrapper; first | (rw [if_pos (by decide +kernel)]; kernel_rfl) | (rw [if_neg (by decide +kernel)]; exact ⟨rfl, rfl⟩))
    (fun os started H enc _ => lifted os started H enc)

/-- The statement. -/
theorem proved : Rows.VectorOrderSaid := over
#print axioms proved
end Go.Proofs.Ytmifegcbhcgkfaa.vectorOrder
