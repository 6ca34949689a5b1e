/- Over any periods with any voltages and trips no leg is short-circuited, the dead time is kept, and the upper switches are on for the counts of the pattern less the dead time at most.
   Conditions: none: every input. -/
import Derived.Test.YtfignlcplkihpaaLegsPre
import Derived.Test.YtfignlcplkihpaaPeriod
import Derived.Test.YtfignlcplkihpaaLegsEq
namespace Go.Proofs.Ytfignlcplkihpaa.wholeLegs
open Go.ChangeShapes Go.WideShapes Go.ChangeAt Go.RowKit
set_option linter.unusedVariables false

open Go.Proofs.Ytfignlcplkihpaa
/-- What lasts from period to period. -/
structure LM (w W : World) (B : Nat) (L P M D : Int) (m : Pl.Sim) : Prop where
  fr : Blk W w.heap.size [.int .i64 L, .int .i64 P, .int .i64 M, .int .i64 D]
  st : Blk W B [.int .i64 (m.s 0), .int .i64 (m.d 0), .int .i64 (m.s 1), .int .i64 (m.d 1), .int .i64 (m.s 2), .int .i64 (m.d 2)]
  lt : w.heap.size < B
  ext : Ext w W
  beg : Pl.Beg m
theorem LM.nx {w W W' : World} {B : Nat} {L P M D : Int} {m : Pl.Sim} (h : LM w W B L P M D m) (hx : Ext W W') : LM w W' B L P M D m := ⟨h.fr.ext hx, h.st.ext hx, h.lt, h.ext.trans hx, h.beg⟩
theorem LM.set {w W : World} {B : Nat} {L P M D : Int} {m N : Pl.Sim} (h : LM w W B L P M D m) (hN : Pl.Beg N) : LM w ((((((W.setCell ⟨B, 0, none⟩ (.int .i64 (N.s 0))).setCell ⟨B, 1, none⟩ (.int .i64 (N.d 0))).setCell ⟨B, 2, none⟩ (.int .i64 (N.s 1))).setCell ⟨B, 3, none⟩ (.int .i64 (N.d 1))).setCell ⟨B, 4, none⟩ (.int .i64 (N.s 2))).setCell ⟨B, 5, none⟩ (.int .i64 (N.d 2))) B L P M D N :=
  ⟨far6 h.fr (fun e => by have := h.lt; omega) (.int .i64 (N.s 0)) (.int .i64 (N.d 0)) (.int .i64 (N.s 1)) (.int .i64 (N.d 1)) (.int .i64 (N.s 2)) (.int .i64 (N.d 2)), set6 h.st (.int .i64 (N.s 0)) (.int .i64 (N.d 0)) (.int .i64 (N.s 1)) (.int .i64 (N.d 1)) (.int .i64 (N.s 2)) (.int .i64 (N.d 2)), h.lt, ext6 h.ext (Nat.le_of_lt h.lt) (.int .i64 (N.s 0)) (.int .i64 (N.d 0)) (.int .i64 (N.s 1)) (.int .i64 (N.d 1)) (.int .i64 (N.s 2)) (.int .i64 (N.d 2)), hN⟩

set_option linter.unusedSimpArgs false in
set_option maxRecDepth 100000 in
set_option maxHeartbeats 8000000 in
theorem legs_in (a0 a2 : Option Addr) (n0 k0 n2 k2 : Nat) (X Y Z : Nat → Int) (L P M D : Int) (w : World) (h : FrameOK L P M D) (hn : n0 ≤ 20) (hp : P ≤ 600) (hl : Prs w a0 n0 X Y) (ht : Shr w a2 n2 Z) (hz : ∀ j, j < n2 → 0 ≤ Z j ∧ Z j ≤ 65535) :
    Calls Try.prog 3 #[.slice a0 n0 k0, .agg #[.int .i64 L, .int .i64 P, .int .i64 M, .int .i64 D], .slice a2 n2 k2] w fun e w' => e = .returned (.bool true) ∧ Ext w w' := by
  obtain ⟨PN, rfl⟩ : ∃ q : Nat, P = (q : Int) := ⟨P.toNat, by have := h.2.2.1; omega⟩
  have HF := Lib.hid (fun V => ok_t L PN M D V h)
  have HH := Lib.hid h
  have ⟨o1, o2, o3, o4, o5, o6, o7, o8, o9⟩ := h
  have HL := Lib.hid hl
  have HT := Lib.hid ht
  have HZ := Lib.hid hz
  clear h hl ht hz
  have q1 : decide ((20 : Int) < (n0 : Int)) = false := decide_eq_false (by omega)
  have q2 : (n0 : Int) ≤ 20 := by omega
  have q3 : decide ((600 : Int) < (PN : Int)) = false := decide_eq_false (by omega)
  have B := Blk.new w [.int .i64 L, .int .i64 PN, .int .i64 M, .int .i64 D] 24
  go_enter Try.func3, Try.ntmps3
  go_wp2_with fail
  refine (centred_t _).mono ?_
  rintro e w1 ⟨rfl, hx1⟩
  have B := B.ext hx1
  have b0 := B.at 0 _ rfl
  have b1 := B.at 1 _ rfl
  have b2 := B.at 2 _ rfl
  have b3 := B.at 3 _ rfl
  have bl := B.lt
  have bf := B.fr
  go_wp2_with fail
  refine (HF.out _).mono ?_
  rintro e w2 ⟨rfl, hx2⟩
  have B := B.ext hx2
  have b0 := B.at 0 _ rfl
  have b1 := B.at 1 _ rfl
  have b2 := B.at 2 _ rfl
  have b3 := B.at 3 _ rfl
  have bl := B.lt
  have bf := B.fr
  go_wp2_with fail
  refine (fresh_t _).mono ?_
  rintro e w3 ⟨rfl, hx3⟩
  have B := B.ext hx3
  have E3 : Ext w w3 := (by repeat (first | with_reducible exact Ext.refl _ | with_reducible assumption | (with_reducible refine Ext.drew ?_) | (with_reducible refine Ext.drewN ?_ _) | (with_reducible refine Ext.alloc ?_ _) | (with_reducible refine Ext.setCell ?_ ?_ _) | (with_reducible refine Ext.trans ?_ (by with_reducible assumption)) | omega | (focus (simp <;> omega))))
  have T0 : LM w (w3.alloc (.cells #[.int .i64 0, .int .i64 4096, .int .i64 0, .int .i64 4096, .int .i64 0, .int .i64 4096] 29)) w3.heap.size L PN M D Pl.fresh := ⟨B.alloc _, Blk.new _ _ _, B.lt, E3.alloc _, Pl.fresh_beg⟩
  have HT0 := Lib.hid T0
  clear T0 b0 b1 b2 b3 bl bf B E3 hx1 hx2 hx3
  go_wp2_with fail
  go_loopw [51] (fun i wx => Upto n0 (fun k => ∃ m, LM w wx w3.heap.size L PN M D m) i) (fun i _ => n0 - (intOf i).toNat)
  case atStart => exact ⟨0, by omega, rfl, _, HT0.out⟩
  case round =>
    clear HT0
    obtain ⟨k, hk, rfl, m, T⟩ := hrel
    by_cases hkn : k < n0
    · obtain ⟨b, off, ea, hb, hc⟩ := HL.out (by omega)
      have ⟨c0, c1⟩ := hc k hkn
      have c0 := (T.ext.cell hb).trans c0
      have c1 := (T.ext.cell hb).trans c1
      have hbr : b < wr.heap.size := Nat.lt_of_lt_of_le hb T.ext.size
      have kn : (k : Int) < (n0 : Int) := by omega
      have dk : decide (k < n0) = true := decide_eq_true hkn
      subst ea
      clear hc
      obtain ⟨x, hx⟩ : ∃ x, x = X k := ⟨_, rfl⟩
      obtain ⟨y, hy⟩ : ∃ y, y = Y k := ⟨_, rfl⟩
      rw [← hx] at c0
      rw [← hy] at c1
      clear hx hy
      have cb := clip_bd x (-1048576) 1048576 (by omega)
      have cb2 := clip_bd y (-1048576) 1048576 (by omega)
      have hcx := fun V => clip_ext x (-1048576) 1048576 V
      have hcy := fun V => clip_ext y (-1048576) 1048576 V
      obtain ⟨cx, hx⟩ : ∃ c, c = clip x (-1048576) 1048576 := ⟨_, rfl⟩
      obtain ⟨cy, hy⟩ : ∃ c, c = clip y (-1048576) 1048576 := ⟨_, rfl⟩
      rw [← hx] at hcx cb
      rw [← hy] at hcy cb2
      obtain ⟨u, v, ov, hu, hv, hci⟩ := circ_any cx cy L ⟨⟨o1, o2⟩, cb, cb2⟩
      obtain ⟨d0, d1, d2, db, hd0, hd1, hd2, hdu⟩ := duty_any u v L PN ⟨⟨by omega, o2⟩, ⟨o3, o4⟩, hu, hv⟩
      have hmk := fun V => make_any d0 d1 d2 PN M V ⟨o3, o4⟩ o5 o6 hd0 hd1 hd2
      have l0 := pulse_bd (mn := M) o5 hd0.1 hd0.2
      have l1 := pulse_bd (mn := M) o5 hd1.1 hd1.2
      have l2 := pulse_bd (mn := M) o5 hd2.1 hd2.2
      generalize pf d0 PN M = f0 at hmk l0
      generalize pg d0 PN M = g0 at hmk l0
      generalize pf d1 PN M = f1 at hmk l1
      generalize pg d1 PN M = g1 at hmk l1
      generalize pf d2 PN M = f2 at hmk l2
      generalize pg d2 PN M = g2 at hmk l2
      have HCX := Lib.hid hcx
      have HCY := Lib.hid hcy
      have HCI := Lib.hid hci
      have HDU := Lib.hid hdu
      have HMK := Lib.hid hmk
      have HL0 := Lib.hid l0
      have HL1 := Lib.hid l1
      have HL2 := Lib.hid l2
      clear hx hy hcx hcy hci hdu hmk l0 l1 l2 cb cb2 hu hv hd0 hd1 hd2
      have HTT := Lib.hid T
      clear T
      go_upto_region 7 with fail
      have N7 := Blk.new wr [.int .i64 x, .int .i64 y] 32
      have T := HTT.out.nx ((Ext.refl _).alloc (.cells #[.int .i64 x, .int .i64 y] 32))
      clear HTT c0 c1
      go_cut [10, 11, 13] (fun p10 p11 p13 wx => p10 = .int .i64 u ∧ p11 = .int .i64 v ∧ p13 = .nilIface ∧ Ext (wr.alloc (.cells #[.int .i64 x, .int .i64 y] 32)) wx)
      case first => as_aux_lemma =>
        obtain ⟨W7, hW7⟩ : ∃ W, W = wr.alloc (.cells #[.int .i64 x, .int .i64 y] 32) := ⟨_, rfl⟩
        rw [← hW7] at N7 T ⊢
        have HW7 := Lib.hid hW7
        have HLX := Lib.hid N7.lt
        have HX0 := Lib.hid (N7.at 0 _ rfl)
        have HX1 := Lib.hid (N7.at 1 _ rfl)
        have HLF := Lib.hid T.fr.lt
        have HB0 := Lib.hid (T.fr.at 0 _ rfl)
        clear hW7 N7 T
        refine wp_region_B (fun V => Ext W7 V) [14] (by kernel_rfl) ?_
        have hS : Ext W7 W7.drew := (Ext.refl _).drew
        generalize W7.drew = v0 at hS ⊢
        refine wpAnyB_take0 (i := 0) (v := ?_) rfl (by kernel_rfl) (by kernel_rfl) (by kernel_rfl) (by kernel_rfl) (fun _ _ _ h => h) (Or.inl ⟨by rfl, ?_⟩) (fun _ => hS) ?_
        rotate_left
        · (intro V; go_simp; (try with_reducible rfl))
        (try simp only [Act.put, List.setIfInBounds_toArray, List.set_cons_zero, List.set_cons_succ])
        refine wpAnyB_take (i := 1) (v := ?_) rfl (by kernel_rfl) (by kernel_rfl) (by kernel_rfl) (by kernel_rfl) (by kernel_rfl) (by kernel_rfl) (fun _ _ _ h => h) (Or.inl ⟨by rfl, ?_⟩) hS ?_
        rotate_left
        · (intro V hV; have e0 := (hV.cell HLX.out).trans HX0.out; go_simp; (try with_reducible rfl))
        (try simp only [Act.put, List.setIfInBounds_toArray, List.set_cons_zero, List.set_cons_succ])
        refine wpAnyB_take0 (i := 3) (v := ?_) rfl (by kernel_rfl) (by kernel_rfl) (by kernel_rfl) (by kernel_rfl) (fun _ _ _ h => h) (Or.inl ⟨by rfl, ?_⟩) (fun _ => hS) ?_
        rotate_left
        · (intro V; go_simp; (try with_reducible rfl))
        (try simp only [Act.put, List.setIfInBounds_toArray, List.set_cons_zero, List.set_cons_succ])
        refine wpAnyB_take (i := 4) (v := ?_) rfl (by kernel_rfl) (by kernel_rfl) (by kernel_rfl) (by kernel_rfl) (by kernel_rfl) (by kernel_rfl) (fun _ _ _ h => h) (Or.inl ⟨by rfl, ?_⟩) hS ?_
        rotate_left
        · (intro V hV; have e0 := (hV.cell HLX.out).trans HX1.out; go_simp; (try with_reducible rfl))
        (try simp only [Act.put, List.setIfInBounds_toArray, List.set_cons_zero, List.set_cons_succ])
        refine wpAnyB_take0 (i := 6) (v := ?_) rfl (by kernel_rfl) (by kernel_rfl) (by kernel_rfl) (by kernel_rfl) (fun _ _ _ h => h) (Or.inl ⟨by rfl, ?_⟩) (fun _ => hS) ?_
        rotate_left
        · (intro V; go_simp; (try with_reducible rfl))
        (try simp only [Act.put, List.setIfInBounds_toArray, List.set_cons_zero, List.set_cons_succ])
        refine wpAnyB_take (i := 7) (v := ?_) rfl (by kernel_rfl) (by kernel_rfl) (by kernel_rfl) (by kernel_rfl) (by kernel_rfl) (by kernel_rfl) (fun _ _ _ h => h) (Or.inl ⟨by rfl, ?_⟩) hS ?_
        rotate_left
        · (intro V hV; have e0 := (hV.cell HLF.out).trans HB0.out; go_simp; (try with_reducible rfl))
        (try simp only [Act.put, List.setIfInBounds_toArray, List.set_cons_zero, List.set_cons_succ])
        refine wpAnyB_ready (rs := [2]) (by kernel_rfl) (by simp) ?_
        refine AllReadyB.cons rfl (fun K hK => ?_) ?_
        · skip
          go_simp
          refine (HCX.out _).mono ?_
          rintro e v1 ⟨rfl, hxv1⟩
          (try go_wp2_with fail)
          have hS := hS.trans hxv1
          refine hK.out _ _ (fun _ => hS) ?_
          clear hK K
          (try simp only [Act.put, List.setIfInBounds_toArray, List.set_cons_zero, List.set_cons_succ])
          refine wpAnyB_ready (rs := [5]) (by kernel_rfl) (by simp) ?_
          refine AllReadyB.cons rfl (fun K hK => ?_) ?_
          · skip
            go_simp
            refine (HCY.out _).mono ?_
            rintro e v2 ⟨rfl, hxv2⟩
            (try go_wp2_with fail)
            have hS := hS.trans hxv2
            refine hK.out _ _ (fun _ => hS) ?_
            clear hK K
            (try simp only [Act.put, List.setIfInBounds_toArray, List.set_cons_zero, List.set_cons_succ])
            refine wpAnyB_ready (rs := [8]) (by kernel_rfl) (by simp) ?_
            refine AllReadyB.cons rfl (fun K hK => ?_) ?_
            · skip
              go_simp
              refine (HCI.out _).mono ?_
              rintro e v3 ⟨rfl, hxv3⟩
              (try go_wp2_with fail)
              have hS := hS.trans hxv3
              refine hK.out _ _ (fun _ => hS) ?_
              clear hK K
              (try simp only [Act.put, List.setIfInBounds_toArray, List.set_cons_zero, List.set_cons_succ])
              refine wpAnyB_take0 (i := 9) (v := ?_) rfl (by kernel_rfl) (by kernel_rfl) (by kernel_rfl) (by kernel_rfl) (fun _ _ _ h => h) (Or.inl ⟨by rfl, ?_⟩) (fun _ => hS) ?_
              rotate_left
              · (intro V; go_simp; (try with_reducible rfl))
              (try simp only [Act.put, List.setIfInBounds_toArray, List.set_cons_zero, List.set_cons_succ])
              refine wpAnyB_take0 (i := 10) (v := ?_) rfl (by kernel_rfl) (by kernel_rfl) (by kernel_rfl) (by kernel_rfl) (fun _ _ _ h => h) (Or.inl ⟨by rfl, ?_⟩) (fun _ => hS) ?_
              rotate_left
              · (intro V; go_simp; (try with_reducible rfl))
              (try simp only [Act.put, List.setIfInBounds_toArray, List.set_cons_zero, List.set_cons_succ])
              refine wpAnyB_take0 (i := 11) (v := ?_) rfl (by kernel_rfl) (by kernel_rfl) (by kernel_rfl) (by kernel_rfl) (fun _ _ _ h => h) (Or.inl ⟨by rfl, ?_⟩) (fun _ => hS) ?_
              rotate_left
              · (intro V; go_simp; (try with_reducible rfl))
              (try simp only [Act.put, List.setIfInBounds_toArray, List.set_cons_zero, List.set_cons_succ])
              refine wpAnyB_take0 (i := 12) (v := ?_) rfl (by kernel_rfl) (by kernel_rfl) (by kernel_rfl) (by kernel_rfl) (fun _ _ _ h => h) (Or.inl ⟨by rfl, ?_⟩) (fun _ => hS) ?_
              rotate_left
              · (intro V; go_simp; (try with_reducible rfl))
              (try simp only [Act.put, List.setIfInBounds_toArray, List.set_cons_zero, List.set_cons_succ])
              refine wpAnyB_take0 (i := 13) (v := ?_) rfl (by kernel_rfl) (by kernel_rfl) (by kernel_rfl) (by kernel_rfl) (fun _ _ _ h => h) (Or.inl ⟨by rfl, ?_⟩) (fun _ => hS) ?_
              rotate_left
              · (intro V; go_simp; (try with_reducible rfl))
              (try simp only [Act.put, List.setIfInBounds_toArray, List.set_cons_zero, List.set_cons_succ])
              refine wpAnyB_ready (rs := [14]) (by kernel_rfl) (by simp) ?_
              refine AllReadyB.cons rfl (fun K hK => ?_) AllReadyB.nil
              go_simp
              refine hK.out _ _ (fun h => absurd h (by decide)) ?_
              clear hK K
              (try simp only [Act.put, List.setIfInBounds_toArray, List.set_cons_zero, List.set_cons_succ])
              refine wpAnyB_ready (rs := [15]) (by kernel_rfl) (by simp) ?_
              refine AllReadyB.cons rfl (fun K hK => ?_) AllReadyB.nil
              go_simp
              refine hK.out _ _ (fun h => absurd h (by decide)) ?_
              clear hK K
              (try simp only [Act.put, List.setIfInBounds_toArray, List.set_cons_zero, List.set_cons_succ])
              refine wpAnyB_ready (rs := [16]) (by kernel_rfl) (by simp) ?_
              refine AllReadyB.cons rfl (fun K hK => ?_) AllReadyB.nil
              go_simp
              refine hK.out _ _ (fun h => absurd h (by decide)) ?_
              clear hK K
              (try simp only [Act.put, List.setIfInBounds_toArray, List.set_cons_zero, List.set_cons_succ])
              refine wpAnyB_ready (rs := [17]) (by kernel_rfl) (by simp) ?_
              refine AllReadyB.cons rfl (fun K hK => ?_) AllReadyB.nil
              go_simp
              refine hK.out _ _ (fun h => absurd h (by decide)) ?_
              clear hK K
              (try simp only [Act.put, List.setIfInBounds_toArray, List.set_cons_zero, List.set_cons_succ])
              refine wpAnyB_done (by kernel_rfl) ?_ _
              go_wp2_with fail
              go_meet
              exact ⟨rfl, rfl, rfl, by rw [← HW7.out]; exact hS⟩
            exact AllReadyB.nil
          exact AllReadyB.nil
        exact AllReadyB.nil
      case rest =>
        obtain ⟨rfl, rfl, rfl, E7⟩ := hcut
        have T := T.nx E7
        clear N7 HCX HCY HCI
        have HT7 := Lib.hid T
        have b0 := T.fr.at 0 _ rfl
        have b1 := T.fr.at 1 _ rfl
        have b2 := T.fr.at 2 _ rfl
        have b3 := T.fr.at 3 _ rfl
        have bl := T.fr.lt
        have bf := T.fr.fr
        clear T
        go_wp2_with fail
        refine (HDU.out _).mono ?_
        rintro e w8 ⟨rfl, hx8⟩
        have N8 := Blk.new w8 [.int .i64 d0, .int .i64 d1, .int .i64 d2, .bool db] 40
        have T := (HT7.out.nx hx8).nx ((Ext.refl _).alloc (.cells #[.int .i64 d0, .int .i64 d1, .int .i64 d2, .bool db] 40))
        clear HT7 b0 b1 b2 b3 bl bf
        have b0 := T.fr.at 0 _ rfl
        have b1 := T.fr.at 1 _ rfl
        have b2 := T.fr.at 2 _ rfl
        have b3 := T.fr.at 3 _ rfl
        have bl := T.fr.lt
        have bf := T.fr.fr
        have c0 := N8.at 0 _ rfl
        have c1 := N8.at 1 _ rfl
        have c2 := N8.at 2 _ rfl
        have c3 := N8.at 3 _ rfl
        have cl := N8.lt
        have cf := N8.fr
        have HT8 := Lib.hid T
        clear T N8
        go_wp2_with fail
        refine (HMK.out _).mono ?_
        rintro e w9 ⟨rfl, hx9⟩
        have N9 := Blk.new w9 [.int .i64 f0, .int .i64 g0, .int .i64 f1, .int .i64 g1, .int .i64 f2, .int .i64 g2] 45
        have T := (HT8.out.nx hx9).nx ((Ext.refl _).alloc (.cells #[.int .i64 f0, .int .i64 g0, .int .i64 f1, .int .i64 g1, .int .i64 f2, .int .i64 g2] 45))
        have gw9 := T.ext.size
        clear HT8 b0 b1 b2 b3 bl bf c0 c1 c2 c3 cl cf HDU HMK
        have b0 := T.fr.at 0 _ rfl
        have b1 := T.fr.at 1 _ rfl
        have b2 := T.fr.at 2 _ rfl
        have b3 := T.fr.at 3 _ rfl
        have bl := T.fr.lt
        have bf := T.fr.fr
        have HN9 := Lib.hid N9
        have HT9 := Lib.hid T
        clear T N9
        go_upto_if 95 with fail
        go_cut [18] (fun p18 wx => ∃ tr : Int, p18 = .int .i64 tr ∧ (0 ≤ tr ∧ tr ≤ PN) ∧ Ext (w9.alloc (.cells #[.int .i64 f0, .int .i64 g0, .int .i64 f1, .int .i64 g1, .int .i64 f2, .int .i64 g2] 45)) wx)
        case first => as_aux_lemma =>
          obtain ⟨W9, hW9⟩ : ∃ W, W = w9.alloc (.cells #[.int .i64 f0, .int .i64 g0, .int .i64 f1, .int .i64 g1, .int .i64 f2, .int .i64 g2] 45) := ⟨_, rfl⟩
          rw [← hW9] at HT9 HN9 b0 b1 b2 b3 bl bf ⊢
          have HW9 := Lib.hid hW9
          clear hW9
          by_cases hk2 : k < n2
          · obtain ⟨bt, offt, ea2, hbt, hct⟩ := HT.out (by omega)
            have cz := hct k hk2
            have cz := (HT9.out.ext.cell hbt).trans cz
            have hbt2 : bt < W9.heap.size := Nat.lt_of_lt_of_le hbt HT9.out.ext.size
            have kn2 : (k : Int) < (n2 : Int) := by omega
            have dk2 : decide (k < n2) = true := decide_eq_true hk2
            have ⟨z1, z2⟩ := HZ.out k hk2
            subst ea2
            clear hct
            generalize Z k = z at cz z1 z2
            have wz : IntKind.i64.wrap z = z := IntWalk.i64_in _ (by omega)
            have HCZ := Lib.hid cz
            have HBT := Lib.hid hbt2
            have HB1 := Lib.hid b1
            have HBL := Lib.hid bl
            clear cz hbt2 b0 b1 b2 b3 bl bf
            go_upto_region 12 with fail
            refine wp_region_B (fun V => Ext W9 V) [8] (by kernel_rfl) ?_
            have hS : Ext W9 W9.drew := (Ext.refl _).drew
            refine wpAnyB_take0 (i := 0) (v := ?_) rfl (by kernel_rfl) (by kernel_rfl) (by kernel_rfl) (by kernel_rfl) (fun _ _ _ h => h) (Or.inl ⟨by rfl, ?_⟩) (fun _ => hS) ?_
            rotate_left
            · (intro V; go_simp; (try with_reducible rfl))
            (try simp only [Act.put, List.setIfInBounds_toArray, List.set_cons_zero, List.set_cons_succ])
            refine wpAnyB_take0 (i := 1) (v := ?_) rfl (by kernel_rfl) (by kernel_rfl) (by kernel_rfl) (by kernel_rfl) (fun _ _ _ h => h) (Or.inl ⟨by rfl, ?_⟩) (fun _ => hS) ?_
            rotate_left
            · (intro V; go_simp; (try with_reducible rfl))
            (try simp only [Act.put, List.setIfInBounds_toArray, List.set_cons_zero, List.set_cons_succ])
            refine wpAnyB_take0 (i := 2) (v := ?_) rfl (by kernel_rfl) (by kernel_rfl) (by kernel_rfl) (by kernel_rfl) (fun _ _ _ h => h) (Or.inl ⟨by rfl, ?_⟩) (fun _ => hS) ?_
            rotate_left
            · (intro V; go_simp; (try with_reducible rfl))
            (try simp only [Act.put, List.setIfInBounds_toArray, List.set_cons_zero, List.set_cons_succ])
            refine wpAnyB_take (i := 3) (v := ?_) rfl (by kernel_rfl) (by kernel_rfl) (by kernel_rfl) (by kernel_rfl) (by kernel_rfl) (by kernel_rfl) (fun _ _ _ h => h) (Or.inl ⟨by rfl, ?_⟩) hS ?_
            rotate_left
            · (intro V hV; have e0 := (hV.cell HBT.out).trans HCZ.out; go_simp; (try with_reducible rfl))
            (try simp only [Act.put, List.setIfInBounds_toArray, List.set_cons_zero, List.set_cons_succ])
            refine wpAnyB_take0 (i := 4) (v := ?_) rfl (by kernel_rfl) (by kernel_rfl) (by kernel_rfl) (by kernel_rfl) (fun _ _ _ h => h) (Or.inl ⟨by rfl, ?_⟩) (fun _ => hS) ?_
            rotate_left
            · (intro V; go_simp; (try with_reducible rfl))
            (try simp only [Act.put, List.setIfInBounds_toArray, List.set_cons_zero, List.set_cons_succ])
            refine wpAnyB_take0 (i := 5) (v := ?_) rfl (by kernel_rfl) (by kernel_rfl) (by kernel_rfl) (by kernel_rfl) (fun _ _ _ h => h) (Or.inl ⟨by rfl, ?_⟩) (fun _ => hS) ?_
            rotate_left
            · (intro V; go_simp; (try with_reducible rfl))
            (try simp only [Act.put, List.setIfInBounds_toArray, List.set_cons_zero, List.set_cons_succ])
            refine wpAnyB_take (i := 6) (v := ?_) rfl (by kernel_rfl) (by kernel_rfl) (by kernel_rfl) (by kernel_rfl) (by kernel_rfl) (by kernel_rfl) (fun _ _ _ h => h) (Or.inl ⟨by rfl, ?_⟩) hS ?_
            rotate_left
            · (intro V hV; have e0 := (hV.cell HBL.out).trans HB1.out; go_simp; (try with_reducible rfl))
            (try simp only [Act.put, List.setIfInBounds_toArray, List.set_cons_zero, List.set_cons_succ])
            refine wpAnyB_ready (rs := [7]) (by kernel_rfl) (by simp) ?_
            refine AllReadyB.cons rfl (fun K hK => ?_) AllReadyB.nil
            go_simp
            refine hK.out _ _ (fun _ => hS) ?_
            clear hK K
            (try simp only [Act.put, List.setIfInBounds_toArray, List.set_cons_zero, List.set_cons_succ])
            refine wpAnyB_ready (rs := [8]) (by kernel_rfl) (by simp) ?_
            refine AllReadyB.cons rfl (fun K hK => ?_) AllReadyB.nil
            go_simp
            refine hK.out _ _ (fun h => absurd h (by decide)) ?_
            clear hK K
            (try simp only [Act.put, List.setIfInBounds_toArray, List.set_cons_zero, List.set_cons_succ])
            refine wpAnyB_done (by kernel_rfl) ?_ _
            go_wp2_with fail
            go_meet
            exact ⟨_, rfl, ⟨by omega, by omega⟩, by rw [← HW9.out]; exact hS⟩
          · have dk2 : decide (k < n2) = false := decide_eq_false hk2
            have kn2 : (n2 : Int) ≤ (k : Int) := by omega
            go_wp2_with fail
            go_meet
            exact ⟨_, rfl, ⟨by omega, by omega⟩, by rw [← HW9.out]; exact Ext.refl _⟩
        case rest =>
          obtain ⟨tr, rfl, ⟨tr0, tr1⟩, E10⟩ := hcut
          have T := HT9.out.nx E10
          have N9 := HN9.out.ext E10
          obtain ⟨N, es, gq0, gq1, gq2, gq3, gq4, gq5, n02, n01, n00, n12, n11, n10, n22, n21, n20, hN, hRun, hSafe, hTimes, lf0, lf1, lf2⟩ := period m T.beg PN ⟨o3, o4⟩ D tr f0 g0 f1 g1 f2 g2 ⟨o7, o9⟩ ⟨tr0, tr1⟩ HL0.out HL1.out HL2.out
          have HRun := Lib.hid hRun
          have HSafe := Lib.hid hSafe
          have HTimes := Lib.hid hTimes
          have HN := Lib.hid hN
          have LF0 := Lib.hid lf0
          have LF1 := Lib.hid lf1
          have LF2 := Lib.hid lf2
          clear hRun hSafe hTimes hN lf0 lf1 lf2 HL0 HL1 HL2 b0 b1 b2 b3 bl bf
          have b0 := T.fr.at 0 _ rfl
          have b1 := T.fr.at 1 _ rfl
          have b2 := T.fr.at 2 _ rfl
          have b3 := T.fr.at 3 _ rfl
          have bl := T.fr.lt
          have bf := T.fr.fr
          have s0 := T.st.at 0 _ rfl
          have s1 := T.st.at 1 _ rfl
          have s2 := T.st.at 2 _ rfl
          have s3 := T.st.at 3 _ rfl
          have s4 := T.st.at 4 _ rfl
          have s5 := T.st.at 5 _ rfl
          have sl := T.st.lt
          have sf := T.st.fr
          have c0 := N9.at 0 _ rfl
          have c1 := N9.at 1 _ rfl
          have c2 := N9.at 2 _ rfl
          have c3 := N9.at 3 _ rfl
          have c4 := N9.at 4 _ rfl
          have c5 := N9.at 5 _ rfl
          have cl := N9.lt
          have cf := N9.fr
          have HT10 := Lib.hid T
          have HN10 := Lib.hid N9
          clear T N9 HT9 HN9
          go_wp2_with fail
          refine (HRun.out _).mono ?_
          rintro e w13 ⟨ga, gk, rfl, hr, hx13⟩
          have T := HT10.out.nx hx13
          have N9 := HN10.out.ext hx13
          have HR := Lib.hid hr
          clear hr HT10 HN10 b0 b1 b2 b3 bl bf s0 s1 s2 s3 s4 s5 sl sf c0 c1 c2 c3 c4 c5 cl cf HRun
          have b0 := T.fr.at 0 _ rfl
          have b1 := T.fr.at 1 _ rfl
          have b2 := T.fr.at 2 _ rfl
          have b3 := T.fr.at 3 _ rfl
          have bl := T.fr.lt
          have bf := T.fr.fr
          have s0 := T.st.at 0 _ rfl
          have s1 := T.st.at 1 _ rfl
          have s2 := T.st.at 2 _ rfl
          have s3 := T.st.at 3 _ rfl
          have s4 := T.st.at 4 _ rfl
          have s5 := T.st.at 5 _ rfl
          have sl := T.st.lt
          have sf := T.st.fr
          have HT13 := Lib.hid T
          have HN13 := Lib.hid N9
          clear T N9 b0 b1 b2 b3 bl bf s0 s1 s2 s3 s4 s5 sl sf
          go_upto_region 14 with fail
          have G := Blk.new w13 [.int .i64 PN, .bool gq0, .bool gq1, .bool gq2, .bool gq3, .bool gq4, .bool gq5, .slice ga es.length gk] 52
          have G := G.alloc (.cells #[.int .i64 (N.s 0), .int .i64 (N.d 0), .int .i64 (N.s 1), .int .i64 (N.d 1), .int .i64 (N.s 2), .int .i64 (N.d 2)] 29)
          have S := Blk.new (w13.alloc (.cells #[.int .i64 PN, .bool gq0, .bool gq1, .bool gq2, .bool gq3, .bool gq4, .bool gq5, .slice ga es.length gk] 52)) [.int .i64 (N.s 0), .int .i64 (N.d 0), .int .i64 (N.s 1), .int .i64 (N.d 1), .int .i64 (N.s 2), .int .i64 (N.d 2)] 29
          rw [show (w13.alloc (.cells #[.int .i64 PN, .bool gq0, .bool gq1, .bool gq2, .bool gq3, .bool gq4, .bool gq5, .slice ga es.length gk] 52)).heap.size = w13.heap.size + 1 by simp] at S
          have EW : Ext w13 ((w13.alloc (.cells #[.int .i64 PN, .bool gq0, .bool gq1, .bool gq2, .bool gq3, .bool gq4, .bool gq5, .slice ga es.length gk] 52)).alloc (.cells #[.int .i64 (N.s 0), .int .i64 (N.d 0), .int .i64 (N.s 1), .int .i64 (N.d 1), .int .i64 (N.s 2), .int .i64 (N.d 2)] 29)) := ((Ext.refl _).alloc _).alloc _
          have T := HT13.out.nx EW
          have N9 := HN13.out.ext EW
          have HR := Lib.hid (HR.out.ext EW)
          clear HT13 HN13 EW
          have b0 := T.fr.at 0 _ rfl
          have b1 := T.fr.at 1 _ rfl
          have b2 := T.fr.at 2 _ rfl
          have b3 := T.fr.at 3 _ rfl
          have bl := T.fr.lt
          have bf := T.fr.fr
          have s0 := T.st.at 0 _ rfl
          have s1 := T.st.at 1 _ rfl
          have s2 := T.st.at 2 _ rfl
          have s3 := T.st.at 3 _ rfl
          have s4 := T.st.at 4 _ rfl
          have s5 := T.st.at 5 _ rfl
          have sl := T.st.lt
          have sf := T.st.fr
          have g_0 := G.at 0 _ rfl
          have g_1 := G.at 1 _ rfl
          have g_2 := G.at 2 _ rfl
          have g_3 := G.at 3 _ rfl
          have g_4 := G.at 4 _ rfl
          have g_5 := G.at 5 _ rfl
          have g_6 := G.at 6 _ rfl
          have g_7 := G.at 7 _ rfl
          have g_l := G.lt
          have g_f := G.fr
          have HT14 := Lib.hid T
          have HN14 := Lib.hid N9
          have HG14 := Lib.hid G
          have HS14 := Lib.hid S
          clear T N9 G S
          go_wp2_with fail
          refine (HSafe.out _ _ _ HR.out).mono ?_
          rintro e w14 ⟨rfl, hx14⟩
          clear b0 b1 b2 b3 bl bf s0 s1 s2 s3 s4 s5 sl sf g_0 g_1 g_2 g_3 g_4 g_5 g_6 g_7 g_l g_f HSafe
          go_upto_region 15 with fail
          have V := Blk.new w14 [.int .i64 (N.s 0), .int .i64 (N.d 0), .int .i64 (N.s 1), .int .i64 (N.d 1), .int .i64 (N.s 2), .int .i64 (N.d 2)] 29
          have EW := hx14.trans ((Ext.refl w14).alloc (.cells #[.int .i64 (N.s 0), .int .i64 (N.d 0), .int .i64 (N.s 1), .int .i64 (N.d 1), .int .i64 (N.s 2), .int .i64 (N.d 2)] 29))
          have T := HT14.out.nx EW
          have N9 := HN14.out.ext EW
          have G := HG14.out.ext EW
          have S := HS14.out.ext EW
          have HR := Lib.hid (HR.out.ext EW)
          clear EW HT14 HN14 HG14 HS14
          have g_0 := G.at 0 _ rfl
          have g_1 := G.at 1 _ rfl
          have g_2 := G.at 2 _ rfl
          have g_3 := G.at 3 _ rfl
          have g_4 := G.at 4 _ rfl
          have g_5 := G.at 5 _ rfl
          have g_6 := G.at 6 _ rfl
          have g_7 := G.at 7 _ rfl
          have g_l := G.lt
          have g_f := G.fr
          have HT15 := Lib.hid T
          have HN15 := Lib.hid N9
          have HS15 := Lib.hid S
          have HV15 := Lib.hid V
          clear T N9 G S V
          go_wp2_with fail
          refine (HTimes.out _ _ _ HR.out).mono ?_
          rintro e w15 ⟨rfl, hx15⟩
          clear g_0 g_1 g_2 g_3 g_4 g_5 g_6 g_7 g_l g_f HTimes
          go_upto_region 16 with fail
          have U := Blk.new w15 [.int .i64 n02, .int .i64 n01, .int .i64 n00, .int .i64 n12, .int .i64 n11, .int .i64 n10, .int .i64 n22, .int .i64 n21, .int .i64 n20] 57
          have EW := hx15.trans ((Ext.refl w15).alloc (.cells #[.int .i64 n02, .int .i64 n01, .int .i64 n00, .int .i64 n12, .int .i64 n11, .int .i64 n10, .int .i64 n22, .int .i64 n21, .int .i64 n20] 57))
          have T := HT15.out.nx EW
          have N9 := HN15.out.ext EW
          have S := HS15.out.ext EW
          have V := HV15.out.ext EW
          clear EW HT15 HN15 HS15 HV15 HR
          obtain ⟨W15, hW15⟩ : ∃ W, W = w15.alloc (.cells #[.int .i64 n02, .int .i64 n01, .int .i64 n00, .int .i64 n12, .int .i64 n11, .int .i64 n10, .int .i64 n22, .int .i64 n21, .int .i64 n20] 57) := ⟨_, rfl⟩
          rw [← hW15] at U T N9 S V ⊢
          have s0 := S.at 0 _ rfl
          have s1 := S.at 1 _ rfl
          have s2 := S.at 2 _ rfl
          have s3 := S.at 3 _ rfl
          have s4 := S.at 4 _ rfl
          have s5 := S.at 5 _ rfl
          have sl := S.lt
          have sf := S.fr
          have v0 := V.at 0 _ rfl
          have v1 := V.at 1 _ rfl
          have v2 := V.at 2 _ rfl
          have v3 := V.at 3 _ rfl
          have v4 := V.at 4 _ rfl
          have v5 := V.at 5 _ rfl
          have vl := V.lt
          have vf := V.fr
          have HT16 := Lib.hid T
          have HN16 := Lib.hid N9
          have HS16 := Lib.hid S
          have HU16 := Lib.hid U
          clear T N9 S V U hW15
          have QE := legs_neq (N.s 0) (N.d 0) (N.s 1) (N.d 1) (N.s 2) (N.d 2)
          go_upto_region 18 with fail
          clear s0 s1 s2 s3 s4 s5 sl sf v0 v1 v2 v3 v4 v5 vl vf QE
          go_wp2_with fail
          go_loopw [161] (fun i wx => Upto 3 (fun _ => Ext W15 wx) i) (fun i _ => 3 - (intOf i).toNat)
          case atStart => exact ⟨0, by omega, rfl, Ext.refl _⟩
          case round =>
            obtain ⟨q, hq, rfl, E16⟩ := hrel
            have HE := Lib.hid E16
            have T := HT16.out.nx E16
            have N9 := HN16.out.ext E16
            have S := HS16.out.ext E16
            have U := HU16.out.ext E16
            clear E16
            by_cases hq3 : q < 3
            · have q012 : q = 0 ∨ q = 1 ∨ q = 2 := by omega
              rcases q012 with rfl | rfl | rfl
              · as_aux_lemma =>
                  have ⟨x1, x2, x3, x4, x5, x6, x7, x8⟩ := LF0.out
                  have u0 := U.at 0 _ rfl
                  have u1 := U.at 1 _ rfl
                  have u2 := U.at 2 _ rfl
                  have p0 := N9.at 0 _ rfl
                  have p1 := N9.at 1 _ rfl
                  have s0 := S.at 0 _ rfl
                  have b0 := T.fr.at 0 _ rfl
                  have b1 := T.fr.at 1 _ rfl
                  have b2 := T.fr.at 2 _ rfl
                  have b3 := T.fr.at 3 _ rfl
                  have bl := T.fr.lt
                  have bf := T.fr.fr
                  clear T N9 S U
                  have w1 : IntKind.i64.wrap (g0 - f0) = g0 - f0 := IntWalk.i64_in _ (by omega)
                  have w2 : IntKind.i64.wrap (g0 - f0 - D) = g0 - f0 - D := IntWalk.i64_in _ (by omega)
                  have w3' : IntKind.i64.wrap (n02 + n01) = n02 + n01 := IntWalk.i64_in _ (by omega)
                  have w4 : IntKind.i64.wrap (n02 + n01 + n00) = n02 + n01 + n00 := IntWalk.i64_in _ (by omega)
                  have t1 : decide (g0 - f0 < n02) = false := decide_eq_false (by omega)
                  have t2 : (n02 + n01 + n00 != (PN : Int)) = false := by simp; omega
                  by_cases htr : tr = PN
                  · skip
                    have ta : (tr == (PN : Int)) = true := by simp; omega
                    have tb : decide (tr < (PN : Int)) = false := decide_eq_false (by omega)
                    have tc : decide (n02 < g0 - f0 - D) = false := decide_eq_false (by omega)
                    have td : g0 - f0 - D ≤ n02 := by omega
                    go_upto_region 21 with fail
                    go_quiet (fail)
                    go_upto_region 22 with fail
                    go_quiet (fail)
                    go_wp2_with fail
                    refine ⟨⟨1, by omega, by first | rfl | go_num, by first | exact HE.out | exact HE.out.drew | exact HE.out.drew.drew | exact HE.out.drewN _ | exact (HE.out.drewN _).drewN _ | exact (by repeat (first | with_reducible exact Ext.refl _ | with_reducible assumption | (with_reducible refine Ext.drew ?_) | (with_reducible refine Ext.drewN ?_ _) | (with_reducible refine Ext.alloc ?_ _) | (with_reducible refine Ext.setCell ?_ ?_ _) | (with_reducible refine Ext.trans ?_ (by with_reducible assumption)) | omega | (focus (simp <;> omega))))⟩, ?_⟩
                    · first | (simp [intOf]; done) | (simp [intOf]; omega) | omega
                  · skip
                    have ta : (tr == (PN : Int)) = false := by simp; omega
                    have tb : decide (tr < (PN : Int)) = true := decide_eq_true (by omega)
                    have tc : (N.s 0 != 0) = false := by simp; omega
                    have td : N.s 0 = 0 := by omega
                    go_upto_region 21 with fail
                    go_quiet (fail)
                    go_upto_region 22 with fail
                    go_quiet (fail)
                    go_wp2_with fail
                    refine ⟨⟨1, by omega, by first | rfl | go_num, by first | exact HE.out | exact HE.out.drew | exact HE.out.drew.drew | exact HE.out.drewN _ | exact (HE.out.drewN _).drewN _ | exact (by repeat (first | with_reducible exact Ext.refl _ | with_reducible assumption | (with_reducible refine Ext.drew ?_) | (with_reducible refine Ext.drewN ?_ _) | (with_reducible refine Ext.alloc ?_ _) | (with_reducible refine Ext.setCell ?_ ?_ _) | (with_reducible refine Ext.trans ?_ (by with_reducible assumption)) | omega | (focus (simp <;> omega))))⟩, ?_⟩
                    · first | (simp [intOf]; done) | (simp [intOf]; omega) | omega
              · as_aux_lemma =>
                  have ⟨x1, x2, x3, x4, x5, x6, x7, x8⟩ := LF1.out
                  have u0 := U.at 3 _ rfl
                  have u1 := U.at 4 _ rfl
                  have u2 := U.at 5 _ rfl
                  have p0 := N9.at 2 _ rfl
                  have p1 := N9.at 3 _ rfl
                  have s0 := S.at 2 _ rfl
                  have b0 := T.fr.at 0 _ rfl
                  have b1 := T.fr.at 1 _ rfl
                  have b2 := T.fr.at 2 _ rfl
                  have b3 := T.fr.at 3 _ rfl
                  have bl := T.fr.lt
                  have bf := T.fr.fr
                  clear T N9 S U
                  have w1 : IntKind.i64.wrap (g1 - f1) = g1 - f1 := IntWalk.i64_in _ (by omega)
                  have w2 : IntKind.i64.wrap (g1 - f1 - D) = g1 - f1 - D := IntWalk.i64_in _ (by omega)
                  have w3' : IntKind.i64.wrap (n12 + n11) = n12 + n11 := IntWalk.i64_in _ (by omega)
                  have w4 : IntKind.i64.wrap (n12 + n11 + n10) = n12 + n11 + n10 := IntWalk.i64_in _ (by omega)
                  have t1 : decide (g1 - f1 < n12) = false := decide_eq_false (by omega)
                  have t2 : (n12 + n11 + n10 != (PN : Int)) = false := by simp; omega
                  by_cases htr : tr = PN
                  · skip
                    have ta : (tr == (PN : Int)) = true := by simp; omega
                    have tb : decide (tr < (PN : Int)) = false := decide_eq_false (by omega)
                    have tc : decide (n12 < g1 - f1 - D) = false := decide_eq_false (by omega)
                    have td : g1 - f1 - D ≤ n12 := by omega
                    go_upto_region 21 with fail
                    go_quiet (fail)
                    go_upto_region 22 with fail
                    go_quiet (fail)
                    go_wp2_with fail
                    refine ⟨⟨2, by omega, by first | rfl | go_num, by first | exact HE.out | exact HE.out.drew | exact HE.out.drew.drew | exact HE.out.drewN _ | exact (HE.out.drewN _).drewN _ | exact (by repeat (first | with_reducible exact Ext.refl _ | with_reducible assumption | (with_reducible refine Ext.drew ?_) | (with_reducible refine Ext.drewN ?_ _) | (with_reducible refine Ext.alloc ?_ _) | (with_reducible refine Ext.setCell ?_ ?_ _) | (with_reducible refine Ext.trans ?_ (by with_reducible assumption)) | omega | (focus (simp <;> omega))))⟩, ?_⟩
                    · first | (simp [intOf]; done) | (simp [intOf]; omega) | omega
                  · skip
                    have ta : (tr == (PN : Int)) = false := by simp; omega
                    have tb : decide (tr < (PN : Int)) = true := decide_eq_true (by omega)
                    have tc : (N.s 1 != 0) = false := by simp; omega
                    have td : N.s 1 = 0 := by omega
                    go_upto_region 21 with fail
                    go_quiet (fail)
                    go_upto_region 22 with fail
                    go_quiet (fail)
                    go_wp2_with fail
                    refine ⟨⟨2, by omega, by first | rfl | go_num, by first | exact HE.out | exact HE.out.drew | exact HE.out.drew.drew | exact HE.out.drewN _ | exact (HE.out.drewN _).drewN _ | exact (by repeat (first | with_reducible exact Ext.refl _ | with_reducible assumption | (with_reducible refine Ext.drew ?_) | (with_reducible refine Ext.drewN ?_ _) | (with_reducible refine Ext.alloc ?_ _) | (with_reducible refine Ext.setCell ?_ ?_ _) | (with_reducible refine Ext.trans ?_ (by with_reducible assumption)) | omega | (focus (simp <;> omega))))⟩, ?_⟩
                    · first | (simp [intOf]; done) | (simp [intOf]; omega) | omega
              · as_aux_lemma =>
                  have ⟨x1, x2, x3, x4, x5, x6, x7, x8⟩ := LF2.out
                  have u0 := U.at 6 _ rfl
                  have u1 := U.at 7 _ rfl
                  have u2 := U.at 8 _ rfl
                  have p0 := N9.at 4 _ rfl
                  have p1 := N9.at 5 _ rfl
                  have s0 := S.at 4 _ rfl
                  have b0 := T.fr.at 0 _ rfl
                  have b1 := T.fr.at 1 _ rfl
                  have b2 := T.fr.at 2 _ rfl
                  have b3 := T.fr.at 3 _ rfl
                  have bl := T.fr.lt
                  have bf := T.fr.fr
                  clear T N9 S U
                  have w1 : IntKind.i64.wrap (g2 - f2) = g2 - f2 := IntWalk.i64_in _ (by omega)
                  have w2 : IntKind.i64.wrap (g2 - f2 - D) = g2 - f2 - D := IntWalk.i64_in _ (by omega)
                  have w3' : IntKind.i64.wrap (n22 + n21) = n22 + n21 := IntWalk.i64_in _ (by omega)
                  have w4 : IntKind.i64.wrap (n22 + n21 + n20) = n22 + n21 + n20 := IntWalk.i64_in _ (by omega)
                  have t1 : decide (g2 - f2 < n22) = false := decide_eq_false (by omega)
                  have t2 : (n22 + n21 + n20 != (PN : Int)) = false := by simp; omega
                  by_cases htr : tr = PN
                  · skip
                    have ta : (tr == (PN : Int)) = true := by simp; omega
                    have tb : decide (tr < (PN : Int)) = false := decide_eq_false (by omega)
                    have tc : decide (n22 < g2 - f2 - D) = false := decide_eq_false (by omega)
                    have td : g2 - f2 - D ≤ n22 := by omega
                    go_upto_region 21 with fail
                    go_quiet (fail)
                    go_upto_region 22 with fail
                    go_quiet (fail)
                    go_wp2_with fail
                    refine ⟨⟨3, by omega, by first | rfl | go_num, by first | exact HE.out | exact HE.out.drew | exact HE.out.drew.drew | exact HE.out.drewN _ | exact (HE.out.drewN _).drewN _ | exact (by repeat (first | with_reducible exact Ext.refl _ | with_reducible assumption | (with_reducible refine Ext.drew ?_) | (with_reducible refine Ext.drewN ?_ _) | (with_reducible refine Ext.alloc ?_ _) | (with_reducible refine Ext.setCell ?_ ?_ _) | (with_reducible refine Ext.trans ?_ (by with_reducible assumption)) | omega | (focus (simp <;> omega))))⟩, ?_⟩
                    · first | (simp [intOf]; done) | (simp [intOf]; omega) | omega
                  · skip
                    have ta : (tr == (PN : Int)) = false := by simp; omega
                    have tb : decide (tr < (PN : Int)) = true := decide_eq_true (by omega)
                    have tc : (N.s 2 != 0) = false := by simp; omega
                    have td : N.s 2 = 0 := by omega
                    go_upto_region 21 with fail
                    go_quiet (fail)
                    go_upto_region 22 with fail
                    go_quiet (fail)
                    go_wp2_with fail
                    refine ⟨⟨3, by omega, by first | rfl | go_num, by first | exact HE.out | exact HE.out.drew | exact HE.out.drew.drew | exact HE.out.drewN _ | exact (HE.out.drewN _).drewN _ | exact (by repeat (first | with_reducible exact Ext.refl _ | with_reducible assumption | (with_reducible refine Ext.drew ?_) | (with_reducible refine Ext.drewN ?_ _) | (with_reducible refine Ext.alloc ?_ _) | (with_reducible refine Ext.setCell ?_ ?_ _) | (with_reducible refine Ext.trans ?_ (by with_reducible assumption)) | omega | (focus (simp <;> omega))))⟩, ?_⟩
                    · first | (simp [intOf]; done) | (simp [intOf]; omega) | omega
            · obtain rfl : q = 3 := by omega
              have s0 := T.st.at 0 _ rfl
              have s1 := T.st.at 1 _ rfl
              have s2 := T.st.at 2 _ rfl
              have s3 := T.st.at 3 _ rfl
              have s4 := T.st.at 4 _ rfl
              have s5 := T.st.at 5 _ rfl
              have sl := T.st.lt
              have sf := T.st.fr
              have c0 := S.at 0 _ rfl
              have c1 := S.at 1 _ rfl
              have c2 := S.at 2 _ rfl
              have c3 := S.at 3 _ rfl
              have c4 := S.at 4 _ rfl
              have c5 := S.at 5 _ rfl
              have cl := S.lt
              have cf := S.fr
              have HT := Lib.hid T
              clear T N9 S U
              go_wp2_with fail
              refine ⟨⟨k + 1, by omega, by go_num, N, LM.set HT.out HN.out⟩, ?_⟩
              · first | (simp [intOf]; done) | (simp [intOf]; omega)
    · obtain rfl : n0 = k := by omega
      have kn : ((n0 : Nat) : Int) ≤ (n0 : Int) := Int.le_refl _
      go_wp2_with fail
      go_ret
      exact ⟨(by first | rfl | exact ret_true (by simp <;> omega)), T.ext⟩

theorem walk (u0 : Wl) (L P M D : Int) (bL : I64 L) (bP : I64 P) (bM : I64 M) (bD : I64 D) (u2 : Tl) (w : World) (h0 : WlAt w u0) (h2 : TlAt w u2) :
    Calls Try.prog 3 #[.slice u0.a u0.n u0.k, .agg #[.int .i64 L, .int .i64 P, .int .i64 M, .int .i64 D], .slice u2.a u2.n u2.k] w fun e w' => e = .returned (.bool true) ∧ Ext w w' := by
  by_cases h : FrameOK L P M D
  · by_cases hn : 20 < u0.n
    · exact legs_out _ _ _ _ _ _ L P M D w (.inr (.inl ⟨h, hn⟩))
    · by_cases hp : 600 < P
      · exact legs_out _ _ _ _ _ _ L P M D w (.inr (.inr ⟨h, by omega, hp⟩))
      · exact legs_in _ _ _ _ _ _ u0.x u0.y u2.z L P M D w h (by omega) (by omega) h0.row h2.row h2.u16
  · exact legs_out _ _ _ _ _ _ L P M D w (.inl h)

theorem own : ownKnob Try.prog.godebug = none := by kernel_rfl
theorem laidOut : laidOutB Try.prog = true := by kernel_rfl

/-- The row's step: the walk's end is what the row asks. -/
theorem lifted (os : Os) (started : os.Started) (H : Type) (enc : TypeId × Value → H) :
    ReturnsInHanded {} Try.checked os 3 .any (Rows.wholeLegsSpec.pre6 enc Try.prog Try.f3 Rows.wholeLegsRow.domain false) (Rows.wholeLegsSpec.post enc Try.prog Try.f3 false true false false) := by
  refine returnsInHanded_of_change (C := Try.checked) own started (by kernel_rfl) Try.func3
    (ChangeSpec.witness6 (enc := enc) (C := Try.checked) false ⟨#[], #[.slice none 0 0, .agg #[.int .i64 0, .int .i64 0, .int .i64 0, .int .i64 0], .slice none 0 0], []⟩ 8 (by kernel_rfl) (by kernel_rfl) (by kernel_rfl) (by kernel_rfl)) ?_
  intro W base args ds gs before hval0 hW hcnd _
  have hval : ∀ (j : Nat) t v, Try.f3.params[j]? = some t → args[j]? = some v → Value.okWide Try.prog W .any base t v := hval0
  have hW' := hW
  obtain ⟨p, q, hA0, hV, rfl, hfz, hnd⟩ := hW
  have hA : DataW.TrodAll enc Try.prog W 0 (fun _ => true) true Try.f3.params.toList args.toList ds p := hA0
  rw [Try.params3] at hA hval
  obtain ⟨v0, vs0, d0, ds0, p0, q0, hargs, rfl, rfl, h0, r0⟩ := trodAll_cons hA
  obtain ⟨v1, vs1, d1, ds1, p1, q1, rfl, rfl, rfl, h1, r1⟩ := trodAll_cons r0
  obtain ⟨v2, vs2, d2, ds2, p2, q2, rfl, rfl, rfl, h2, r2⟩ := trodAll_cons r1
  obtain ⟨rfl, rfl, rfl⟩ := trodAll_nil r2
  obtain rfl : args = #[v0, v1, v2] := by cases args; simp_all
  obtain ⟨rfl, rfl⟩ := trodVars_none hV
  have lt0 : ∀ x ∈ p0, x.block < W.heap.size := by obtain ⟨m, hm⟩ := h0; exact DataW.trod_lt m _ _ _ hm
  obtain ⟨u0, rfl, hu0⟩ : ∃ s : Wl, v0 = .slice s.a s.n s.k ∧ WlAt W s := by
    obtain ⟨fu, hfu⟩ := h0
    obtain ⟨xa, xl, xc, rfl⟩ := okWide_slice Try.underlying22 (hval 0 22 v0 rfl rfl)
    exact open_wl Try.underlying22 Try.underlying32 (by kernel_rfl) rfl rfl (by kernel_rfl) (by kernel_rfl) Try.underlying3 Try.underlying3 hfu
  have lt1 : ∀ x ∈ p1, x.block < W.heap.size := by obtain ⟨m, hm⟩ := h1; exact DataW.trod_lt m _ _ _ hm
  obtain ⟨a1x, a1y, a1z, a1u, rfl, ba1x, ba1y, ba1z, ba1u⟩ := open_str4 (u := 3) Try.underlying24 (by kernel_rfl) (by kernel_rfl) (by kernel_rfl) (hval 1 24 v1 rfl rfl)
  have lt2 : ∀ x ∈ p2, x.block < W.heap.size := by obtain ⟨m, hm⟩ := h2; exact DataW.trod_lt m _ _ _ hm
  obtain ⟨u2, rfl, hu2⟩ : ∃ s : Tl, v2 = .slice s.a s.n s.k ∧ TlAt W s := by
    obtain ⟨fu, hfu⟩ := h2
    obtain ⟨xa, xl, xc, rfl⟩ := okWide_slice Try.underlying25 (hval 2 25 v2 rfl rfl)
    exact open_tl Try.underlying25 Try.underlying48 (by kernel_rfl) hfu
  clear hA0 hval0
  refine (walk u0 a1x a1y a1z a1u ba1x ba1y ba1z ba1u u2 W hu0 hu2).mono fun e W' ⟨he, bel0⟩ => ?_
  subst he
  have bel : Below W.heap.size W W' := bel0
  exact ⟨_, rfl, _, _, _, [], _, [], hW', trodAll_mk1 (shut_bool Try.underlying4 _), (trodAll_cons_mk (Below.trod laidOut (by kernel_rfl) (of_decide_eq_true (by kernel_rfl)) h0 bel lt0) (trodAll_cons_mk (Below.trod laidOut (by kernel_rfl) (of_decide_eq_true (by kernel_rfl)) h1 bel lt1) (trodAll_cons_mk (Below.trod laidOut (by kernel_rfl) (of_decide_eq_true (by kernel_rfl)) h2 bel lt2) trodAll_mk0))), rfl, bel.frame _, fun h => by cases h⟩

theorem over : Rows.wholeLegsRow.holds Try.pinned (OpenSpec.ofChange Rows.wholeLegsSpec) :=
  OpenClaim.holds_of_wide 3 Try.f3 rfl rfl rfl rfl rfl rfl rfl ⟨rfl, rfl, rfl, rfl, rfl⟩ rfl rfl rfl rfl rfl (by kernel_rfl) Try.func3 (by kernel_rfl)
    (of_decide_eq_true (by kernel_rfl)) (by unfold Func.isWrapper; first | (rw [if_pos (by decide +kernel)]; kernel_rfl) | (rw [if_neg (by decide +kernel)]; exact ⟨rfl, rfl⟩))
    (fun os started H enc _ => lifted os started H enc)

/-- The statement. -/
theorem proved : Rows.WholeLegsSaid := over
#print axioms proved
end Go.Proofs.Ytfignlcplkihpaa.wholeLegs
