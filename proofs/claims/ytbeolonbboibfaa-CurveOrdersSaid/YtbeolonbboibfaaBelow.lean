/- The contracts of curve.Below.
   Conditions: the curves' errors, named. -/
import Derived.Test.YtbeolonbboibfaaConcat
import Derived.Test.YtbeolonbboibfaaLess
namespace Go.Proofs.Ytbeolonbboibfaa
open Go.ChangeShapes Go.WideShapes Go.ChangeAt Go.RowKit

theorem point_val {c : Pl.Cv} (g : Pl.Good c) {i : Nat} (hi : i < c.nx) {n d : Int} (h : Pl.IsVal c (c.x i) n d) : n = c.y i * d := by
  have g2 := g.two
  obtain ⟨hd, ⟨h1, h2, h3⟩ | ⟨h1, h2, h3⟩ | ⟨k, k0, hk, h1, h2, h3, h4⟩⟩ := h
  · have e : i = 0 := by
      rcases Nat.eq_zero_or_pos i with e | e
      · exact e
      · have := Pl.up_lt g 0 i e hi; omega
    rw [h2, h3, e, Int.mul_one]
  · have e : i = c.nx - 1 := by
      rcases Nat.lt_or_ge i (c.nx - 1) with e | e
      · have := Pl.up_lt g i (c.nx - 1) e (by omega); omega
      · omega
    rw [h2, h3, e, Int.mul_one]
  · have e : i = k - 1 ∨ i = k := by
      rcases Nat.lt_or_ge i (k - 1) with e | e
      · have := Pl.up_lt g i (k - 1) e (by omega); omega
      · rcases Nat.lt_or_ge k i with e2 | e2
        · have := Pl.up_lt g k i e2 hi; omega
        · omega
    rw [h4, h3]
    rcases e with e | e
    · rw [e]; unfold Pl.sg; rw [Int.sub_self, Int.mul_zero, Int.add_zero]
    · rw [e]
      have e5 : c.x k - c.x (k - 1) = Pl.dx c k := rfl
      unfold Pl.sg
      rw [e5]
      unfold Pl.dy
      rw [Int.sub_mul]; omega
def NotAbove (c d : Pl.Cv) : Prop := ∀ j, j < c.nx + d.nx → Pl.leb c d (cat c.nx c.x d.x j) = true
theorem notAbove_iff (c d : Pl.Cv) : NotAbove c d ↔ (∀ i, i < c.nx → Pl.leb c d (c.x i) = true) ∧ (∀ j, j < d.nx → Pl.leb c d (d.x j) = true) := by
  constructor
  · intro h
    refine ⟨fun i hi => ?_, fun j hj => ?_⟩
    · have := h i (by omega)
      unfold cat at this
      rwa [if_pos hi] at this
    · have := h (c.nx + j) (by omega)
      unfold cat at this
      rw [if_neg (by omega)] at this
      have e : c.nx + j - c.nx = j := by omega
      rwa [e] at this
  · intro h j hj
    unfold cat
    by_cases e : j < c.nx
    · rw [if_pos e]; exact h.1 j e
    · rw [if_neg e]; exact h.2 (j - c.nx) (by omega)
theorem leb_lt {c d : Pl.Cv} (gc : Pl.Good c) (gd : Pl.Good d) {x A B C D q r p s : Int} (h : Pl.IsVal c x A B) (k : Pl.IsVal d x C D) (r1 : r < B) (s0 : 0 ≤ s) (eA : A = q * B + r) (eC : C = p * D + s) (hq : q < p) : Pl.leb c d x = true :=
  (Pl.leb_iff gc gd h k).2 (Int.le_of_lt (frac_lt r1 s0 h.1 k.1 eA eC hq))
theorem leb_gt {c d : Pl.Cv} (gc : Pl.Good c) (gd : Pl.Good d) {x A B C D q r p s : Int} (h : Pl.IsVal c x A B) (k : Pl.IsVal d x C D) (s1 : s < D) (r0 : 0 ≤ r) (eA : A = q * B + r) (eC : C = p * D + s) (hq : p < q) : ¬ Pl.leb c d x = true := fun hl => by
  have := (Pl.leb_iff gc gd h k).1 hl
  have := frac_lt s1 r0 k.1 h.1 eC eA hq
  omega
theorem leb_eq {c d : Pl.Cv} (gc : Pl.Good c) (gd : Pl.Good d) {x A B C D q r s : Int} (h : Pl.IsVal c x A B) (k : Pl.IsVal d x C D) (eA : A = q * B + r) (eC : C = q * D + s) : Pl.leb c d x = true ↔ r * D ≤ s * B := by
  rw [Pl.leb_iff gc gd h k]
  have := frac_eq eA eC
  constructor <;> intro <;> omega
theorem prod_bd {r D : Int} (r0 : 0 ≤ r) (r1 : r ≤ 2147483648) (d0 : 0 ≤ D) (d1 : D ≤ 2147483648) : 0 ≤ r * D ∧ r * D ≤ 4611686018427387904 := by
  have h1 := Int.mul_nonneg r0 d0
  have h2 := Int.mul_le_mul r1 d1 d0 (by omega)
  omega
set_option linter.unusedSimpArgs false in
set_option maxRecDepth 100000 in
set_option maxHeartbeats 1000000 in
theorem below_bad1 (a1 b1 a2 b2 : Option Addr) (k1 l1 k2 l2 : Nat) (c d : Pl.Cv) (w : World) (h : Pl.chk c ≠ 0) (hx : Row w a1 c.nx c.x) (hy : Row w b1 c.ny c.y) (lx : c.nx ≤ maxLen) (ly : c.ny ≤ maxLen) :
    Calls Try.prog 32 #[.agg #[.slice a1 c.nx k1, .slice b1 c.ny l1], .agg #[.slice a2 d.nx k2, .slice b2 d.ny l2]] w fun e w' => e = .returned (.tuple #[.bool false, errv (Pl.chk c)]) ∧ Ext w w' := by
  have E0 : Ext w ((w.alloc (.cells #[.slice a1 c.nx k1, .slice b1 c.ny l1] 24)).alloc (.cells #[.slice a2 d.nx k2, .slice b2 d.ny l2] 24)) := ((Ext.refl w).alloc _).alloc _
  have A0 := (Blk.new w [.slice a1 c.nx k1, .slice b1 c.ny l1] 24).alloc (.cells #[.slice a2 d.nx k2, .slice b2 d.ny l2] 24)
  have B0 := Blk.new1 w (.cells #[.slice a1 c.nx k1, .slice b1 c.ny l1] 24) [.slice a2 d.nx k2, .slice b2 d.ny l2] 24
  have HA := Lib.hid A0
  have HB := Lib.hid B0
  have HE := Lib.hid E0
  have hc := ccheck a1 b1 k1 l1 c _ (hx.ext E0) (hy.ext E0) lx ly
  have he : errv (Pl.chk c) = .iface 51 (.int .i64 (Pl.chk c)) := by unfold errv; rw [if_neg h]
  rw [he] at hc ⊢
  have HC := Lib.hid hc
  clear E0 A0 B0 hx hy hc h he lx ly
  generalize Pl.chk c = r at *
  go_enter Try.func32, Try.ntmps32
  go_wp2_with fail
  refine HC.out.mono ?_
  rintro e w1 ⟨rfl, hx1⟩
  have E1 := HE.out.trans hx1
  go_wp2_with fail
  go_ret2
  exact ⟨rfl, E1⟩
set_option linter.unusedSimpArgs false in
set_option maxRecDepth 100000 in
set_option maxHeartbeats 1000000 in
theorem below_bad2 (a1 b1 a2 b2 : Option Addr) (k1 l1 k2 l2 : Nat) (c d : Pl.Cv) (w : World) (h : Pl.chk c = 0) (h2 : Pl.chk d ≠ 0) (hx : Row w a1 c.nx c.x) (hy : Row w b1 c.nx c.y) (hx2 : Row w a2 d.nx d.x) (hy2 : Row w b2 d.ny d.y) (lx : c.nx ≤ maxLen) (lx2 : d.nx ≤ maxLen) (ly2 : d.ny ≤ maxLen) :
    Calls Try.prog 32 #[.agg #[.slice a1 c.nx k1, .slice b1 c.nx l1], .agg #[.slice a2 d.nx k2, .slice b2 d.ny l2]] w fun e w' => e = .returned (.tuple #[.bool false, errv (Pl.chk d)]) ∧ Ext w w' := by
  have E0 : Ext w ((w.alloc (.cells #[.slice a1 c.nx k1, .slice b1 c.nx l1] 24)).alloc (.cells #[.slice a2 d.nx k2, .slice b2 d.ny l2] 24)) := ((Ext.refl w).alloc _).alloc _
  have A0 := (Blk.new w [.slice a1 c.nx k1, .slice b1 c.nx l1] 24).alloc (.cells #[.slice a2 d.nx k2, .slice b2 d.ny l2] 24)
  have B0 := Blk.new1 w (.cells #[.slice a1 c.nx k1, .slice b1 c.nx l1] 24) [.slice a2 d.nx k2, .slice b2 d.ny l2] 24
  have HA := Lib.hid A0
  have HB := Lib.hid B0
  have HE := Lib.hid E0
  have hc := ccheck_eq a1 b1 k1 l1 c _ (Pl.good_of c h).same (hx.ext E0) (hy.ext E0) lx
  rw [h, errv_0] at hc
  have hd : Hid (∀ V, Ext w V → Calls Try.prog 17 _ V _) := Lib.hid (fun V (hV : Ext w V) => ccheck a2 b2 k2 l2 d V (hx2.ext hV) (hy2.ext hV) lx2 ly2)
  have he : errv (Pl.chk d) = .iface 51 (.int .i64 (Pl.chk d)) := by unfold errv; rw [if_neg h2]
  rw [he] at hd ⊢
  have HC := Lib.hid hc
  clear E0 A0 B0 hx hy hx2 hy2 hc h h2 he lx lx2 ly2
  generalize Pl.chk d = r at *
  go_enter Try.func32, Try.ntmps32
  go_wp2_with fail
  refine HC.out.mono ?_
  rintro e w1 ⟨rfl, hx1⟩
  have E1 := HE.out.trans hx1
  have B1 := HB.out.ext hx1
  have b0 := B1.at 0 _ rfl
  have b1' := B1.at 1 _ rfl
  have bl := B1.lt
  go_wp2_with fail
  refine (hd.out _ E1).mono ?_
  rintro e w2 ⟨rfl, hx2⟩
  go_wp2_with fail
  go_ret2
  exact ⟨rfl, E1.trans hx2⟩
set_option linter.unusedSimpArgs false in
set_option maxRecDepth 100000 in
set_option maxHeartbeats 1000000 in
theorem below_ok (a1 b1 a2 b2 : Option Addr) (k1 l1 k2 l2 : Nat) (c d : Pl.Cv) (w : World) (h : Pl.chk c = 0) (h2 : Pl.chk d = 0) (R : Bool) (hR : R = true ↔ NotAbove c d) (hx : Row w a1 c.nx c.x) (hy : Row w b1 c.nx c.y) (hx2 : Row w a2 d.nx d.x) (hy2 : Row w b2 d.nx d.y) :
    Calls Try.prog 32 #[.agg #[.slice a1 c.nx k1, .slice b1 c.nx l1], .agg #[.slice a2 d.nx k2, .slice b2 d.nx l2]] w fun e w' => e = .returned (.tuple #[.bool R, .nilIface]) ∧ Ext w w' := by
  have E0 : Ext w ((w.alloc (.cells #[.slice a1 c.nx k1, .slice b1 c.nx l1] 24)).alloc (.cells #[.slice a2 d.nx k2, .slice b2 d.nx l2] 24)) := ((Ext.refl w).alloc _).alloc _
  have A0 := (Blk.new w [.slice a1 c.nx k1, .slice b1 c.nx l1] 24).alloc (.cells #[.slice a2 d.nx k2, .slice b2 d.nx l2] 24)
  have B0 := Blk.new1 w (.cells #[.slice a1 c.nx k1, .slice b1 c.nx l1] 24) [.slice a2 d.nx k2, .slice b2 d.nx l2] 24
  have HA := Lib.hid A0
  have HB := Lib.hid B0
  have HE := Lib.hid E0
  have gc := Pl.good_of c h
  have gd := Pl.good_of d h2
  have c2 := gc.two
  have c3 := gc.few
  have d2 := gd.two
  have d3 := gd.few
  have hc := ccheck_eq a1 b1 k1 l1 c _ gc.same (hx.ext E0) (hy.ext E0) (by unfold maxLen; omega)
  rw [h, errv_0] at hc
  have hd := Lib.hid (fun V (hV : Ext w V) => ccheck_eq a2 b2 k2 l2 d V gd.same (hx2.ext hV) (hy2.ext hV) (by unfold maxLen; omega))
  rw [h2, errv_0] at hd
  have HC := Lib.hid hc
  have GC := Lib.hid gc
  have GD := Lib.hid gd
  have HX := Lib.hid hx
  have HY := Lib.hid hy
  have HX2 := Lib.hid hx2
  have HY2 := Lib.hid hy2
  have HR := Lib.hid hR
  clear E0 A0 B0 hx hy hx2 hy2 hc h h2 gc gd hR
  go_enter Try.func32, Try.ntmps32
  go_wp2_with fail
  refine HC.out.mono ?_
  rintro e w1 ⟨rfl, hx1⟩
  have E1 := HE.out.trans hx1
  have A1 := HA.out.ext hx1
  have B1 := HB.out.ext hx1
  have b0 := B1.at 0 _ rfl
  have b1' := B1.at 1 _ rfl
  have bl := B1.lt
  clear HC
  go_wp2_with fail
  refine (hd.out _ E1).mono ?_
  rintro e w2 ⟨rfl, hx2⟩
  have E2 := E1.trans hx2
  have A2 := A1.ext hx2
  have B2 := B1.ext hx2
  clear b0 b1' bl hd
  have b0 := B2.at 0 _ rfl
  have b1' := B2.at 1 _ rfl
  have bl := B2.lt
  have a0 := A2.at 0 _ rfl
  have a1' := A2.at 1 _ rfl
  have al := A2.lt
  have F2 : Ext w (w2.alloc (.cells #[.slice a1 c.nx k1, .slice a2 d.nx k2] 22)) := E2.alloc _
  have CO := Lib.hid (concat_any w2.heap.size c.nx k1 d.nx k2 a1 a2 c.x d.x _ (Blk.new w2 [.slice a1 c.nx k1, .slice a2 d.nx k2] 22) (HX.out.ext F2) (HX2.out.ext F2) (by omega) (by omega) (by omega) (by omega))
  go_wp2_with fail
  refine CO.out.mono ?_
  rintro e w3 ⟨r3, K3, rfl, R3, hx3⟩
  have E3 := F2.trans hx3
  have A3 := (A2.alloc (.cells #[.slice a1 c.nx k1, .slice a2 d.nx k2] 22)).ext hx3
  have B3 := (B2.alloc (.cells #[.slice a1 c.nx k1, .slice a2 d.nx k2] 22)).ext hx3
  clear b0 b1' bl a0 a1' al CO
  obtain ⟨bz, oz, hbz0, hbz, hcz⟩ := R3 (by omega)
  injection hbz0 with hbz0
  injection hbz0 with hz1 hz2 hz3
  subst hz1
  subst hz2
  have HCZ := Lib.hid hcz
  have HE3 := Lib.hid E3
  have HA3 := Lib.hid A3
  have HB3 := Lib.hid B3
  have nn : ((c.nx : Int) + (d.nx : Int)) ≤ 64 := by omega
  clear hcz E3 A3 B3
  go_wp2_with fail
  go_loopw [35] (fun i wr => ∃ j : Nat, j ≤ c.nx + d.nx ∧ i = .int .i64 j ∧ Hid (∀ t, t < j → Pl.leb c d (cat c.nx c.x d.x t) = true) ∧ Ext w3 wr) (fun i _ => c.nx + d.nx - (intOf i).toNat)
  case atStart => exact ⟨0, by omega, rfl, Lib.hid (fun t ht => absurd ht (Nat.not_lt_zero _)), Ext.refl _⟩
  case round =>
    obtain ⟨j, hj', rfl, HG, hxr⟩ := hrel
    by_cases hj : j < c.nx + d.nx
    · have cz := (hxr.cell hbz).trans (HCZ.out j hj)
      rw [Nat.zero_add] at cz
      have ej : (j : Int) < (c.nx : Int) + (d.nx : Int) := by omega
      obtain ⟨x, hxx⟩ : ∃ x, x = cat c.nx c.x d.x j := ⟨_, rfl⟩
      rw [← hxx] at cz
      have HXX := Lib.hid hxx
      clear hxx
      have A4 := HA3.out.ext hxr
      have B4 := HB3.out.ext hxr
      have a0 := A4.at 0 _ rfl
      have a1' := A4.at 1 _ rfl
      have al := A4.lt
      have E4 := HE3.out.trans hxr
      go_wp2_with fail
      refine (cvalue a1 b1 k1 l1 c x _ GC.out (HX.out.ext E4) (HY.out.ext E4)).mono ?_
      rintro e w5 ⟨n, m, ⟨v1, v2⟩, rfl, hx5⟩
      have V1 := Lib.hid v1
      have V2 := Lib.hid v2
      have E5 := E4.trans hx5
      have B5 := B4.ext hx5
      have b0 := B5.at 0 _ rfl
      have b1' := B5.at 1 _ rfl
      have bl := B5.lt
      clear a0 a1' al v1 v2
      go_wp2_with fail
      refine (cvalue a2 b2 k2 l2 d x _ GD.out (HX2.out.ext E5) (HY2.out.ext E5)).mono ?_
      rintro e w6 ⟨n2, m2, ⟨v3, v4⟩, rfl, hx6⟩
      have V3 := Lib.hid v3
      have V4 := Lib.hid v4
      clear v3 v4 b0 b1' bl
      obtain ⟨q, r, hq, hr, r0, r1, eA, ha⟩ := fl_cases n m (by have := V2.out.2.1; omega)
      obtain ⟨p, s, hp, hs, s0, s1, eC, hb⟩ := fl_cases n2 m2 (by have := V4.out.2.1; omega)
      have EA := Lib.hid eA
      have EC := Lib.hid eC
      clear ha hb eA eC
      have F1 := Lib.hid (fun V => floor_any n m V V2.out)
      have F2' := Lib.hid (fun V => floor_any n2 m2 V V4.out)
      rw [← hq, ← hr] at F1
      rw [← hp, ← hs] at F2'
      clear hq hr hp hs
      go_wp2_with fail
      refine (F1.out _).mono ?_
      rintro e w7 ⟨rfl, hx7⟩
      go_wp2_with fail
      refine (F2'.out _).mono ?_
      rintro e w8 ⟨rfl, hx8⟩
      have E8 : Ext w3 w8 := (((hxr.trans hx5).trans hx6).trans hx7).trans hx8
      clear F1 F2'
      rcases Int.lt_trichotomy q p with hqp | hqp | hqp
      · have L := leb_lt GC.out GD.out V1.out V3.out r1 s0 EA.out EC.out hqp
        rw [HXX.out] at L
        have LL := Lib.hid L
        have hne : (q == p) = false := by simp; omega
        have hle : q ≤ p := by omega
        clear L
        go_wp2_with fail
        go_roundw
        case rel => exact ⟨j + 1, by omega, by go_num, Lib.hid (fun t ht => by
          by_cases e : t = j
          · rw [e]; exact LL.out
          · exact HG.out t (by omega)), E8⟩
        case measure => simp [intOf]; omega
      · subst hqp
        have LE := leb_eq GC.out GD.out V1.out V3.out EA.out EC.out
        rw [HXX.out] at LE
        have ⟨⟨_, _⟩, m0, m1⟩ := V2.out
        have ⟨⟨_, _⟩, m20, m21⟩ := V4.out
        have ⟨t1, t2⟩ := prod_bd (r := r) (D := m2) r0 (by omega) (by omega) (by omega)
        have ⟨t3, t4⟩ := prod_bd (r := s) (D := m) s0 (by omega) (by omega) (by omega)
        have wp1 : IntKind.i64.wrap (r * m2) = r * m2 := IntWalk.i64_in _ (by omega)
        have wp2 : IntKind.i64.wrap (s * m) = s * m := IntWalk.i64_in _ (by omega)
        by_cases hl : r * m2 ≤ s * m
        · have LL := Lib.hid (LE.2 hl)
          clear LE
          go_wp2_with fail
          go_roundw
          case rel => exact ⟨j + 1, by omega, by go_num, Lib.hid (fun t ht => by
            by_cases e : t = j
            · rw [e]; exact LL.out
            · exact HG.out t (by omega)), E8⟩
          case measure => simp [intOf]; omega
        · have hl2 : s * m < r * m2 := by omega
          have hf : R = false := by
            cases hRR : R with
            | false => rfl
            | true => exact absurd (LE.1 (HR.out.1 hRR j hj)) hl
          clear LE HR
          subst hf
          go_wp2_with fail
          go_ret2
          exact ⟨rfl, HE3.out.trans E8⟩
      · have L := leb_gt GC.out GD.out V1.out V3.out s1 r0 EA.out EC.out hqp
        rw [HXX.out] at L
        have hf : R = false := by
          cases hRR : R with
          | false => rfl
          | true => exact absurd (HR.out.1 hRR j hj) L
        clear L HR
        subst hf
        go_wp2_with fail
        go_ret2
        exact ⟨rfl, HE3.out.trans E8⟩
    · obtain rfl : j = c.nx + d.nx := by omega
      have hge : (c.nx : Int) + (d.nx : Int) ≤ (c.nx : Int) + (d.nx : Int) := Int.le_refl _
      have hf : R = true := HR.out.2 HG.out
      subst hf
      have E4 := HE3.out.trans hxr
      go_wp2_with fail
      go_ret2
      exact ⟨rfl, E4⟩

end Go.Proofs.Ytbeolonbboibfaa
