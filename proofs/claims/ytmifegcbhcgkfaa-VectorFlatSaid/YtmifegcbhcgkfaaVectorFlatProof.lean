/- VectorFlat: the vector of the counts does not change if the least of them becomes 0, to within 3 mV.
   Conditions: none: every input. -/
import Derived.Test.YtmifegcbhcgkfaaAwakeVector
import Derived.Test.YtmifegcbhcgkfaaPlainVector2
import Derived.Test.YtmifegcbhcgkfaaVolts
namespace Go.Proofs.Ytmifegcbhcgkfaa.vectorFlat
open Go.ChangeShapes Go.WideShapes Go.ChangeAt Go.RowKit
set_option linter.unusedVariables false

set_option maxRecDepth 100000 in
set_option maxHeartbeats 1000000 in
theorem walk (a0x a0y a0z : Int) (ba0x : I64 a0x) (ba0y : I64 a0y) (ba0z : I64 a0z) (a1 : Int) (b1 : I64 a1) (a2 : Int) (b2 : I64 a2) (w : World) :
    Calls Try.prog 10 #[.agg #[.int .i64 a0x, .int .i64 a0y, .int .i64 a0z], .int .i64 a1, .int .i64 a2] w fun e w' => e = .returned (.bool true) ∧ Ext w w' := by
  clear ba0x ba0y ba0z b1 b2
  obtain ⟨L, hL⟩ : ∃ L, L = clip a1 (1) (1048576) := ⟨_, rfl⟩
  have ⟨L1, L2⟩ := clip_bd a1 (1) (1048576) (by omega)
  rw [← hL] at L1 L2
  have HL := Lib.hid hL
  clear hL
  obtain ⟨T, hT⟩ : ∃ T, T = clip a2 (64) (4096) := ⟨_, rfl⟩
  have ⟨T1, T2⟩ := clip_bd a2 (64) (4096) (by omega)
  rw [← hT] at T1 T2
  have HT := Lib.hid hT
  clear hT
  obtain ⟨x, hx⟩ : ∃ x, x = clip a0x (0) (T) := ⟨_, rfl⟩
  have ⟨x1, x2⟩ := clip_bd a0x (0) (T) (by omega)
  rw [← hx] at x1 x2
  have Hx := Lib.hid hx
  clear hx
  obtain ⟨y, hy⟩ : ∃ y, y = clip a0y (0) (T) := ⟨_, rfl⟩
  have ⟨y1, y2⟩ := clip_bd a0y (0) (T) (by omega)
  rw [← hy] at y1 y2
  have Hy := Lib.hid hy
  clear hy
  obtain ⟨z, hz⟩ : ∃ z, z = clip a0z (0) (T) := ⟨_, rfl⟩
  have ⟨z1, z2⟩ := clip_bd a0z (0) (T) (by omega)
  rw [← hz] at z1 z2
  have Hz := Lib.hid hz
  clear hz
  have okc : CountsOK x y z T := ⟨⟨x1, x2⟩, ⟨y1, y2⟩, z1, z2⟩
  have okp : PerOK T := ⟨T1, T2⟩
  have okl : LinkOK L := ⟨L1, L2⟩
  have ⟨g0, g1, g2, g3⟩ := Pl.mn3_le x y z
  have nr := Pl.flat_near x y z (Pl.mn3 x y z) L T (by omega)
  obtain ⟨m, hm⟩ : ∃ m, m = Pl.mn3 x y z := ⟨_, rfl⟩
  rw [← hm] at g0 g1 g2 g3 nr
  have g4 : 0 ≤ m := by omega
  have u1 : 0 ≤ min (x - m) (min (y - m) (z - m)) := by omega
  have u2 : min (x - m) (min (y - m) (z - m)) ≤ 0 := by omega
  have okd : CountsOK (x - m) (y - m) (z - m) T := ⟨⟨by omega, by omega⟩, ⟨by omega, by omega⟩, by omega, by omega⟩
  have ⟨_, _, a3, a4⟩ := vq_bd okc.1 okl okp
  have ⟨_, _, a5, a6⟩ := vq_bd okc.2.1 okl okp
  have ⟨_, _, a7, a8⟩ := vq_bd okc.2.2 okl okp
  have ⟨_, _, b3, b4⟩ := vq_bd okd.1 okl okp
  have ⟨_, _, b5, b6⟩ := vq_bd okd.2.1 okl okp
  have ⟨_, _, b7, b8⟩ := vq_bd okd.2.2 okl okp
  have ⟨A1b, A2b⟩ := Pl.fa_bd (vq x L T) (vq y L T) (vq z L T) 1048576 ⟨by omega, by omega⟩ ⟨by omega, by omega⟩ ⟨by omega, by omega⟩
  have ⟨B1b, B2b⟩ := Pl.fb_bd (vq y L T) (vq z L T) 1048576 ⟨by omega, by omega⟩ ⟨by omega, by omega⟩
  have ⟨C1b, C2b⟩ := Pl.fa_bd (vq (x - m) L T) (vq (y - m) L T) (vq (z - m) L T) 1048576 ⟨by omega, by omega⟩ ⟨by omega, by omega⟩ ⟨by omega, by omega⟩
  have ⟨D1b, D2b⟩ := Pl.fb_bd (vq (y - m) L T) (vq (z - m) L T) 1048576 ⟨by omega, by omega⟩ ⟨by omega, by omega⟩
  have nr' : Pl.fa (vq x L T) (vq y L T) (vq z L T) - Pl.fa (vq (x - m) L T) (vq (y - m) L T) (vq (z - m) L T) ≤ 3 ∧ Pl.fa (vq (x - m) L T) (vq (y - m) L T) (vq (z - m) L T) - Pl.fa (vq x L T) (vq y L T) (vq z L T) ≤ 3 ∧
      Pl.fb (vq y L T) (vq z L T) - Pl.fb (vq (y - m) L T) (vq (z - m) L T) ≤ 3 ∧ Pl.fb (vq (y - m) L T) (vq (z - m) L T) - Pl.fb (vq y L T) (vq z L T) ≤ 3 := nr
  clear nr a3 a4 a5 a6 a7 a8 b3 b4 b5 b6 b7 b8
  obtain ⟨a, ha⟩ : ∃ a, a = Pl.fa (vq x L T) (vq y L T) (vq z L T) := ⟨_, rfl⟩
  obtain ⟨b, hb⟩ : ∃ b, b = Pl.fb (vq y L T) (vq z L T) := ⟨_, rfl⟩
  obtain ⟨p, hp⟩ : ∃ p, p = Pl.fa (vq (x - m) L T) (vq (y - m) L T) (vq (z - m) L T) := ⟨_, rfl⟩
  obtain ⟨q, hq⟩ : ∃ q, q = Pl.fb (vq (y - m) L T) (vq (z - m) L T) := ⟨_, rfl⟩
  rw [← ha] at A1b A2b nr'
  rw [← hb] at B1b B2b nr'
  rw [← hp] at C1b C2b nr'
  rw [← hq] at D1b D2b nr'
  have mx : max (a - p) (max (p - a) (max (b - q) (q - b))) ≤ 3 := by omega
  have OKC := Lib.hid okc
  have OKP := Lib.hid okp
  have OKL := Lib.hid okl
  have OKD := Lib.hid okd
  have HM := Lib.hid hm
  have HA := Lib.hid ha
  have HB := Lib.hid hb
  have HP := Lib.hid hp
  have HQ := Lib.hid hq
  clear okc okp okl okd hm ha hb hp hq nr' g3
  go_enter Try.func10, Try.ntmps10
  go_wp2_with fail
  refine (awake21 _).mono ?_
  rintro e wa ⟨rfl, hxwa⟩
  have A := (Blk.new w [.int .i64 a0x, .int .i64 a0y, .int .i64 a0z] 25).ext hxwa
  go_wp2_with fail
  refine (fit21 0 0 a1 a2 _).mono ?_
  rw [← HL.out, ← HT.out]
  rintro e w1 ⟨rfl, hxw1⟩
  have A := A.ext hxw1
  have c0 := A.at 0 _ rfl
  have c1 := A.at 1 _ rfl
  have c2 := A.at 2 _ rfl
  have cf := A.fr
  have cn := A.lt
  go_wp2_with fail
  refine wp_loop_rounds 4 ?_
  rw [rounds_succ]
  go_wp2_with fail
  refine (clip_any a0x 0 T _).mono ?_
  rw [← Hx.out]
  rintro e wq ⟨rfl, rfl⟩
  go_wp2_with fail
  rw [rounds_succ]
  go_wp2_with fail
  refine (clip_any a0y 0 T _).mono ?_
  rw [← Hy.out]
  rintro e wq ⟨rfl, rfl⟩
  go_wp2_with fail
  rw [rounds_succ]
  go_wp2_with fail
  refine (clip_any a0z 0 T _).mono ?_
  rw [← Hz.out]
  rintro e wq ⟨rfl, rfl⟩
  go_wp2_with fail
  rw [rounds_succ]
  have A := ((A.set 0 (.int .i64 x) (by simp)).set 1 (.int .i64 y) (by simp)).set 2 (.int .i64 z) (by simp)
  go_wp2_with fail
  refine (flat_ok x y z T _ ⟨OKP.out, OKC.out⟩).mono ?_
  rw [← HM.out]
  rintro e w2 ⟨rfl, hxw2⟩
  have A : Blk _ _ [.int .i64 x, .int .i64 y, .int .i64 z] := A.ext hxw2
  have d0 := A.at 0 _ rfl
  have d1 := A.at 1 _ rfl
  have d2 := A.at 2 _ rfl
  have df := A.fr
  have dn := A.lt
  go_wp2_with fail
  refine (volts_ok x y z L T _ ⟨OKL.out, OKP.out, OKC.out⟩).mono ?_
  rw [← HA.out, ← HB.out]
  rintro e w3 ⟨rfl, hxw3⟩
  have D := (Blk.new w2 [.int .i64 (x - m), .int .i64 (y - m), .int .i64 (z - m)] 25).ext hxw3
  have A : Blk w3 w.heap.size [.int .i64 x, .int .i64 y, .int .i64 z] := (A.alloc _).ext hxw3
  have f0 := D.at 0 _ rfl
  have f1 := D.at 1 _ rfl
  have f2 := D.at 2 _ rfl
  have ff := D.fr
  have fn := D.lt
  have g0 := A.at 0 _ rfl
  have g1 := A.at 1 _ rfl
  have g2 := A.at 2 _ rfl
  have gf := A.fr
  have gn := A.lt
  go_wp2_with fail
  refine (volts_ok (x - m) (y - m) (z - m) L T _ ⟨OKL.out, OKP.out, OKD.out⟩).mono ?_
  rw [← HP.out, ← HQ.out]
  rintro e w4 ⟨rfl, hxw4⟩
  have D := D.ext hxw4
  have A := A.ext hxw4
  have r0 := D.at 0 _ rfl
  have r1 := D.at 1 _ rfl
  have r2 := D.at 2 _ rfl
  have rf := D.fr
  have rn := D.lt
  have s0 := A.at 0 _ rfl
  have s1 := A.at 1 _ rfl
  have s2 := A.at 2 _ rfl
  have sf := A.fr
  have sn := A.lt
  go_wp2_with fail
  go_ret
  exact ⟨(by first | rfl | exact ret_true (by simp <;> omega)), (by repeat (first | with_reducible exact Ext.refl _ | with_reducible assumption | (with_reducible refine Ext.drew ?_) | (with_reducible refine Ext.drewN ?_ _) | (with_reducible refine Ext.alloc ?_ _) | (with_reducible refine Ext.setCell ?_ ?_ _) | (with_reducible refine Ext.trans ?_ (by with_reducible assumption)) | omega | (focus (simp <;> omega))))⟩

theorem own : ownKnob Try.prog.godebug = none := by kernel_rfl
theorem laidOut : laidOutB Try.prog = true := by kernel_rfl

/-- The row's step: the walk's end is what the row asks. -/
theorem lifted (os : Os) (started : os.Started) (H : Type) (enc : TypeId × Value → H) :
    ReturnsInHanded {} Try.checked os 10 .any (Rows.vectorFlatSpec.pre6 enc Try.prog Try.f10 Rows.vectorFlatRow.domain false) (Rows.vectorFlatSpec.post enc Try.prog Try.f10 false true false false) := by
  refine returnsInHanded_of_change (C := Try.checked) own started (by kernel_rfl) Try.func10
    (ChangeSpec.witness6 (enc := enc) (C := Try.checked) false ⟨#[], #[.agg #[.int .i64 0, .int .i64 0, .int .i64 0], .int .i64 0, .int .i64 0], []⟩ 8 (by kernel_rfl) (by kernel_rfl) (by kernel_rfl) (by kernel_rfl)) ?_
  intro W base args ds gs before hval0 hW hcnd _
  have hval : ∀ (j : Nat) t v, Try.f10.params[j]? = some t → args[j]? = some v → Value.okWide Try.prog W .any base t v := hval0
  have hW' := hW
  obtain ⟨p, q, hA0, hV, rfl, hfz, hnd⟩ := hW
  have hA : DataW.TrodAll enc Try.prog W 0 (fun _ => true) true Try.f10.params.toList args.toList ds p := hA0
  rw [Try.params10] at hA hval
  obtain ⟨v0, vs0, d0, ds0, p0, q0, hargs, rfl, rfl, h0, r0⟩ := trodAll_cons hA
  obtain ⟨v1, vs1, d1, ds1, p1, q1, rfl, rfl, rfl, h1, r1⟩ := trodAll_cons r0
  obtain ⟨v2, vs2, d2, ds2, p2, q2, rfl, rfl, rfl, h2, r2⟩ := trodAll_cons r1
  obtain ⟨rfl, rfl, rfl⟩ := trodAll_nil r2
  obtain rfl : args = #[v0, v1, v2] := by cases args; simp_all
  obtain ⟨rfl, rfl⟩ := trodVars_none hV
  have lt0 : ∀ x ∈ p0, x.block < W.heap.size := by obtain ⟨m, hm⟩ := h0; exact DataW.trod_lt m _ _ _ hm
  obtain ⟨a0x, a0y, a0z, rfl, ba0x, ba0y, ba0z⟩ := open_arr3 (u := 3) Try.underlying25 (by kernel_rfl) (by kernel_rfl) (by kernel_rfl) (hval 0 25 v0 rfl rfl)
  have lt1 : ∀ x ∈ p1, x.block < W.heap.size := by obtain ⟨m, hm⟩ := h1; exact DataW.trod_lt m _ _ _ hm
  obtain ⟨a1, rfl, b1⟩ := open_i64 Try.underlying3 (hval 1 3 v1 rfl rfl)
  have lt2 : ∀ x ∈ p2, x.block < W.heap.size := by obtain ⟨m, hm⟩ := h2; exact DataW.trod_lt m _ _ _ hm
  obtain ⟨a2, rfl, b2⟩ := open_i64 Try.underlying3 (hval 2 3 v2 rfl rfl)
  clear hA0 hval0
  refine (walk a0x a0y a0z ba0x ba0y ba0z a1 b1 a2 b2 W).mono fun e W' ⟨he, bel0⟩ => ?_
  subst he
  have bel : Below W.heap.size W W' := bel0
  exact ⟨_, rfl, _, _, _, [], _, [], hW', trodAll_mk1 (shut_bool Try.underlying4 _), (trodAll_cons_mk (Below.trod laidOut (by kernel_rfl) (of_decide_eq_true (by kernel_rfl)) h0 bel lt0) (trodAll_cons_mk (Below.trod laidOut (by kernel_rfl) (of_decide_eq_true (by kernel_rfl)) h1 bel lt1) (trodAll_cons_mk (Below.trod laidOut (by kernel_rfl) (of_decide_eq_true (by kernel_rfl)) h2 bel lt2) trodAll_mk0))), rfl, bel.frame _, fun h => by cases h⟩

theorem over : Rows.vectorFlatRow.holds Try.pinned (OpenSpec.ofChange Rows.vectorFlatSpec) :=
  OpenClaim.holds_of_wide 10 Try.f10 rfl rfl rfl rfl rfl rfl rfl ⟨rfl, rfl, rfl, rfl, rfl⟩ rfl rfl rfl rfl rfl (by kernel_rfl) Try.func10 (by kernel_rfl)
    (of_decide_eq_true (by kernel_rfl)) (by unfold Func.isWrapper; first | (rw [if_pos (by decide +kernel)]; kernel_rfl) | (rw [if_neg (by decide +kernel)]; exact ⟨rfl, rfl⟩))
    (fun os started H enc _ => lifted os started H enc)

/-- The statement. -/
theorem proved : Rows.VectorFlatSaid := over
#print axioms proved
end Go.Proofs.Ytmifegcbhcgkfaa.vectorFlat
