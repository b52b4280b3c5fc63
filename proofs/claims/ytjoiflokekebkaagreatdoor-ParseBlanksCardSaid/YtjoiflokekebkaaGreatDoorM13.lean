/- Texts of this claim in one file: Q4, Q5. -/
import Derived.Test.YtjoiflokekebkaaGreatDoorM12
set_option linter.all false
section
/- Walks: tree.Same, of statements and items. -/
namespace Go.Proofs.YtjoiflokekebkaaGreatDoor
open Go.RowKit

set_option maxRecDepth 100000 in
set_option maxHeartbeats 4000000 in
theorem sArm_of (m : Nat) (ih : ∀ s s' : Stm, stSz s ≤ m → s.st = s'.st → SameC 68 Stm.d s s') (v b : ByteArray) (l l' : List Stm) (hm : stSzL l ≤ m) (hl : stL l = stL l') : SameC 131 Arm.d (.mk v b l) (.mk v b l') := by
  intro cs cs' W h h'
  obtain ⟨u, rfl, hu⟩ := Arm.open h
  obtain ⟨u', rfl, hu'⟩ := Arm.open h'
  have HI := Lib.hid ih
  obtain ⟨hl1, hl2⟩ := stL_get hl
  have HL := Lib.hid hl2
  have HN := Lib.hid hl1
  go_enter Tryz.func131, Tryz.ntmps131
  go_upto_region 1 with fail
  obtain ⟨hb, x0, x1⟩ := boxes2 (W := W) (t1 := 95) (t2 := 95) (c1 := #[.string v, .string b, u]) (c2 := #[.string v, .string b, u'])
  have S_0 := Lib.hid ((hu).bel hb)
  have Z_0 := Lib.hid ((hu').bel hb)
  have HB0 := Lib.hid hb
  have X0 := Lib.hid x0
  have Y0 := Lib.hid x1
  clear hb x0 x1 ih h h' hu hu' hl hl1 hl2
  generalize (W.alloc (.cells #[.string v, .string b, u] 95)).alloc (.cells #[.string v, .string b, u'] 95) = w_0 at *
  generalize hgW : W.heap.size = g at *
  have HG := Lib.hid hgW
  clear hgW
  obtain ⟨l0, q0, f0⟩ := X0.out.see
  obtain ⟨l1, q1, f1⟩ := Y0.out.see
  go_wp2_with fail
  refine (rowStmt_same l l' u u' 68 w_0 S_0.out Z_0.out (enters_of Tryz.func68 (by kernel_rfl) rfl) HN.out (fun i x y hx hy => HI.out x y (by have := stSz_mem hx; omega) (HL.out i x y hx hy))).mono ?_
  rintro e w_1 ⟨rfl, hb⟩
  have S_1 := Lib.hid (S_0.out.bel hb)
  have Z_1 := Lib.hid (Z_0.out.bel hb)
  have HB1 := Lib.hid (bel_to HB0.out (by omega) hb)
  have X1 := Lib.hid (X0.out.below hb)
  have Y1 := Lib.hid (Y0.out.below hb)
  clear hb l0 q0 f0 l1 q1 f1 HB0 X0 Y0 S_0 Z_0
  obtain ⟨l0, q0, f0⟩ := X1.out.see
  obtain ⟨l1, q1, f1⟩ := Y1.out.see
  go_wp2_with fail
  go_ret
  exact ⟨rfl, by rw [HG.out]; exact HB1.out⟩
set_option maxRecDepth 100000 in
set_option maxHeartbeats 4000000 in
theorem sStmt_fuel : ∀ (m : Nat) (s s' : Stm), stSz s ≤ m → s.st = s'.st → SameC 68 Stm.d s s' := by
  intro m
  induction m with
  | zero => intro s s' hm; cases s; rw [stSz] at hm; omega
  | succ m ih =>
    intro s s' hm hst cs cs' W h h'
    obtain ⟨k, a, n, t, p, rv, op, th, el, arms⟩ := s
    obtain ⟨k', a', n', t', p', rv', op', th', el', arms'⟩ := s'
    simp only [Stm.st, Stm.mk.injEq, true_and] at hst
    obtain ⟨rfl, rfl, rfl, rfl, rfl, rfl, e1, e2, e3⟩ := hst
    rw [stSz] at hm
    have HI := Lib.hid ih
    have H1 := Lib.hid (stL_get e1)
    have H2 := Lib.hid (stL_get e2)
    have H3 := Lib.hid (stA_get e3)
    obtain ⟨ut, up, uo, urp, uop, u1, u2, u3, rfl, a1, a2, a3, a4, a5, a6, a7⟩ := Stm.open h
    obtain ⟨vt, vp, vo, vrp, vop, v1, v2, v3, rfl, b1, b2, b3, b4, b5, b6, b7⟩ := Stm.open h'
    go_enter Tryz.func68, Tryz.ntmps68
    go_upto_region 1 with fail
    obtain ⟨hb, x0, x1⟩ := boxes2 (W := W) (t1 := 60) (t2 := 60) (c1 := #[.int .i64 k, .int .i64 a, .string n, .int .i64 t.k, .string t.n, ut, .string p.n, up, .int .i64 rv.k, uo, .string rv.p.n, urp, .string rv.n, .string rv.v, .bool op.num, .int .i64 op.n, .string op.p.n, uop, u1, u2, u3]) (c2 := #[.int .i64 k, .int .i64 a', .string n, .int .i64 t.k, .string t.n, vt, .string p.n, vp, .int .i64 rv.k, vo, .string rv.p.n, vrp, .string rv.n, .string rv.v, .bool op.num, .int .i64 op.n, .string op.p.n, vop, v1, v2, v3])
    have S0_0 := Lib.hid ((a1).below hb)
    have Z0_0 := Lib.hid ((b1).below hb)
    have S1_0 := Lib.hid ((a2).below hb)
    have Z1_0 := Lib.hid ((b2).below hb)
    have S2_0 := Lib.hid ((a3).below hb)
    have Z2_0 := Lib.hid ((b3).below hb)
    have S3_0 := Lib.hid ((a4).below hb)
    have Z3_0 := Lib.hid ((b4).below hb)
    have S4_0 := Lib.hid ((a5).bel hb)
    have Z4_0 := Lib.hid ((b5).bel hb)
    have S5_0 := Lib.hid ((a6).bel hb)
    have Z5_0 := Lib.hid ((b6).bel hb)
    have S6_0 := Lib.hid ((a7).bel hb)
    have Z6_0 := Lib.hid ((b7).bel hb)
    have HB0 := Lib.hid hb
    have X0 := Lib.hid x0
    have Y0 := Lib.hid x1
    clear hb x0 x1 ih h h' e1 e2 e3 a1 a2 a3 a4 a5 a6 a7 b1 b2 b3 b4 b5 b6 b7
    generalize (W.alloc (.cells #[.int .i64 k, .int .i64 a, .string n, .int .i64 t.k, .string t.n, ut, .string p.n, up, .int .i64 rv.k, uo, .string rv.p.n, urp, .string rv.n, .string rv.v, .bool op.num, .int .i64 op.n, .string op.p.n, uop, u1, u2, u3] 60)).alloc (.cells #[.int .i64 k, .int .i64 a', .string n, .int .i64 t.k, .string t.n, vt, .string p.n, vp, .int .i64 rv.k, vo, .string rv.p.n, vrp, .string rv.n, .string rv.v, .bool op.num, .int .i64 op.n, .string op.p.n, vop, v1, v2, v3] 60) = w_0 at *
    generalize hgW : W.heap.size = g at *
    have HG := Lib.hid hgW
    clear hgW
    obtain ⟨l0, q0, f0⟩ := X0.out.see
    obtain ⟨l1, q1, f1⟩ := Y0.out.see
    go_wp2_with fail
    refine (sTy_any t _ _ w_0 S0_0.out Z0_0.out).mono ?_
    rintro e w_1 ⟨rfl, hb⟩
    have S0_1 := Lib.hid (S0_0.out.below hb)
    have Z0_1 := Lib.hid (Z0_0.out.below hb)
    have S1_1 := Lib.hid (S1_0.out.below hb)
    have Z1_1 := Lib.hid (Z1_0.out.below hb)
    have S2_1 := Lib.hid (S2_0.out.below hb)
    have Z2_1 := Lib.hid (Z2_0.out.below hb)
    have S3_1 := Lib.hid (S3_0.out.below hb)
    have Z3_1 := Lib.hid (Z3_0.out.below hb)
    have S4_1 := Lib.hid (S4_0.out.bel hb)
    have Z4_1 := Lib.hid (Z4_0.out.bel hb)
    have S5_1 := Lib.hid (S5_0.out.bel hb)
    have Z5_1 := Lib.hid (Z5_0.out.bel hb)
    have S6_1 := Lib.hid (S6_0.out.bel hb)
    have Z6_1 := Lib.hid (Z6_0.out.bel hb)
    have HB1 := Lib.hid (bel_to HB0.out (by omega) hb)
    have X1 := Lib.hid (X0.out.below hb)
    have Y1 := Lib.hid (Y0.out.below hb)
    clear hb l0 q0 f0 l1 q1 f1 HB0 X0 Y0 S0_0 Z0_0 S1_0 Z1_0 S2_0 Z2_0 S3_0 Z3_0 S4_0 Z4_0 S5_0 Z5_0 S6_0 Z6_0
    obtain ⟨l0, q0, f0⟩ := X1.out.see
    obtain ⟨l1, q1, f1⟩ := Y1.out.see
    go_wp2_with fail
    refine (sPlace_any p _ _ w_1 S1_1.out Z1_1.out).mono ?_
    rintro e w_2 ⟨rfl, hb⟩
    have S0_2 := Lib.hid (S0_1.out.below hb)
    have Z0_2 := Lib.hid (Z0_1.out.below hb)
    have S1_2 := Lib.hid (S1_1.out.below hb)
    have Z1_2 := Lib.hid (Z1_1.out.below hb)
    have S2_2 := Lib.hid (S2_1.out.below hb)
    have Z2_2 := Lib.hid (Z2_1.out.below hb)
    have S3_2 := Lib.hid (S3_1.out.below hb)
    have Z3_2 := Lib.hid (Z3_1.out.below hb)
    have S4_2 := Lib.hid (S4_1.out.bel hb)
    have Z4_2 := Lib.hid (Z4_1.out.bel hb)
    have S5_2 := Lib.hid (S5_1.out.bel hb)
    have Z5_2 := Lib.hid (Z5_1.out.bel hb)
    have S6_2 := Lib.hid (S6_1.out.bel hb)
    have Z6_2 := Lib.hid (Z6_1.out.bel hb)
    have HB2 := Lib.hid (bel_to HB1.out (by omega) hb)
    have X2 := Lib.hid (X1.out.below hb)
    have Y2 := Lib.hid (Y1.out.below hb)
    clear hb l0 q0 f0 l1 q1 f1 HB1 X1 Y1 S0_1 Z0_1 S1_1 Z1_1 S2_1 Z2_1 S3_1 Z3_1 S4_1 Z4_1 S5_1 Z5_1 S6_1 Z6_1
    obtain ⟨l0, q0, f0⟩ := X2.out.see
    obtain ⟨l1, q1, f1⟩ := Y2.out.see
    go_wp2_with fail
    refine (sRv_any rv _ _ w_2 S2_2.out Z2_2.out).mono ?_
    rintro e w_3 ⟨rfl, hb⟩
    have S0_3 := Lib.hid (S0_2.out.below hb)
    have Z0_3 := Lib.hid (Z0_2.out.below hb)
    have S1_3 := Lib.hid (S1_2.out.below hb)
    have Z1_3 := Lib.hid (Z1_2.out.below hb)
    have S2_3 := Lib.hid (S2_2.out.below hb)
    have Z2_3 := Lib.hid (Z2_2.out.below hb)
    have S3_3 := Lib.hid (S3_2.out.below hb)
    have Z3_3 := Lib.hid (Z3_2.out.below hb)
    have S4_3 := Lib.hid (S4_2.out.bel hb)
    have Z4_3 := Lib.hid (Z4_2.out.bel hb)
    have S5_3 := Lib.hid (S5_2.out.bel hb)
    have Z5_3 := Lib.hid (Z5_2.out.bel hb)
    have S6_3 := Lib.hid (S6_2.out.bel hb)
    have Z6_3 := Lib.hid (Z6_2.out.bel hb)
    have HB3 := Lib.hid (bel_to HB2.out (by omega) hb)
    have X3 := Lib.hid (X2.out.below hb)
    have Y3 := Lib.hid (Y2.out.below hb)
    clear hb l0 q0 f0 l1 q1 f1 HB2 X2 Y2 S0_2 Z0_2 S1_2 Z1_2 S2_2 Z2_2 S3_2 Z3_2 S4_2 Z4_2 S5_2 Z5_2 S6_2 Z6_2
    obtain ⟨l0, q0, f0⟩ := X3.out.see
    obtain ⟨l1, q1, f1⟩ := Y3.out.see
    go_wp2_with fail
    refine (sOper_any op _ _ w_3 S3_3.out Z3_3.out).mono ?_
    rintro e w_4 ⟨rfl, hb⟩
    have S0_4 := Lib.hid (S0_3.out.below hb)
    have Z0_4 := Lib.hid (Z0_3.out.below hb)
    have S1_4 := Lib.hid (S1_3.out.below hb)
    have Z1_4 := Lib.hid (Z1_3.out.below hb)
    have S2_4 := Lib.hid (S2_3.out.below hb)
    have Z2_4 := Lib.hid (Z2_3.out.below hb)
    have S3_4 := Lib.hid (S3_3.out.below hb)
    have Z3_4 := Lib.hid (Z3_3.out.below hb)
    have S4_4 := Lib.hid (S4_3.out.bel hb)
    have Z4_4 := Lib.hid (Z4_3.out.bel hb)
    have S5_4 := Lib.hid (S5_3.out.bel hb)
    have Z5_4 := Lib.hid (Z5_3.out.bel hb)
    have S6_4 := Lib.hid (S6_3.out.bel hb)
    have Z6_4 := Lib.hid (Z6_3.out.bel hb)
    have HB4 := Lib.hid (bel_to HB3.out (by omega) hb)
    have X4 := Lib.hid (X3.out.below hb)
    have Y4 := Lib.hid (Y3.out.below hb)
    clear hb l0 q0 f0 l1 q1 f1 HB3 X3 Y3 S0_3 Z0_3 S1_3 Z1_3 S2_3 Z2_3 S3_3 Z3_3 S4_3 Z4_3 S5_3 Z5_3 S6_3 Z6_3
    obtain ⟨l0, q0, f0⟩ := X4.out.see
    obtain ⟨l1, q1, f1⟩ := Y4.out.see
    go_wp2_with fail
    refine (rowStmt_same th th' u1 v1 68 w_4 S4_4.out Z4_4.out (enters_of Tryz.func68 (by kernel_rfl) rfl) H1.out.1 (fun i x y hx hy => HI.out x y (by have := stSz_mem hx; omega) (H1.out.2 i x y hx hy))).mono ?_
    rintro e w_5 ⟨rfl, hb⟩
    have S0_5 := Lib.hid (S0_4.out.below hb)
    have Z0_5 := Lib.hid (Z0_4.out.below hb)
    have S1_5 := Lib.hid (S1_4.out.below hb)
    have Z1_5 := Lib.hid (Z1_4.out.below hb)
    have S2_5 := Lib.hid (S2_4.out.below hb)
    have Z2_5 := Lib.hid (Z2_4.out.below hb)
    have S3_5 := Lib.hid (S3_4.out.below hb)
    have Z3_5 := Lib.hid (Z3_4.out.below hb)
    have S4_5 := Lib.hid (S4_4.out.bel hb)
    have Z4_5 := Lib.hid (Z4_4.out.bel hb)
    have S5_5 := Lib.hid (S5_4.out.bel hb)
    have Z5_5 := Lib.hid (Z5_4.out.bel hb)
    have S6_5 := Lib.hid (S6_4.out.bel hb)
    have Z6_5 := Lib.hid (Z6_4.out.bel hb)
    have HB5 := Lib.hid (bel_to HB4.out (by omega) hb)
    have X5 := Lib.hid (X4.out.below hb)
    have Y5 := Lib.hid (Y4.out.below hb)
    clear hb l0 q0 f0 l1 q1 f1 HB4 X4 Y4 S0_4 Z0_4 S1_4 Z1_4 S2_4 Z2_4 S3_4 Z3_4 S4_4 Z4_4 S5_4 Z5_4 S6_4 Z6_4
    obtain ⟨l0, q0, f0⟩ := X5.out.see
    obtain ⟨l1, q1, f1⟩ := Y5.out.see
    go_wp2_with fail
    refine (rowStmt_same el el' u2 v2 68 w_5 S5_5.out Z5_5.out (enters_of Tryz.func68 (by kernel_rfl) rfl) H2.out.1 (fun i x y hx hy => HI.out x y (by have := stSz_mem hx; omega) (H2.out.2 i x y hx hy))).mono ?_
    rintro e w_6 ⟨rfl, hb⟩
    have S0_6 := Lib.hid (S0_5.out.below hb)
    have Z0_6 := Lib.hid (Z0_5.out.below hb)
    have S1_6 := Lib.hid (S1_5.out.below hb)
    have Z1_6 := Lib.hid (Z1_5.out.below hb)
    have S2_6 := Lib.hid (S2_5.out.below hb)
    have Z2_6 := Lib.hid (Z2_5.out.below hb)
    have S3_6 := Lib.hid (S3_5.out.below hb)
    have Z3_6 := Lib.hid (Z3_5.out.below hb)
    have S4_6 := Lib.hid (S4_5.out.bel hb)
    have Z4_6 := Lib.hid (Z4_5.out.bel hb)
    have S5_6 := Lib.hid (S5_5.out.bel hb)
    have Z5_6 := Lib.hid (Z5_5.out.bel hb)
    have S6_6 := Lib.hid (S6_5.out.bel hb)
    have Z6_6 := Lib.hid (Z6_5.out.bel hb)
    have HB6 := Lib.hid (bel_to HB5.out (by omega) hb)
    have X6 := Lib.hid (X5.out.below hb)
    have Y6 := Lib.hid (Y5.out.below hb)
    clear hb l0 q0 f0 l1 q1 f1 HB5 X5 Y5 S0_5 Z0_5 S1_5 Z1_5 S2_5 Z2_5 S3_5 Z3_5 S4_5 Z4_5 S5_5 Z5_5 S6_5 Z6_5
    obtain ⟨l0, q0, f0⟩ := X6.out.see
    obtain ⟨l1, q1, f1⟩ := Y6.out.see
    go_wp2_with fail
    refine (rowArm_same arms arms' u3 v3 131 w_6 S6_6.out Z6_6.out (enters_of Tryz.func131 (by kernel_rfl) rfl) H3.out.1 (fun i x y hx hy => by obtain ⟨xv, xb, xl⟩ := x; obtain ⟨yv, yb, yl⟩ := y; have h9 := H3.out.2 i _ _ hx hy; simp only [Arm.st, Arm.mk.injEq] at h9; obtain ⟨rfl, rfl, h9⟩ := h9; exact sArm_of m HI.out xv xb xl yl (by have := arSz_mem hx; omega) h9)).mono ?_
    rintro e w_7 ⟨rfl, hb⟩
    have S0_7 := Lib.hid (S0_6.out.below hb)
    have Z0_7 := Lib.hid (Z0_6.out.below hb)
    have S1_7 := Lib.hid (S1_6.out.below hb)
    have Z1_7 := Lib.hid (Z1_6.out.below hb)
    have S2_7 := Lib.hid (S2_6.out.below hb)
    have Z2_7 := Lib.hid (Z2_6.out.below hb)
    have S3_7 := Lib.hid (S3_6.out.below hb)
    have Z3_7 := Lib.hid (Z3_6.out.below hb)
    have S4_7 := Lib.hid (S4_6.out.bel hb)
    have Z4_7 := Lib.hid (Z4_6.out.bel hb)
    have S5_7 := Lib.hid (S5_6.out.bel hb)
    have Z5_7 := Lib.hid (Z5_6.out.bel hb)
    have S6_7 := Lib.hid (S6_6.out.bel hb)
    have Z6_7 := Lib.hid (Z6_6.out.bel hb)
    have HB7 := Lib.hid (bel_to HB6.out (by omega) hb)
    have X7 := Lib.hid (X6.out.below hb)
    have Y7 := Lib.hid (Y6.out.below hb)
    clear hb l0 q0 f0 l1 q1 f1 HB6 X6 Y6 S0_6 Z0_6 S1_6 Z1_6 S2_6 Z2_6 S3_6 Z3_6 S4_6 Z4_6 S5_6 Z5_6 S6_6 Z6_6
    obtain ⟨l0, q0, f0⟩ := X7.out.see
    obtain ⟨l1, q1, f1⟩ := Y7.out.see
    go_wp2_with fail
    go_ret
    exact ⟨rfl, by rw [HG.out]; exact HB7.out⟩
theorem sStmt_any {s s' : Stm} (h : s.st = s'.st) : SameC 68 Stm.d s s' := sStmt_fuel _ s s' (Nat.le_refl _) h
set_option maxRecDepth 100000 in
set_option maxHeartbeats 4000000 in
theorem sStr_any {x y : Str} (hst : x.st = y.st) : SameC 59 Str.d x y := by
  intro cs cs' W h h'
  obtain ⟨n, d, fs, a⟩ := x
  obtain ⟨n', d', fs', a'⟩ := y
  simp only [Str.st, Str.mk.injEq, and_true] at hst
  obtain ⟨rfl, rfl, rfl⟩ := hst
  obtain ⟨u, rfl, hu⟩ := Str.open h
  obtain ⟨u', rfl, hu'⟩ := Str.open h'
  dsimp only at hu hu' ⊢
  go_enter Tryz.func59, Tryz.ntmps59
  go_upto_region 1 with fail
  obtain ⟨hb, x0, x1⟩ := boxes2 (W := W) (t1 := 75) (t2 := 75) (c1 := #[.string n, .bool d, u, .int .i64 a]) (c2 := #[.string n, .bool d, u', .int .i64 a'])
  have S_0 := Lib.hid ((hu).bel hb)
  have Z_0 := Lib.hid ((hu').bel hb)
  have HB0 := Lib.hid hb
  have X0 := Lib.hid x0
  have Y0 := Lib.hid x1
  clear hb x0 x1 h h' hu hu'
  generalize (W.alloc (.cells #[.string n, .bool d, u, .int .i64 a] 75)).alloc (.cells #[.string n, .bool d, u', .int .i64 a'] 75) = w_0 at *
  generalize hgW : W.heap.size = g at *
  have HG := Lib.hid hgW
  clear hgW
  obtain ⟨l0, q0, f0⟩ := X0.out.see
  obtain ⟨l1, q1, f1⟩ := Y0.out.see
  go_wp2_with fail
  refine (rowField_same fs fs u u' 61 w_0 S_0.out Z_0.out (enters_of Tryz.func61 (by kernel_rfl) rfl) rfl (fun i x y hx hy => by rw [hx] at hy; injection hy with hy; subst hy; exact sField_any x)).mono ?_
  rintro e w_1 ⟨rfl, hb⟩
  have S_1 := Lib.hid (S_0.out.bel hb)
  have Z_1 := Lib.hid (Z_0.out.bel hb)
  have HB1 := Lib.hid (bel_to HB0.out (by omega) hb)
  have X1 := Lib.hid (X0.out.below hb)
  have Y1 := Lib.hid (Y0.out.below hb)
  clear hb l0 q0 f0 l1 q1 f1 HB0 X0 Y0 S_0 Z_0
  obtain ⟨l0, q0, f0⟩ := X1.out.see
  obtain ⟨l1, q1, f1⟩ := Y1.out.see
  go_wp2_with fail
  go_ret
  exact ⟨rfl, by rw [HG.out]; exact HB1.out⟩
set_option maxRecDepth 100000 in
set_option maxHeartbeats 4000000 in
theorem sFnc_any {x y : Fnc} (hst : x.st = y.st) : SameC 66 Fnc.d x y := by
  intro cs cs' W h h'
  obtain ⟨n, fs, b, a⟩ := x
  obtain ⟨n', fs', b', a'⟩ := y
  simp only [Fnc.st, Fnc.mk.injEq, and_true] at hst
  obtain ⟨rfl, rfl, e1⟩ := hst
  have H1 := Lib.hid (stL_get e1)
  obtain ⟨u, v, rfl, hu, hv⟩ := Fnc.open h
  obtain ⟨u', v', rfl, hu', hv'⟩ := Fnc.open h'
  dsimp only at hu hu' hv hv' ⊢
  go_enter Tryz.func66, Tryz.ntmps66
  go_upto_region 1 with fail
  obtain ⟨hb, x0, x1⟩ := boxes2 (W := W) (t1 := 50) (t2 := 50) (c1 := #[.string n, u, v, .int .i64 a]) (c2 := #[.string n, u', v', .int .i64 a'])
  have S_0 := Lib.hid ((hu).bel hb)
  have Z_0 := Lib.hid ((hu').bel hb)
  have U_0 := Lib.hid ((hv).bel hb)
  have V_0 := Lib.hid ((hv').bel hb)
  have HB0 := Lib.hid hb
  have X0 := Lib.hid x0
  have Y0 := Lib.hid x1
  clear hb x0 x1 h h' hu hu' hv hv' e1
  generalize (W.alloc (.cells #[.string n, u, v, .int .i64 a] 50)).alloc (.cells #[.string n, u', v', .int .i64 a'] 50) = w_0 at *
  generalize hgW : W.heap.size = g at *
  have HG := Lib.hid hgW
  clear hgW
  obtain ⟨l0, q0, f0⟩ := X0.out.see
  obtain ⟨l1, q1, f1⟩ := Y0.out.see
  go_wp2_with fail
  refine (rowField_same fs fs u u' 61 w_0 S_0.out Z_0.out (enters_of Tryz.func61 (by kernel_rfl) rfl) rfl (fun i x y hx hy => by rw [hx] at hy; injection hy with hy; subst hy; exact sField_any x)).mono ?_
  rintro e w_1 ⟨rfl, hb⟩
  have S_1 := Lib.hid (S_0.out.bel hb)
  have Z_1 := Lib.hid (Z_0.out.bel hb)
  have U_1 := Lib.hid (U_0.out.bel hb)
  have V_1 := Lib.hid (V_0.out.bel hb)
  have HB1 := Lib.hid (bel_to HB0.out (by omega) hb)
  have X1 := Lib.hid (X0.out.below hb)
  have Y1 := Lib.hid (Y0.out.below hb)
  clear hb l0 q0 f0 l1 q1 f1 HB0 X0 Y0 S_0 Z_0 U_0 V_0
  obtain ⟨l0, q0, f0⟩ := X1.out.see
  obtain ⟨l1, q1, f1⟩ := Y1.out.see
  go_wp2_with fail
  refine (rowStmt_same b b' v v' 68 w_1 U_1.out V_1.out (enters_of Tryz.func68 (by kernel_rfl) rfl) H1.out.1 (fun i x y hx hy => sStmt_any (H1.out.2 i x y hx hy))).mono ?_
  rintro e w_2 ⟨rfl, hb⟩
  have S_2 := Lib.hid (S_1.out.bel hb)
  have Z_2 := Lib.hid (Z_1.out.bel hb)
  have U_2 := Lib.hid (U_1.out.bel hb)
  have V_2 := Lib.hid (V_1.out.bel hb)
  have HB2 := Lib.hid (bel_to HB1.out (by omega) hb)
  have X2 := Lib.hid (X1.out.below hb)
  have Y2 := Lib.hid (Y1.out.below hb)
  clear hb l0 q0 f0 l1 q1 f1 HB1 X1 Y1 S_1 Z_1 U_1 V_1
  obtain ⟨l0, q0, f0⟩ := X2.out.see
  obtain ⟨l1, q1, f1⟩ := Y2.out.see
  go_wp2_with fail
  go_ret
  exact ⟨rfl, by rw [HG.out]; exact HB2.out⟩
end Go.Proofs.YtjoiflokekebkaaGreatDoor
end

section
/- Walks: tree.Same. -/
namespace Go.Proofs.YtjoiflokekebkaaGreatDoor
open Go.RowKit

theorem run_store_func {P : Program} {w : World} {ad : Addr} {m : Mode} (fn : Fn) (x y : Array Value) : (store ad (.func fn x y) m).run P w = stored P w ad (.func fn x y) m := run_store P w ad _ m rfl
attribute [local go_sem] run_store_func
def Cel (W : World) (a : Addr) (x : Value) : Prop := W.cell? a = some x
theorem Cel.bel {W W' : World} {a : Addr} {x : Value} (h : Cel W a x) (hb : Below W.heap.size W W') : Cel W' a x := (World.cell?_of_block (hb.block _ (World.block_lt_of_cell? W _ h))).trans h
set_option maxRecDepth 100000 in
set_option maxHeartbeats 4000000 in
theorem sEnm_any {x y : Enm} (hst : x.st = y.st) (m : Nat) (cs cs' : List Value) (W : World) (hc : Cel W ⟨m, 0, none⟩ (.func (.func 62) #[] #[])) (h : Sees W cs x.d) (h' : Sees W cs' y.d) :
    Calls Tryz.prog 64 (#[.agg cs.toArray, .agg cs'.toArray] ++ #[.pointer (some ⟨m, 0, none⟩)]) W fun e w' => e = .returned (.bool true) ∧ Below W.heap.size W w' := by
  obtain ⟨n, fs, a⟩ := x
  obtain ⟨n', fs', a'⟩ := y
  simp only [Enm.st, Enm.mk.injEq, and_true] at hst
  obtain ⟨rfl, rfl⟩ := hst
  obtain ⟨u, rfl, hu⟩ := Enm.open h
  obtain ⟨u', rfl, hu'⟩ := Enm.open h'
  dsimp only at hu hu' ⊢
  simp only [List.append_toArray, List.cons_append, List.nil_append]
  go_enter Tryz.func64, Tryz.ntmps64
  go_upto_region 1 with fail
  obtain ⟨hb, x0, x1⟩ := boxes2 (W := W) (t1 := 85) (t2 := 85) (c1 := #[.string n, u, .int .i64 a]) (c2 := #[.string n, u', .int .i64 a'])
  have S_0 := Lib.hid ((hu).bel hb)
  have Z_0 := Lib.hid ((hu').bel hb)
  have K_0 := Lib.hid ((hc).bel hb)
  have HB0 := Lib.hid hb
  have X0 := Lib.hid x0
  have Y0 := Lib.hid x1
  clear hb x0 x1 h h' hu hu' hc
  generalize (W.alloc (.cells #[.string n, u, .int .i64 a] 85)).alloc (.cells #[.string n, u', .int .i64 a'] 85) = w_0 at *
  generalize hgW : W.heap.size = g at *
  have HG := Lib.hid hgW
  clear hgW
  obtain ⟨l0, q0, f0⟩ := X0.out.see
  obtain ⟨l1, q1, f1⟩ := Y0.out.see
  have kc : w_0.cell? ⟨m, 0, none⟩ = some (.func (.func 62) #[] #[]) := K_0.out
  go_wp2_with fail
  refine (rowVariant_same fs fs u u' 62 w_0 S_0.out Z_0.out (enters_of Tryz.func62 (by kernel_rfl) rfl) rfl (fun i x y hx hy => by rw [hx] at hy; injection hy with hy; subst hy; exact sVar_any x)).mono ?_
  rintro e w_1 ⟨rfl, hb⟩
  have S_1 := Lib.hid (S_0.out.bel hb)
  have Z_1 := Lib.hid (Z_0.out.bel hb)
  have K_1 := Lib.hid (K_0.out.bel hb)
  have HB1 := Lib.hid (bel_to HB0.out (by omega) hb)
  have X1 := Lib.hid (X0.out.below hb)
  have Y1 := Lib.hid (Y0.out.below hb)
  clear hb l0 q0 f0 l1 q1 f1 HB0 X0 Y0 S_0 Z_0 K_0
  obtain ⟨l0, q0, f0⟩ := X1.out.see
  obtain ⟨l1, q1, f1⟩ := Y1.out.see
  go_wp2_with fail
  go_ret
  exact ⟨rfl, by rw [HG.out]; exact HB1.out⟩
theorem map_get {α β : Type} {f : α → β} {l l' : List α} (h : l.map f = l'.map f) : l.length = l'.length ∧ ∀ (i : Nat) (x y : α), l[i]? = some x → l'[i]? = some y → f x = f y := by
  refine ⟨by simpa using congrArg List.length h, fun i x y hx hy => ?_⟩
  have := congrArg (fun r => r[i]?) h
  simp only [List.getElem?_map, hx, hy, Option.map_some] at this
  injection this
set_option maxRecDepth 100000 in
set_option maxHeartbeats 4000000 in
theorem same_any {s s' : Src} (hst : s.st = s'.st) (cs cs' : List Value) (W : World) (h : Sees W cs s.d) (h' : Sees W cs' s'.d) :
    Calls Tryz.prog 28 #[.agg cs.toArray, .agg cs'.toArray] W fun e w' => e = .returned (.bool true) ∧ Below W.heap.size W w' := by
  obtain ⟨u, v, z, rfl, hu, hv, hz⟩ := Src.open h
  obtain ⟨u', v', z', rfl, hu', hv', hz'⟩ := Src.open h'
  have hmf : ∀ (fn : Fn) (first cap : Array Value) (w : World), (Instr.makeFunc fn first cap).run Tryz.prog w = .ok (.func fn first cap) w := fun _ _ _ _ => rfl
  go_enter Tryz.func28, Tryz.ntmps28
  go_upto_region 5 with fail
  obtain ⟨hb, x0, x1, x2⟩ := boxes3 (W := W) (t1 := 26) (t2 := 26) (t3 := 128) (c1 := #[u, v, z]) (c2 := #[u', v', z']) (c3 := #[.func (.func 62) #[] #[]])
  have M0 : Hid (s.ss.length = s'.ss.length ∧ ∀ (i : Nat) (x y : Str), s.ss[i]? = some x → s'.ss[i]? = some y → x.st = y.st) := Lib.hid (map_get (congrArg Src.ss hst))
  have M1 : Hid (s.es.length = s'.es.length ∧ ∀ (i : Nat) (x y : Enm), s.es[i]? = some x → s'.es[i]? = some y → x.st = y.st) := Lib.hid (map_get (congrArg Src.es hst))
  have M2 : Hid (s.fs.length = s'.fs.length ∧ ∀ (i : Nat) (x y : Fnc), s.fs[i]? = some x → s'.fs[i]? = some y → x.st = y.st) := Lib.hid (map_get (congrArg Src.fs hst))
  have U0 := Lib.hid (hu.bel hb)
  have U1 := Lib.hid (hu'.bel hb)
  have V0 := Lib.hid (hv.bel hb)
  have V1 := Lib.hid (hv'.bel hb)
  have Z0 := Lib.hid (hz.bel hb)
  have Z1 := Lib.hid (hz'.bel hb)
  have HB := Lib.hid hb
  have X0 := Lib.hid x0
  have X1 := Lib.hid x1
  have X2 := Lib.hid x2
  clear hu hu' hv hv' hz hz' hb x0 x1 x2 h h' hst
  generalize ((W.alloc (.cells #[u, v, z] 26)).alloc (.cells #[u', v', z'] 26)).alloc (.cells #[.func (.func 62) #[] #[]] 128) = w1 at *
  generalize hgW : W.heap.size = g at *
  have HG := Lib.hid hgW
  clear hgW
  obtain ⟨l0, q0, f0⟩ := X0.out.see
  obtain ⟨l1, q1, f1⟩ := X1.out.see
  go_wp2_with fail
  refine (rowStruct_same s.ss s'.ss u u' 59 w1 U0.out U1.out (enters_of Tryz.func59 (by kernel_rfl) rfl) M0.out.1 (fun i x y hx hy => sStr_any (M0.out.2 i x y hx hy))).mono ?_
  rintro e w2 ⟨rfl, hb⟩
  have HB2 := Lib.hid (bel_to HB.out (by omega) hb)
  have Y0 := Lib.hid (X0.out.below hb)
  have Y1 := Lib.hid (X1.out.below hb)
  have Y2 : Hid (Cel w2 ⟨g + 1 + 1, 0, none⟩ (.func (.func 62) #[] #[])) := Lib.hid (blk_cell (X2.out.below hb) 0)
  have V0' := Lib.hid (V0.out.bel hb)
  have V1' := Lib.hid (V1.out.bel hb)
  have Z0' := Lib.hid (Z0.out.bel hb)
  have Z1' := Lib.hid (Z1.out.bel hb)
  clear hb l0 q0 f0 l1 q1 f1 HB X0 X1 X2 U0 U1 V0 V1 Z0 Z1
  obtain ⟨l0, q0, f0⟩ := Y0.out.see
  obtain ⟨l1, q1, f1⟩ := Y1.out.see
  go_wp2_with fail
  refine ((equalEnum_any s.es s'.es v v' (fun _ _ => true) 64 #[.pointer (some ⟨g + 1 + 1, 0, none⟩)] w2 V0'.out V1'.out (enters_of Tryz.func64 (by kernel_rfl) rfl) (fun i x y cs cs' w hx hy hbw h h' => sEnm_any (M1.out.2 i x y hx hy) _ cs cs' w (Y2.out.bel hbw) h h')).mono (fun e w' h => (⟨by rw [h.1, eqL_true M1.out.1], h.2⟩ : e = .returned (.bool true) ∧ Below w2.heap.size w2 w'))).mono ?_
  rintro e w3 ⟨rfl, hb⟩
  have HB3 := Lib.hid (bel_to HB2.out (by omega) hb)
  have T0 := Lib.hid (Y0.out.below hb)
  have T1 := Lib.hid (Y1.out.below hb)
  have R0 := Lib.hid (Z0'.out.bel hb)
  have R1 := Lib.hid (Z1'.out.bel hb)
  clear hb l0 q0 f0 l1 q1 f1 HB2 Y0 Y1 Y2 V0' V1' Z0' Z1'
  obtain ⟨l0, q0, f0⟩ := T0.out.see
  obtain ⟨l1, q1, f1⟩ := T1.out.see
  go_wp2_with fail
  refine (rowFn_same s.fs s'.fs z z' 66 w3 R0.out R1.out (enters_of Tryz.func66 (by kernel_rfl) rfl) M2.out.1 (fun i x y hx hy => sFnc_any (M2.out.2 i x y hx hy))).mono ?_
  rintro e w4 ⟨rfl, hb⟩
  have HB4 := Lib.hid (bel_to HB3.out (by omega) hb)
  clear hb l0 q0 f0 l1 q1 f1 HB3
  go_wp2_with fail
  go_ret
  exact ⟨rfl, by rw [HG.out]; exact HB4.out⟩
end Go.Proofs.YtjoiflokekebkaaGreatDoor
end
