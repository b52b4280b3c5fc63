/- Walks: the law on two texts. -/
import Derived.Test.YtaaoeaenhjaijaaDoorL8
import Derived.Test.YtaaoeaenhjaijaaDoorP1
import Derived.BigQuiet
namespace Go.Proofs.YtaaoeaenhjaijaaDoor
open Go.RowKit

theorem lex_some (s : ByteArray) (hs : s.size ≤ 9000000000000000000) (W : World) (hv : HasErr W) :
    Calls Tryd.prog 10 #[.string s] W fun e W' => (∃ A n c er at_, e = .returned (.tuple #[.slice A n c, .int .i64 er, .int .i64 at_])) ∧ Below W.heap.size W W' :=
  (lex_any s hs W hv).mono fun e W' ⟨q, b⟩ => by
    rcases q with ⟨er2, a2, h2, rfl⟩ | ⟨l2, v, h2, own, _, rfl⟩
    · exact ⟨⟨_, _, _, _, _, rfl⟩, b⟩
    · obtain ⟨A, c, rfl⟩ := row_slice own
      exact ⟨⟨_, _, _, _, _, rfl⟩, b⟩
theorem glue_at (x y : List Tk) (k : Nat) (hx : 0 < x.length) (j : Nat) (hj : j < (x.dropLast ++ y.map (shiftT k)).length) :
    (j < x.length - 1 → ∃ t, x[j]? = some t ∧ (x.dropLast ++ y.map (shiftT k))[j]? = some t) ∧ (¬ j < x.length - 1 → ∃ t, y[j - (x.length - 1)]? = some t ∧ (x.dropLast ++ y.map (shiftT k))[j]? = some (shiftT k t)) := by
  have hl : x.dropLast.length = x.length - 1 := List.length_dropLast
  constructor
  · intro h
    refine ⟨x[j]'(by omega), List.getElem?_eq_getElem _, ?_⟩
    rw [List.getElem?_append_left (by omega), List.getElem?_dropLast, if_pos h, List.getElem?_eq_getElem]
  · intro h
    rw [List.length_append, List.length_map] at hj
    refine ⟨y[j - (x.length - 1)]'(by omega), List.getElem?_eq_getElem _, ?_⟩
    rw [List.getElem?_append_right (by omega), hl, List.getElem?_map, List.getElem?_eq_getElem (by omega)]
    rfl

set_option maxRecDepth 100000 in
set_option maxHeartbeats 4000000 in
theorem lexisGlue_walk (W : World) (a : ByteArray) (hs : a.size ≤ 9000000000000000000) (b : ByteArray) (hs2 : b.size ≤ 9000000000000000000) (hv : HasErr W) :
    Calls Tryd.prog 6 #[.string a, .string b] W fun e W' => e = .returned (.bool true) ∧ Below W.heap.size W W' := by
  have HV := Lib.hid hv
  have C1 := Lib.hid (works_any W hv)
  by_cases hbig : 2000 < a.size
  · have d1 : (2000 : Int) < (a.size : Int) := by omega
    clear hv hbig
    go_enter Tryd.func6, Tryd.ntmps6
    go_wp2_with fail
    refine C1.out.mono ?_
    rintro e w1 ⟨rfl, b1⟩
    go_wp2
    go_ret
    exact ⟨rfl, b1⟩
  by_cases hbig2 : 2000 < b.size
  · have d1 : ¬ (2000 : Int) < (a.size : Int) := by omega
    have d2 : (2000 : Int) < (b.size : Int) := by omega
    clear hv hbig hbig2
    go_enter Tryd.func6, Tryd.ntmps6
    go_wp2_with fail
    refine C1.out.mono ?_
    rintro e w1 ⟨rfl, b1⟩
    go_wp2
    go_ret
    exact ⟨rfl, b1⟩
  have d1 : ¬ (2000 : Int) < (a.size : Int) := by omega
  have d2 : ¬ (2000 : Int) < (b.size : Int) := by omega
  have hg := lexB_glue (a := a) (b := b) (by omega) (by omega)
  have hgs : (a ++ nlB ++ b).size ≤ 9000000000000000000 := by
    have e1 : nlB.size = 1 := rfl
    rw [ByteArray.size_append, ByteArray.size_append, e1]; omega
  have hab : (a.size : Int) ≤ 2000 := by omega
  clear hv hbig hbig2
  cases hA : lexB a with
  | error er =>
    obtain ⟨er, i⟩ := er
    have C2 := Lib.hid (lex_err hA hs)
    have C3 := Lib.hid (lex_some b hs2)
    rw [hA] at hg
    have C4 := Lib.hid (lex_err (er := er) (a := i) hg hgs)
    have her := lexB_err hA
    have hne : (er == 0) = false := by simp; omega
    clear hA hg her
    go_enter Tryd.func6, Tryd.ntmps6
    go_wp2_with fail
    refine C1.out.mono ?_
    rintro e w1 ⟨rfl, b1⟩
    have Z1 := Lib.hid b1
    have HV1 := Lib.hid (HV.out.below b1)
    clear b1
    go_wp2_with fail
    refine (C2.out w1 HV1.out).mono ?_
    rintro e w2 ⟨rfl, b2⟩
    have Z2 := Lib.hid (Z1.out.trans (b2.mono Z1.out.size))
    have HV2 := Lib.hid (HV1.out.below b2)
    clear b2
    go_wp2_with fail
    refine (C3.out w2 HV2.out).mono ?_
    rintro e w3 ⟨⟨_, _, _, _, _, rfl⟩, b3⟩
    have Z3 := Lib.hid (Z2.out.trans (b3.mono Z2.out.size))
    have HV3 := Lib.hid (HV2.out.below b3)
    clear b3
    go_wp2_with fail
    refine (C4.out w3 HV3.out).mono ?_
    rintro e w4 ⟨rfl, b4⟩
    go_wp2
    go_ret
    exact ⟨by simp, Z3.out.trans (b4.mono Z3.out.size)⟩
  | ok x =>
    cases hB : lexB b with
    | error er =>
      obtain ⟨er, i⟩ := er
      have C2 := Lib.hid (lex_ok hA hs)
      have C3 := Lib.hid (lex_err hB hs2)
      rw [hA, hB] at hg
      have C4 := Lib.hid (lex_err (er := er) (a := a.size + 1 + i) hg hgs)
      have her := lexB_err hB
      have hei := (lexB_err2 hB (by omega)).2.2
      have hne : (er == 0) = false := by simp; omega
      have hi2 : (i : Int) ≤ 2000 := by omega
      clear hA hB hg her hei
      go_enter Tryd.func6, Tryd.ntmps6
      go_wp2_with fail
      refine C1.out.mono ?_
      rintro e w1 ⟨rfl, b1⟩
      have Z1 := Lib.hid b1
      have HV1 := Lib.hid (HV.out.below b1)
      clear b1
      go_wp2_with fail
      refine (C2.out w1 HV1.out).mono ?_
      rintro e w2 ⟨⟨A, c, rfl, _⟩, _, b2⟩
      have Z2 := Lib.hid (Z1.out.trans (b2.mono Z1.out.size))
      have HV2 := Lib.hid (HV1.out.below b2)
      clear b2
      go_wp2_with fail
      refine (C3.out w2 HV2.out).mono ?_
      rintro e w3 ⟨rfl, b3⟩
      have Z3 := Lib.hid (Z2.out.trans (b3.mono Z2.out.size))
      have HV3 := Lib.hid (HV2.out.below b3)
      clear b3
      go_wp2_with fail
      refine (C4.out w3 HV3.out).mono ?_
      rintro e w4 ⟨rfl, b4⟩
      go_wp2
      go_ret
      exact ⟨by simp <;> omega, Z3.out.trans (b4.mono Z3.out.size)⟩
    | ok y =>
      have C2 := Lib.hid (lex_ok hA hs)
      have C3 := Lib.hid (lex_ok hB hs2)
      rw [hA, hB] at hg
      have hx0 : 0 < x.length := (Pl.start hA (by omega)).2
      have C4 := Lib.hid (lex_ok (l := x.dropLast ++ y.map (shiftT (a.size + 1))) hg hgs)
      have GA := Lib.hid (glue_at x y (a.size + 1) hx0)
      have YA := Lib.hid (fun (t : Tk) (ht : t ∈ y) => lexB_at hB (by omega) ht)
      have hzl : (x.dropLast ++ y.map (shiftT (a.size + 1))).length = x.length - 1 + y.length := by simp
      generalize x.dropLast ++ y.map (shiftT (a.size + 1)) = z at *
      have hzl2 : (z.length : Int) = (x.length : Int) - 1 + (y.length : Int) := by omega
      clear hA hB hg
      go_enter Tryd.func6, Tryd.ntmps6
      go_wp2_with fail
      refine C1.out.mono ?_
      rintro e w1 ⟨rfl, b1⟩
      have Z1 := Lib.hid b1
      have HV1 := Lib.hid (HV.out.below b1)
      clear b1
      go_wp2_with fail
      refine (C2.out w1 HV1.out).mono ?_
      rintro e w2 ⟨⟨Ax, cx, rfl, ownx⟩, hlx, b2⟩
      have Z2 := Lib.hid (Z1.out.trans (b2.mono Z1.out.size))
      have HV2 := Lib.hid (HV1.out.below b2)
      have OX := Lib.hid ownx
      clear b2 ownx
      go_wp2_with fail
      refine (C3.out w2 HV2.out).mono ?_
      rintro e w3 ⟨⟨Ay, cy, rfl, owny⟩, hly, b3⟩
      have Z3 := Lib.hid (Z2.out.trans (b3.mono Z2.out.size))
      have HV3 := Lib.hid (HV2.out.below b3)
      have OX3 := Lib.hid (row_below OX.out b3)
      have OY := Lib.hid owny
      clear b3 owny OX
      go_wp2_with fail
      refine (C4.out w3 HV3.out).mono ?_
      rintro e w4 ⟨⟨Az, cz, rfl, ownz⟩, hlz, b4⟩
      have Z4 := Lib.hid (Z3.out.trans (b4.mono Z3.out.size))
      have OX4 := Lib.hid (row_below OX3.out b4)
      have OY4 := Lib.hid (row_below OY.out b4)
      have OZ4 := Lib.hid ownz
      have B0 : Hid (Below w4.heap.size w4 w4) := Lib.hid (Below.refl _ _)
      clear b4 ownz OX3 OY HV1 HV2 HV3 Z1 Z2 Z3
      have hxz : ((x.length : Int) == 0) = false := beq_eq_false_iff_ne.2 (by omega)
      have hwr1 : IntKind.i64.wrap ((x.length : Int) - 1) = (x.length : Int) - 1 := by rw [IntKind.wrap_i64]; omega
      have hwr2 : IntKind.i64.wrap ((x.length : Int) - 1 + (y.length : Int)) = (z.length : Int) := by rw [IntKind.wrap_i64]; omega
      rw [hzl] at hlz
      clear hzl2
      have HZL := Lib.hid hzl
      clear hzl
      have hzle : (z.length : Int) ≤ 10000 := by have := HZL.out; omega
      go_wp2_with fail
      go_loopw [15] (fun v15 wr => ∃ (j : Nat), v15 = .int .i64 j ∧ j ≤ z.length ∧ Hid (Below w4.heap.size w4 wr)) (fun j _ => z.length - (intOf j).toNat)
      case atStart => exact ⟨0, rfl, Nat.zero_le _, B0⟩
      case round =>
        obtain ⟨j, rfl, hj, hb⟩ := hrel
        clear B0
        have htj : (0 : Int) ≤ (j : Int) := by omega
        by_cases hlt : j < z.length
        · have htl : (j : Int) < (z.length : Int) := by omega
          obtain ⟨gz, rfl, _, hgz, hfz, hcz⟩ := row_at (row_below OZ4.out hb.out) (by omega)
          by_cases hjx : j < x.length - 1
          · obtain ⟨t, ht, ht2⟩ := (GA.out j (by have := HZL.out; omega)).1 hjx
            have hjx2 : (j : Int) < (x.length : Int) - 1 := by omega
            have hjx3 : (j : Int) < (x.length : Int) := by omega
            obtain ⟨gx, rfl, _, hgx, hfx, hcx⟩ := row_at (row_below OX4.out hb.out) (by omega)
            obtain ⟨t0, t1, t2, t3⟩ := tcells_at x j t ht
            have c0 := hcx _ _ t0
            have c1 := hcx _ _ t1
            have c2 := hcx _ _ t2
            have c3 := hcx _ _ t3
            obtain ⟨u0, u1, u2, u3⟩ := tcells_at z j t ht2
            clear t0 t1 t2 t3 ht ht2 hcx hcz
            go_upto_region 23 with fail
            clear c0 c1 c2 c3 hfx hfz
            obtain ⟨wx, hwx⟩ : ∃ wx : World, wx = wr.alloc (.cells #[.int .i64 t.k, .string t.s, .int .i64 t.n, .int .i64 t.at_] 31) := ⟨_, rfl⟩
            rw [← hwx]
            have BX : Hid (Bx 31 wx wr.heap.size #[.int .i64 t.k, .string t.s, .int .i64 t.n, .int .i64 t.at_]) := Lib.hid (by rw [hwx]; exact Bx.newAt rfl)
            have hbx : Hid (Below wr.heap.size wr wx) := Lib.hid (by rw [hwx]; exact w1_alloc (Below.refl _ _) _)
            clear hwx
            have BW := Lib.hid (hb.out.trans (hbx.out.mono hb.out.size))
            obtain ⟨l8, h8, f8x⟩ := BX.out.see
            obtain ⟨gz2, hgz2, _, _, hfz2, hcz2⟩ := row_at (row_below OZ4.out BW.out) (by omega)
            obtain rfl : gz = gz2 := by injection hgz2 with q; injection q
            have e0 := hcz2 _ _ u0
            have e1 := hcz2 _ _ u1
            have e2 := hcz2 _ _ u2
            have e3 := hcz2 _ _ u3
            clear u0 u1 u2 u3 hcz2 hgz2
            go_quiet (fail)
            go_wp2
            go_roundw
            case rel => exact ⟨j + 1, by go_num, by omega, Lib.hid (bel_drewN BW.out _)⟩
            case measure => simp [intOf]; omega
          · obtain ⟨t, ht, ht2⟩ := (GA.out j (by have := HZL.out; omega)).2 hjx
            obtain ⟨p, hp1, hp2⟩ := YA.out t (List.mem_of_getElem? ht)
            have hjx2 : ¬ (j : Int) < (x.length : Int) - 1 := by omega
            have hjy : j - (x.length - 1) < y.length := by have := HZL.out; omega
            obtain ⟨gy, rfl, _, hgy, hfy, hcy⟩ := row_at (row_below OY4.out hb.out) (by omega)
            obtain ⟨t0, t1, t2, t3⟩ := tcells_at y _ t ht
            obtain ⟨u0, u1, u2, u3⟩ := tcells_at z j _ ht2
            have hu3 : (shiftT (a.size + 1) t).at_ = (p : Int) + (a.size : Int) + 1 := by simp [shiftT, hp1]; omega
            rw [hu3] at u3
            rw [show (shiftT (a.size + 1) t).k = t.k from rfl] at u0
            rw [show (shiftT (a.size + 1) t).s = t.s from rfl] at u1
            rw [show (shiftT (a.size + 1) t).n = t.n from rfl] at u2
            rw [hp1] at t3
            have c0 := hcy _ _ t0
            have c1 := hcy _ _ t1
            have c2 := hcy _ _ t2
            have c3 := hcy _ _ t3
            have hw1 : IntKind.i64.wrap ((j : Int) - (x.length : Int)) = (j : Int) - (x.length : Int) := by rw [IntKind.wrap_i64]; omega
            have hw2 : IntKind.i64.wrap ((j : Int) - (x.length : Int) + 1) = (j : Int) - (x.length : Int) + 1 := by rw [IntKind.wrap_i64]; omega
            have hn0 : (0 : Int) ≤ (j : Int) - (x.length : Int) + 1 := by omega
            have hn1 : (j : Int) - (x.length : Int) + 1 < (y.length : Int) := by omega
            have hn2 : ((j : Int) - (x.length : Int) + 1).toNat = j - (x.length - 1) := by omega
            clear t0 t1 t2 t3 ht ht2 hcy hcz hu3 hp1
            go_upto_region 23 with fail
            clear c0 c1 c2 c3 hfy hfz
            obtain ⟨wx, hwx⟩ : ∃ wx : World, wx = wr.alloc (.cells #[.int .i64 t.k, .string t.s, .int .i64 t.n, .int .i64 ((p : Int) + (a.size : Int) + 1)] 31) := ⟨_, rfl⟩
            rw [← hwx]
            have BX : Hid (Bx 31 wx wr.heap.size #[.int .i64 t.k, .string t.s, .int .i64 t.n, .int .i64 ((p : Int) + (a.size : Int) + 1)]) := Lib.hid (by rw [hwx]; exact Bx.newAt rfl)
            have hbx : Hid (Below wr.heap.size wr wx) := Lib.hid (by rw [hwx]; exact w1_alloc (Below.refl _ _) _)
            clear hwx
            have BW := Lib.hid (hb.out.trans (hbx.out.mono hb.out.size))
            obtain ⟨l8, h8, f8x⟩ := BX.out.see
            obtain ⟨gz2, hgz2, _, _, hfz2, hcz2⟩ := row_at (row_below OZ4.out BW.out) (by omega)
            obtain rfl : gz = gz2 := by injection hgz2 with q; injection q
            have e0 := hcz2 _ _ u0
            have e1 := hcz2 _ _ u1
            have e2 := hcz2 _ _ u2
            have e3 := hcz2 _ _ u3
            clear u0 u1 u2 u3 hcz2 hgz2
            go_quiet (fail)
            go_wp2
            go_roundw
            case rel => exact ⟨j + 1, by go_num, by omega, Lib.hid (bel_drewN BW.out _)⟩
            case measure => simp [intOf]; omega
        · obtain rfl : j = z.length := by omega
          go_wp2
          go_ret
          exact ⟨by simp, Z4.out.trans (hb.out.mono Z4.out.size)⟩
end Go.Proofs.YtaaoeaenhjaijaaDoor
