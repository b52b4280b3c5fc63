/- Walks: the law on places. -/
import Derived.Test.YtaaoeaenhjaijaaDoorL8
import Derived.Test.YtaaoeaenhjaijaaDoorP1
import Derived.BigQuiet
namespace Go.Proofs.YtaaoeaenhjaijaaDoor
open Go.RowKit

set_option maxRecDepth 100000 in
set_option maxHeartbeats 4000000 in
theorem lexisPlaces_walk (W : World) (s : ByteArray) (hs : s.size ≤ 9000000000000000000) (hv : HasErr W) :
    Calls Tryd.prog 5 #[.string s] W fun e W' => e = .returned (.bool true) ∧ Below W.heap.size W W' := by
  have HV := Lib.hid hv
  have C1 := Lib.hid (works_any W hv)
  by_cases hbig : 2000 < s.size
  · have d1 : (2000 : Int) < (s.size : Int) := by omega
    clear hv hbig
    go_enter Tryd.func5, Tryd.ntmps5
    go_wp2_with fail
    refine C1.out.mono ?_
    rintro e w1 ⟨rfl, b1⟩
    go_wp2
    go_ret
    exact ⟨rfl, b1⟩
  have d1 : ¬ (2000 : Int) < (s.size : Int) := by omega
  clear hv
  cases hB : lexB s with
  | error er =>
    obtain ⟨er, a⟩ := er
    have C2 := Lib.hid (lex_err hB hs)
    have her := lexB_err2 hB (by omega)
    have hne : (er == 0) = false := by simp; omega
    have ha0 : (a : Int) < (s.size : Int) := by omega
    have ha1 : (1 : Int) ≤ (s.size : Int) := by omega
    clear hB hbig
    go_enter Tryd.func5, Tryd.ntmps5
    go_wp2_with fail
    refine C1.out.mono ?_
    rintro e w1 ⟨rfl, b1⟩
    have Z1 := Lib.hid b1
    have HV1 := Lib.hid (HV.out.below b1)
    clear b1
    go_wp2_with fail
    refine (C2.out w1 HV1.out).mono ?_
    rintro e w2 ⟨rfl, b2⟩
    have Z2 := Lib.hid (Z1.out.trans (b2.mono Z1.out.size))
    clear b2
    go_wp2
    go_ret
    exact ⟨by simp <;> omega, Z2.out⟩
  | ok l =>
    have C2 := Lib.hid (lex_ok hB hs)
    obtain ⟨hp0, hl0⟩ := Pl.start hB (by omega)
    have P0 := Lib.hid hp0
    clear hB hp0
    go_enter Tryd.func5, Tryd.ntmps5
    go_wp2_with fail
    refine C1.out.mono ?_
    rintro e w1 ⟨rfl, b1⟩
    have Z1 := Lib.hid b1
    have HV1 := Lib.hid (HV.out.below b1)
    clear b1
    go_wp2_with fail
    refine (C2.out w1 HV1.out).mono ?_
    rintro e w2 ⟨⟨A, c, rfl, own⟩, hl, b2⟩
    have Z2 := Lib.hid (Z1.out.trans (b2.mono Z1.out.size))
    have HV2 := Lib.hid (HV1.out.below b2)
    have O2 := Lib.hid own
    have B0 : Hid (Below w2.heap.size w2 w2) := Lib.hid (Below.refl _ _)
    clear own b2 Z1 HV1
    go_wp2_with fail
    go_loopw [7, 8] (fun v7 v8 wr => ∃ (E i : Nat), v7 = .int .i64 E ∧ v8 = .int .i64 i ∧ i ≤ l.length ∧ Hid (Pl s l i E) ∧ Hid (Below w2.heap.size w2 wr)) (fun _ i _ => l.length - (intOf i).toNat)
    case atStart => exact ⟨0, 0, rfl, rfl, Nat.zero_le _, P0, B0⟩
    case round =>
      obtain ⟨E, i, rfl, rfl, hi, hp, hb⟩ := hrel
      clear P0 B0
      have hti : (0 : Int) ≤ (i : Int) := by omega
      have htE : (0 : Int) ≤ (E : Int) := by omega
      by_cases hlt : i < l.length
      · have htl : (i : Int) < (l.length : Int) := by omega
        obtain ⟨p, n, kz, f1, f2, f3, f4, f5, f6, f7, f8, f9, f10⟩ := hp.out.step hlt
        have PN := Lib.hid f10
        have SK := Lib.hid f9
        obtain ⟨g, rfl, _, hg, hf, hc⟩ := row_at (row_below O2.out hb.out) (by omega)
        obtain ⟨t0, t1, t2, t3⟩ := tcells_at l i l[i] (List.getElem?_eq_getElem hlt)
        generalize l[i] = tk at *
        rw [f1] at t3
        have c0 := hc _ _ t0
        have c1 := hc _ _ t1
        have c2 := hc _ _ t2
        have c3 := hc _ _ t3
        have F1 := Lib.hid f1
        clear hc t0 t1 t2 t3 f9 f10 f1
        have g1 : decide (p < E) = false := by simp; omega
        have g2 : decide (s.size < p) = false := by simp; omega
        have g3 : decide ((s.size : Int) - (p : Int) < (n : Int)) = false := by simp; omega
        have g3w : IntKind.i64.wrap ((s.size : Int) - (p : Int)) = (s.size : Int) - (p : Int) := by rw [IntKind.wrap_i64]; omega
        have g4 : (tk.s.toList != tk.s.toList) = false := by simp
        have g4w : IntKind.i64.wrap ((p : Int) + (n : Int)) = (p : Int) + (n : Int) := by rw [IntKind.wrap_i64]; omega
        have g4t : ((p : Int) + (n : Int)).toNat = p + n := by omega
        have g40 : (0 : Int) ≤ (p : Int) := by omega
        have g41 : (p : Int) ≤ (p : Int) + (n : Int) := by omega
        have g42 : (p : Int) + (n : Int) ≤ (s.size : Int) := by omega
        have g5 : ((i : Int) == (l.length : Int) - 1) = kz := by rw [← f7, Bool.eq_iff_iff]; simp; omega
        have g5w : IntKind.i64.wrap ((l.length : Int) - 1) = (l.length : Int) - 1 := by rw [IntKind.wrap_i64]; omega
        have g6 : tk.s.toList.isEmpty = kz := by rw [← f8, Bool.eq_iff_iff, List.isEmpty_iff, ByteArray.toList_eq, ← List.length_eq_zero_iff, bsize, f4]; simp
        have g7 : (kz != kz) = false := by cases kz <;> rfl
        go_upto_region 14 with fail
        obtain ⟨wx, hwx⟩ : ∃ wx : World, wx = wr.alloc (.cells #[.int .i64 tk.k, .string tk.s, .int .i64 tk.n, .int .i64 p] 31) := ⟨_, rfl⟩
        rw [← hwx]
        have BX : Hid (Bx 31 wx wr.heap.size #[.int .i64 tk.k, .string tk.s, .int .i64 tk.n, .int .i64 p]) := Lib.hid (by rw [hwx]; exact Bx.newAt rfl)
        have hbx : Hid (Below wr.heap.size wr wx) := Lib.hid (by rw [hwx]; exact w1_alloc (Below.refl _ _) _)
        clear hwx c0 c1 c2 c3 hf
        obtain ⟨l8, h8, f8x⟩ := BX.out.see
        go_quiet (fail)
        have BY := Lib.hid (BX.out.drewN nq)
        have hby := Lib.hid (bel_drewN hbx.out nq)
        generalize wx.drewN nq = wy at *
        clear l8 h8 f8x BX hbx wx
        obtain ⟨l8, h8, f8x⟩ := BY.out.see
        have hEp : (E : Int) ≤ (p : Int) := by omega
        have hps : (p : Int) ≤ (s.size : Int) := by omega
        have C3 := Lib.hid (lex_ok (skips_one (by omega) SK.out (by omega)) (by
          have e1 : nlB.size = 1 := rfl
          rw [ByteArray.size_append, e1, ByteArray.size_extract]
          omega))
        have BZ := Lib.hid (hb.out.trans (hby.out.mono hb.out.size))
        clear g1 g2 g3 g3w g4 g5 g5w g6 g7 hby
        go_wp2_with fail
        refine (C3.out wy (HV2.out.below BZ.out)).mono ?_
        rintro e w4 ⟨⟨A4, c4, rfl, _⟩, _, b4⟩
        have BY2 := Lib.hid (BY.out.below b4)
        have BW := Lib.hid (BZ.out.trans (b4.mono BZ.out.size))
        clear l8 h8 f8x BY BZ b4 C3
        obtain ⟨l8, h8, f8x⟩ := BY2.out.see
        have hl1 : ([⟨0, ⟨#[]⟩, 0, ((p - E : Nat) : Int) + 1⟩] : List Tk).length = 1 := rfl
        rw [hl1]
        go_wp2
        go_roundw
        case rel => exact ⟨p + n, i + 1, by go_num, by go_num, by omega, PN, BW⟩
        case measure => simp [intOf]; omega
      · obtain rfl : i = l.length := by omega
        have hE : (E : Int) = (s.size : Int) := by have := hp.out.done rfl; omega
        have hEb : ((E : Int) == (s.size : Int)) = true := by simp [hE]
        have HE := Lib.hid hE
        clear hE
        go_wp2
        go_ret
        exact ⟨by simp <;> omega, Z2.out.trans (hb.out.mono Z2.out.size)⟩
end Go.Proofs.YtaaoeaenhjaijaaDoor
