/- Walks: the law on one token. -/
import Derived.Test.YtaaoeaenhjaijaaDoorL8
import Derived.Test.YtaaoeaenhjaijaaDoorP1
namespace Go.Proofs.YtaaoeaenhjaijaaDoor
open Go.RowKit

theorem up_word {u : ByteArray} (h : upperB u.data.toList = true) : wordB u.data.toList = true := by
  simp only [upperB, Bool.and_eq_true] at h
  exact h.1

set_option maxRecDepth 100000 in
set_option maxHeartbeats 4000000 in
theorem lexisOne_walk (W : World) (s : ByteArray) (hs : s.size ≤ 9000000000000000000) (hv : HasErr W) :
    Calls Tryd.prog 7 #[.string s] W fun e W' => e = .returned (.bool true) ∧ Below W.heap.size W W' := by
  have HV := Lib.hid hv
  have C1 := Lib.hid (works_any W hv)
  by_cases hbig : 2000 < s.size
  · have d1 : (2000 : Int) < (s.size : Int) := by omega
    clear hv hbig
    go_enter Tryd.func7, Tryd.ntmps7
    go_wp2_with fail
    refine C1.out.mono ?_
    rintro e w1 ⟨rfl, b1⟩
    go_wp2
    go_ret
    exact ⟨rfl, b1⟩
  have d1 : ¬ (2000 : Int) < (s.size : Int) := by omega
  have A1 := Lib.hid (fun w => word_any s hs w)
  have A3 := Lib.hid (fun w => upper_any s hs w)
  have A5 := Lib.hid (fun w => reserved_any s w)
  have XW := Lib.hid (fun h => word_lex (u := s) h)
  have XL := Lib.hid (fun t t' h hk hs => lex_word (u := s) (t := t) (t' := t') h hk hs)
  have XU := Lib.hid (fun h => up_word (u := s) h)
  have XR := Lib.hid (fun h => res_word (u := s) h)
  clear hv hbig
  generalize wordB s.data.toList = x1 at *
  generalize upperB s.data.toList = x2 at *
  generalize resB s = x3 at *
  cases x1
  · obtain rfl : x2 = false := by cases x2; · rfl
                                  · exact absurd (XU.out rfl) (by decide)
    obtain rfl : x3 = false := by cases x3; · rfl
                                  · exact absurd (XR.out rfl).1 (by decide)
    cases hB : lexB s with
    | error er =>
      obtain ⟨er, a⟩ := er
      have C2 := Lib.hid (lex_err hB hs)
      have her : er ≠ 0 := lexB_err hB
      have hne : (er == 0) = false := by simp; omega
      clear hB
      go_enter Tryd.func7, Tryd.ntmps7
      go_wp2_with fail
      refine C1.out.mono ?_
      rintro e w1 ⟨rfl, b1⟩
      have Z1 := Lib.hid b1
      have HV1 := Lib.hid (HV.out.below b1)
      clear b1
      go_wp2_with fail
      refine (C2.out w1 HV1.out).mono ?_
      rintro e w2 ⟨rfl, b2⟩
      have Z2 := Lib.hid (Z1.out.trans (b2.mono Z1.out.size))
      clear b2
      go_wp2_with fail
      refine (A1.out _).mono ?_
      rintro e w3 ⟨rfl, rfl⟩
      go_wp2_with fail
      refine (A3.out _).mono ?_
      rintro e w4 ⟨rfl, rfl⟩
      go_wp2_with fail
      refine (A5.out _).mono ?_
      rintro e w5 ⟨rfl, rfl⟩
      go_wp2
      go_ret
      exact ⟨by simp, Z2.out⟩
    | ok l =>
      have C2 := Lib.hid (lex_ok hB hs)
      by_cases h2 : l.length = 2
      · obtain ⟨t, t', rfl⟩ : ∃ t t', l = [t, t'] := by
          match l, h2 with
          | [t, t'], _ => exact ⟨t, t', rfl⟩
        have hno : ¬ (t.k = 1 ∧ t.s = s) := fun q => absurd (XL.out t t' hB q.1 q.2) (by decide)
        clear hB h2
        by_cases hk : t.k = 1
        · have hst : (t.s.toList == s.toList) = false := by
            rw [beq_eq_false_iff_ne]
            intro q
            rw [ByteArray.toList_eq, ByteArray.toList_eq] at q
            exact hno ⟨hk, bytes_eq q⟩
          clear hno
          go_enter Tryd.func7, Tryd.ntmps7
          go_wp2_with fail
          refine C1.out.mono ?_
          rintro e w1 ⟨rfl, b1⟩
          have Z1 := Lib.hid b1
          have HV1 := Lib.hid (HV.out.below b1)
          clear b1
          go_wp2_with fail
          refine (C2.out w1 HV1.out).mono ?_
          rintro e w2 ⟨⟨A, c, rfl, own⟩, hl, b2⟩
          have Z2 := Lib.hid (Z1.out.trans (b2.mono Z1.out.size))
          obtain ⟨g, rfl, _, hg, hf, hc⟩ := row_at own (by simp)
          obtain ⟨t0, t1, t2, t3⟩ := tcells_at [t, t'] 0 t rfl
          have c0 := hc _ _ t0
          have c1 := hc _ _ t1
          rw [hk] at c0
          clear hc t0 t1 t2 t3 own b2 hk
          have hlen : [t, t'].length = 2 := rfl
          rw [hlen]
          go_wp2_with fail
          refine (A1.out _).mono ?_
          rintro e w3 ⟨rfl, rfl⟩
          go_wp2_with fail
          refine (A3.out _).mono ?_
          rintro e w4 ⟨rfl, rfl⟩
          go_wp2_with fail
          refine (A5.out _).mono ?_
          rintro e w5 ⟨rfl, rfl⟩
          go_wp2
          go_ret
          exact ⟨by simp, Z2.out⟩
        · have hkb : (t.k == 1) = false := by simp; omega
          clear hno
          go_enter Tryd.func7, Tryd.ntmps7
          go_wp2_with fail
          refine C1.out.mono ?_
          rintro e w1 ⟨rfl, b1⟩
          have Z1 := Lib.hid b1
          have HV1 := Lib.hid (HV.out.below b1)
          clear b1
          go_wp2_with fail
          refine (C2.out w1 HV1.out).mono ?_
          rintro e w2 ⟨⟨A, c, rfl, own⟩, hl, b2⟩
          have Z2 := Lib.hid (Z1.out.trans (b2.mono Z1.out.size))
          obtain ⟨g, rfl, _, hg, hf, hc⟩ := row_at own (by simp)
          obtain ⟨t0, t1, t2, t3⟩ := tcells_at [t, t'] 0 t rfl
          have c0 := hc _ _ t0
          have c1 := hc _ _ t1
          clear hc t0 t1 t2 t3 own b2 hk
          have hlen : [t, t'].length = 2 := rfl
          rw [hlen]
          go_wp2_with fail
          refine (A1.out _).mono ?_
          rintro e w3 ⟨rfl, rfl⟩
          go_wp2_with fail
          refine (A3.out _).mono ?_
          rintro e w4 ⟨rfl, rfl⟩
          go_wp2_with fail
          refine (A5.out _).mono ?_
          rintro e w5 ⟨rfl, rfl⟩
          go_wp2
          go_ret
          exact ⟨by simp, Z2.out⟩
      · have hlb : ((l.length : Int) == 2) = false := by simp; omega
        clear hB h2
        go_enter Tryd.func7, Tryd.ntmps7
        go_wp2_with fail
        refine C1.out.mono ?_
        rintro e w1 ⟨rfl, b1⟩
        have Z1 := Lib.hid b1
        have HV1 := Lib.hid (HV.out.below b1)
        clear b1
        go_wp2_with fail
        refine (C2.out w1 HV1.out).mono ?_
        rintro e w2 ⟨⟨A, c, rfl, own⟩, hl, b2⟩
        have Z2 := Lib.hid (Z1.out.trans (b2.mono Z1.out.size))
        clear own b2
        go_wp2_with fail
        refine (A1.out _).mono ?_
        rintro e w3 ⟨rfl, rfl⟩
        go_wp2_with fail
        refine (A3.out _).mono ?_
        rintro e w4 ⟨rfl, rfl⟩
        go_wp2_with fail
        refine (A5.out _).mono ?_
        rintro e w5 ⟨rfl, rfl⟩
        go_wp2
        go_ret
        exact ⟨by simp, Z2.out⟩
  · have hB := XW.out rfl
    have C2 := Lib.hid (lex_ok hB hs)
    clear hB
    go_enter Tryd.func7, Tryd.ntmps7
    go_wp2_with fail
    refine C1.out.mono ?_
    rintro e w1 ⟨rfl, b1⟩
    have Z1 := Lib.hid b1
    have HV1 := Lib.hid (HV.out.below b1)
    clear b1
    go_wp2_with fail
    refine (C2.out w1 HV1.out).mono ?_
    rintro e w2 ⟨⟨A, c, rfl, own⟩, hl, b2⟩
    have Z2 := Lib.hid (Z1.out.trans (b2.mono Z1.out.size))
    obtain ⟨g, rfl, _, hg, hf, hc⟩ := row_at own (by simp)
    obtain ⟨t0, t1, t2, t3⟩ := tcells_at [⟨1, s, 0, 0⟩, ⟨0, ⟨#[]⟩, 0, s.size⟩] 0 _ rfl
    have c0 := hc _ _ t0
    have c1 := hc _ _ t1
    clear hc t0 t1 t2 t3 own b2
    have hlen : ([⟨1, s, 0, 0⟩, ⟨0, ⟨#[]⟩, 0, s.size⟩] : List Tk).length = 2 := rfl
    rw [hlen]
    go_wp2_with fail
    refine (A1.out _).mono ?_
    rintro e w3 ⟨rfl, rfl⟩
    cases x3
    · go_wp2_with fail
      refine (A3.out _).mono ?_
      rintro e w4 ⟨rfl, rfl⟩
      cases x2
      · go_wp2_with fail
        refine (A5.out _).mono ?_
        rintro e w5 ⟨rfl, rfl⟩
        go_wp2
        go_ret
        exact ⟨by simp, Z2.out⟩
      · go_wp2_with fail
        refine (A5.out _).mono ?_
        rintro e w5 ⟨rfl, rfl⟩
        go_wp2
        go_ret
        exact ⟨by simp, Z2.out⟩
    · obtain rfl : x2 = false := (XR.out rfl).2
      go_wp2_with fail
      refine (A3.out _).mono ?_
      rintro e w4 ⟨rfl, rfl⟩
      go_wp2_with fail
      refine (A5.out _).mono ?_
      rintro e w5 ⟨rfl, rfl⟩
      go_wp2_with fail
      refine (A3.out _).mono ?_
      rintro e w4 ⟨rfl, rfl⟩
      go_wp2
      go_ret
      exact ⟨by simp, Z2.out⟩
end Go.Proofs.YtaaoeaenhjaijaaDoor
