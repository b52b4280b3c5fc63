/- Walks: the document's Same; the law on all texts. -/
import Derived.Test.YtaaoeaenhjaijaaDoorL8
import Derived.Test.YtaaoeaenhjaijaaDoorL9
import Derived.BigQuiet
namespace Go.Proofs.YtaaoeaenhjaijaaDoor
open Go.RowKit

set_option maxHeartbeats 2000000 in
theorem same_any (l : List Tk) (hl : l.length ≤ 9000000000000000000) (W : World) (b b' : Nat) (A A' : Option Addr) (c c' : Nat) (h1 : W.ownsRow b 31 4 (.slice A l.length c) l.length (tcells l)) (h2 : W.ownsRow b' 31 4 (.slice A' l.length c') l.length (tcells l)) :
    Calls Tryd.prog 12 #[.slice A l.length c, .slice A' l.length c'] W fun e W' => e = .returned (.bool true) ∧ Below W.heap.size W W' := by
  have O1 := Lib.hid h1
  have O2 := Lib.hid h2
  have Z0 : Hid (Below W.heap.size W W) := Lib.hid (Below.refl _ _)
  clear h1 h2
  go_enter Tryd.func12, Tryd.ntmps12
  go_wp2_with fail
  go_loopw [5] (fun i wr => ∃ t : Nat, t ≤ l.length ∧ i = .int .i64 t ∧ Hid (Below W.heap.size W wr)) (fun i _ => l.length - (intOf i).toNat)
  case atStart => exact ⟨0, Nat.zero_le _, rfl, Z0⟩
  case round =>
    obtain ⟨t, ht, rfl, hz⟩ := hrel
    clear Z0
    have hti : (0 : Int) ≤ (t : Int) := by omega
    by_cases hlt : t < l.length
    · have htl : (t : Int) < (l.length : Int) := by omega
      obtain ⟨g, rfl, _, hg, hf, hc⟩ := row_at (row_below O1.out hz.out) (by omega)
      obtain ⟨g', rfl, _, hg', hf', hc'⟩ := row_at (row_below O2.out hz.out) (by omega)
      obtain ⟨t0, t1, t2, t3⟩ := tcells_at l t l[t] (List.getElem?_eq_getElem hlt)
      have c0 := hc _ _ t0
      have c1 := hc _ _ t1
      have c2 := hc _ _ t2
      have c3 := hc _ _ t3
      have d0 := hc' _ _ t0
      have d1 := hc' _ _ t1
      have d2 := hc' _ _ t2
      have d3 := hc' _ _ t3
      clear hc hc' t0 t1 t2 t3
      go_wp2_with fail
      go_quiet (fail)
      go_wp2
      go_roundw
      case rel => exact ⟨t + 1, by omega, by go_num, Lib.hid (bel_drewN hz.out _)⟩
      case measure => simp [intOf]; omega
    · obtain rfl : t = l.length := by omega
      go_wp2
      go_ret
      exact ⟨rfl, hz.out⟩

theorem rlex_ok {s : ByteArray} {l : List Tk} (h : lexB s = .ok l) (hs : s.size ≤ 9000000000000000000) (W : World) :
    Calls Tryd.prog 11 #[.string s] W fun e W' => (∃ A c, e = .returned (.tuple #[.slice A l.length c, .int .i64 0, .int .i64 0]) ∧ W'.ownsRow W.heap.size 31 4 (.slice A l.length c) l.length (tcells l)) ∧ l.length ≤ s.size + 1 ∧ Below W.heap.size W W' :=
  (rlex_any s hs W).mono fun e W' ⟨q, b⟩ => by
    rcases q with ⟨er, a, h2, _⟩ | ⟨l2, v, h2, own, hl, rfl⟩
    · rw [h] at h2; cases h2
    · rw [h] at h2
      injection h2 with h2
      subst h2
      obtain ⟨A, c, rfl⟩ := row_slice own
      exact ⟨⟨A, c, rfl, own⟩, hl, b⟩
theorem rlex_err {s : ByteArray} {er : Int} {a : Nat} (h : lexB s = .error (er, a)) (hs : s.size ≤ 9000000000000000000) (W : World) :
    Calls Tryd.prog 11 #[.string s] W fun e W' => e = .returned (.tuple #[.slice none 0 0, .int .i64 er, .int .i64 a]) ∧ Below W.heap.size W W' :=
  (rlex_any s hs W).mono fun e W' ⟨q, b⟩ => by
    rcases q with ⟨er2, a2, h2, rfl⟩ | ⟨l2, v, h2, _⟩
    · rw [h] at h2
      injection h2 with h2
      injection h2 with h3 h4
      subst h3 h4
      exact ⟨rfl, b⟩
    · rw [h] at h2; cases h2

set_option maxHeartbeats 2000000 in
theorem lexisLexes_walk (W : World) (s : ByteArray) (hs : s.size ≤ 9000000000000000000) (hv : HasErr W) :
    Calls Tryd.prog 3 #[.string s] W fun e W' => e = .returned (.bool true) ∧ Below W.heap.size W W' := by
  have HV := Lib.hid hv
  have C1 := Lib.hid (works_any W hv)
  by_cases hbig : 2000 < s.size ∧ s.size ≤ 65536
  · have d1 : (2000 : Int) < (s.size : Int) := by omega
    have d2 : (s.size : Int) ≤ 65536 := by omega
    clear hv hbig
    go_enter Tryd.func3, Tryd.ntmps3
    go_wp2_with fail
    refine C1.out.mono ?_
    rintro e w1 ⟨rfl, b1⟩
    go_wp2
    go_ret
    exact ⟨rfl, b1⟩
  · cases hB : lexB s with
    | error er =>
      obtain ⟨er, a⟩ := er
      have C2 := Lib.hid (lex_err hB hs)
      have C3 := Lib.hid (rlex_err hB hs)
      have C4 := Lib.hid (same_any [])
      clear hv hB
      by_cases hb : 2000 < s.size
      · have d1 : (2000 : Int) < (s.size : Int) := by omega
        have d2 : ¬ (s.size : Int) ≤ 65536 := by omega
        clear hbig hb
        go_enter Tryd.func3, Tryd.ntmps3
        go_wp2_with fail
        refine C1.out.mono ?_
        rintro e w1 ⟨rfl, b1⟩
        have Z1 := Lib.hid b1
        have HV1 := Lib.hid (HV.out.below b1)
        clear b1
        go_wp2_with fail
        refine (C2.out w1 HV1.out).mono ?_
        rintro e w2 ⟨rfl, b2⟩
        have Z2 := Lib.hid (Z1.out.trans (b2.mono Z1.out.size))
        clear b2
        go_wp2_with fail
        refine (C3.out w2).mono ?_
        rintro e w3 ⟨rfl, b3⟩
        have Z3 := Lib.hid (Z2.out.trans (b3.mono Z2.out.size))
        clear b3
        go_wp2_with fail
        refine (C4.out (by decide) w3 0 0 none none 0 0 (World.ownsRow_nil _ _ _ _) (World.ownsRow_nil _ _ _ _)).mono ?_
        rintro e w4 ⟨rfl, b4⟩
        go_wp2
        go_ret
        exact ⟨by simp, Z3.out.trans (b4.mono Z3.out.size)⟩
      · have d1 : ¬ (2000 : Int) < (s.size : Int) := by omega
        clear hbig hb
        go_enter Tryd.func3, Tryd.ntmps3
        go_wp2_with fail
        refine C1.out.mono ?_
        rintro e w1 ⟨rfl, b1⟩
        have Z1 := Lib.hid b1
        have HV1 := Lib.hid (HV.out.below b1)
        clear b1
        go_wp2_with fail
        refine (C2.out w1 HV1.out).mono ?_
        rintro e w2 ⟨rfl, b2⟩
        have Z2 := Lib.hid (Z1.out.trans (b2.mono Z1.out.size))
        clear b2
        go_wp2_with fail
        refine (C3.out w2).mono ?_
        rintro e w3 ⟨rfl, b3⟩
        have Z3 := Lib.hid (Z2.out.trans (b3.mono Z2.out.size))
        clear b3
        go_wp2_with fail
        refine (C4.out (by decide) w3 0 0 none none 0 0 (World.ownsRow_nil _ _ _ _) (World.ownsRow_nil _ _ _ _)).mono ?_
        rintro e w4 ⟨rfl, b4⟩
        go_wp2
        go_ret
        exact ⟨by simp, Z3.out.trans (b4.mono Z3.out.size)⟩
    | ok l =>
      have C2 := Lib.hid (lex_ok hB hs)
      have C3 := Lib.hid (rlex_ok hB hs)
      have C4 := Lib.hid (same_any l)
      have hb : ¬ 2000 < s.size := by
        intro q
        rw [lexB, if_pos (by omega)] at hB
        cases hB
      have d1 : ¬ (2000 : Int) < (s.size : Int) := by omega
      clear hv hB hbig hb
      go_enter Tryd.func3, Tryd.ntmps3
      go_wp2_with fail
      refine C1.out.mono ?_
      rintro e w1 ⟨rfl, b1⟩
      have Z1 := Lib.hid b1
      have HV1 := Lib.hid (HV.out.below b1)
      clear b1
      go_wp2_with fail
      refine (C2.out w1 HV1.out).mono ?_
      rintro e w2 ⟨⟨A, c, rfl, own⟩, hl, b2⟩
      have Z2 := Lib.hid (Z1.out.trans (b2.mono Z1.out.size))
      have O2 := Lib.hid own
      clear b2 own
      go_wp2_with fail
      refine (C3.out w2).mono ?_
      rintro e w3 ⟨⟨A', c', rfl, own⟩, _, b3⟩
      have Z3 := Lib.hid (Z2.out.trans (b3.mono Z2.out.size))
      have O3 := Lib.hid own
      have O2' := Lib.hid (row_below O2.out b3)
      clear b3 own O2
      go_wp2_with fail
      refine (C4.out (by omega) w3 _ _ _ _ _ _ O2'.out O3.out).mono ?_
      rintro e w4 ⟨rfl, b4⟩
      go_wp2
      go_ret
      exact ⟨by simp, Z3.out.trans (b4.mono Z3.out.size)⟩
end Go.Proofs.YtaaoeaenhjaijaaDoor
