/- Walks: the document's examples; the law on words. -/
import Derived.Test.YtaaoeaenhjaijaaDoorL7
namespace Go.Proofs.YtaaoeaenhjaijaaDoor
open Go.RowKit

theorem lex_ok {s : ByteArray} {l : List Tk} (h : lexB s = .ok l) (hs : s.size ≤ 9000000000000000000) (W : World) (hv : HasErr W) :
    Calls Tryd.prog 10 #[.string s] W fun e W' => (∃ A c, e = .returned (.tuple #[.slice A l.length c, .int .i64 0, .int .i64 0]) ∧ W'.ownsRow W.heap.size 31 4 (.slice A l.length c) l.length (tcells l)) ∧ l.length ≤ s.size + 1 ∧ Below W.heap.size W W' :=
  (lex_any s hs W hv).mono fun e W' ⟨q, b⟩ => by
    rcases q with ⟨er, a, h2, _⟩ | ⟨l2, v, h2, own, hl, rfl⟩
    · rw [h] at h2; cases h2
    · rw [h] at h2
      injection h2 with h2
      subst h2
      obtain ⟨A, c, rfl⟩ := row_slice own
      exact ⟨⟨A, c, rfl, own⟩, hl, b⟩
theorem lex_err {s : ByteArray} {er : Int} {a : Nat} (h : lexB s = .error (er, a)) (hs : s.size ≤ 9000000000000000000) (W : World) (hv : HasErr W) :
    Calls Tryd.prog 10 #[.string s] W fun e W' => e = .returned (.tuple #[.slice none 0 0, .int .i64 er, .int .i64 a]) ∧ Below W.heap.size W W' :=
  (lex_any s hs W hv).mono fun e W' ⟨q, b⟩ => by
    rcases q with ⟨er2, a2, h2, rfl⟩ | ⟨l2, v, h2, _⟩
    · rw [h] at h2
      injection h2 with h2
      injection h2 with h3 h4
      subst h3 h4
      exact ⟨rfl, b⟩
    · rw [h] at h2; cases h2

def ex1 : ByteArray := ⟨#[120, 46, 42, 61, 45, 49, 59]⟩
def ex2 : ByteArray := ⟨#[97, 61, 61, 62, 98]⟩
def ex1T : List Tk := [⟨1, ex1.extract 0 1, 0, 0⟩, ⟨3, ex1.extract 1 2, 0, 1⟩, ⟨3, ex1.extract 2 3, 0, 2⟩, ⟨3, ex1.extract 3 4, 0, 3⟩, ⟨3, ex1.extract 4 5, 0, 4⟩, ⟨2, ex1.extract 5 6, 1, 5⟩, ⟨3, ex1.extract 6 7, 0, 6⟩, ⟨0, ⟨#[]⟩, 0, 7⟩]
theorem ex1_lex : lexB ex1 = .ok ex1T := by
  rw [lexB, if_neg (by decide), lex_tok (k := 1) (n := 1) (v := 0) (by decide) (by rfl), lex_tok (k := 3) (n := 1) (v := 0) (by decide) (by rfl), lex_tok (k := 3) (n := 1) (v := 0) (by decide) (by rfl), lex_tok (k := 3) (n := 1) (v := 0) (by decide) (by rfl), lex_tok (k := 3) (n := 1) (v := 0) (by decide) (by rfl), lex_tok (k := 2) (n := 1) (v := 1) (by decide) (by rfl), lex_tok (k := 3) (n := 1) (v := 0) (by decide) (by rfl), lex_end (by decide)]
  rfl
theorem ex2_lex : lexB ex2 = .error (40, 3) := by
  rw [lexB, if_neg (by decide), lex_tok (k := 1) (n := 1) (v := 0) (by decide) (by rfl), lex_tok (k := 3) (n := 2) (v := 0) (by decide) (by rfl), lex_bad (e := 40) (by decide) (by rfl)]
  rfl

set_option maxHeartbeats 1000000 in
theorem works_any (W : World) (hv : HasErr W) : Calls Tryd.prog 9 #[] W fun e W' => e = .returned (.bool true) ∧ Below W.heap.size W W' := by
  have HV := Lib.hid hv
  have C1 := Lib.hid (lex_ok ex1_lex (by decide) W hv)
  clear hv
  go_enter Tryd.func9, Tryd.ntmps9
  go_wp2_with fail
  refine C1.out.mono ?_
  rintro e w1 ⟨⟨A, c, rfl, own⟩, _, b1⟩
  have O1 := Lib.hid own
  have HV1 := Lib.hid (HV.out.below b1)
  have B1 := Lib.hid b1
  have C2 := Lib.hid (lex_err ex2_lex (by decide) w1 HV1.out)
  clear C1 own b1
  go_wp2_with fail
  refine C2.out.mono ?_
  rintro e w2 ⟨rfl, b2⟩
  have O2 := Lib.hid (row_below O1.out b2)
  have B2 := Lib.hid (B1.out.trans (b2.mono B1.out.size))
  clear C2 O1 B1 b2 HV1
  obtain ⟨g, rfl, _, hg, hf, hc⟩ := row_at O2.out (by decide)
  obtain ⟨t0, t1, t2, t3⟩ := tcells_at ex1T 5 _ rfl
  have c2 := hc _ _ t2
  have c3 := hc _ _ t3
  clear hc t0 t1 t2 t3
  have hlen : ex1T.length = 8 := rfl
  rw [hlen]
  have D1 : ∀ w, Calls Tryd.prog 13 #[.string ⟨#[97, 95, 49]⟩] w fun e W' => e = .returned (.bool true) ∧ W' = w := fun w => word_any ⟨#[97, 95, 49]⟩ (by decide) w
  have D2 : ∀ w, Calls Tryd.prog 15 #[.string ⟨#[65, 98]⟩] w fun e W' => e = .returned (.bool true) ∧ W' = w := fun w => upper_any ⟨#[65, 98]⟩ (by decide) w
  have D3 : ∀ w, Calls Tryd.prog 15 #[.string ⟨#[97, 98]⟩] w fun e W' => e = .returned (.bool false) ∧ W' = w := fun w => upper_any ⟨#[97, 98]⟩ (by decide) w
  have e4 : resB ⟨#[99, 111]⟩ = true := by
    rw [resB, List.any_eq_true]
    exact ⟨⟨#[99, 111]⟩, by simp [resW], by simp⟩
  have D4 : ∀ w, Calls Tryd.prog 17 #[.string ⟨#[99, 111]⟩] w fun e W' => e = .returned (.bool true) ∧ W' = w := fun w => by
    have := reserved_any ⟨#[99, 111]⟩ w
    rwa [e4] at this
  have H1 := Lib.hid D1
  have H2 := Lib.hid D2
  have H3 := Lib.hid D3
  have H4 := Lib.hid D4
  clear D1 D2 D3 D4 e4
  go_wp2_with fail
  refine (H1.out _).mono ?_
  rintro e w3 ⟨rfl, rfl⟩
  go_wp2_with fail
  refine (H2.out _).mono ?_
  rintro e w4 ⟨rfl, rfl⟩
  go_wp2_with fail
  refine (H3.out _).mono ?_
  rintro e w5 ⟨rfl, rfl⟩
  go_wp2_with fail
  refine (H4.out _).mono ?_
  rintro e w6 ⟨rfl, rfl⟩
  go_wp2
  go_ret
  exact ⟨rfl, B2.out⟩

theorem lexisWords_walk (W : World) (s : ByteArray) (hs : s.size ≤ 9000000000000000000) (hv : HasErr W) :
    Calls Tryd.prog 4 #[.string s] W fun e W' => e = .returned (.bool true) ∧ Below W.heap.size W W' := by
  have C1 := Lib.hid (works_any W hv)
  have A1 := Lib.hid (fun w => word_any s hs w)
  have A2 := Lib.hid (fun w => rword_any s hs w)
  have A3 := Lib.hid (fun w => upper_any s hs w)
  have A4 := Lib.hid (fun w => rupper_any s hs w)
  have A5 := Lib.hid (fun w => reserved_any s w)
  have A6 := Lib.hid (fun w => rreserved_any s w)
  clear hv
  go_enter Tryd.func4, Tryd.ntmps4
  go_wp2_with fail
  refine C1.out.mono ?_
  rintro e w1 ⟨rfl, b1⟩
  generalize wordB s.data.toList = x1 at *
  generalize upperB s.data.toList = x2 at *
  generalize resB s = x3 at *
  go_wp2_with fail
  refine (A1.out _).mono ?_
  rintro e w2 ⟨rfl, rfl⟩
  go_wp2_with fail
  refine (A2.out _).mono ?_
  rintro e w3 ⟨rfl, rfl⟩
  go_wp2_with fail
  refine (A3.out _).mono ?_
  rintro e w4 ⟨rfl, rfl⟩
  go_wp2_with fail
  refine (A4.out _).mono ?_
  rintro e w5 ⟨rfl, rfl⟩
  go_wp2_with fail
  refine (A5.out _).mono ?_
  rintro e w6 ⟨rfl, rfl⟩
  go_wp2_with fail
  refine (A6.out _).mono ?_
  rintro e w7 ⟨rfl, b7⟩
  go_wp2
  go_ret
  exact ⟨by simp, b1.trans (b7.mono b1.size)⟩
end Go.Proofs.YtaaoeaenhjaijaaDoor
