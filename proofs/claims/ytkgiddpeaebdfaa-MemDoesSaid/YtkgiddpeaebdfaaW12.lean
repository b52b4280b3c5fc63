/- What Copy does. -/
import Derived.Test.YtkgiddpeaebdfaaW11
import Derived.Test.YtkgiddpeaebdfaaW9
namespace Go.Proofs.Ytkgiddpeaebdfaa
open Go.RowKit

theorem setAt_same {S : Me} {a : Int} (h1 : 1 ≤ a) (h2 : a ≤ S.bs.length) : S.setAt a (S.at a) = S := by
  have e5 : S.bs.set (a.toNat - 1) (S.at a) = S.bs := by rw [← at_get h1 h2]; simp
  rw [Me.setAt, e5]

theorem copy_any {W : World} {g : Nat} {L : Lay} {F : Nat → Prop} {S : Me} (h : MemAt W g L F S) (hI : S.Inv) (hl : S.bs.length ≤ 1000000000) (tb : Bool) (ta tn : Int) (fb : Bool) (fa fn n : Int) :
    Calls Try.prog 22 #[.pointer (some ⟨g, 0, none⟩), .agg #[.bool tb, .int .i64 ta, .int .i64 tn], .agg #[.bool fb, .int .i64 fa, .int .i64 fn], .int .i64 n] W fun e W' =>
      e = .returned (.int .i64 (S.copyE tb ta tn fb fa fn n)) ∧ MemAt W' g L F (S.copy tb ta tn fb fa fn n) ∧ Kept F W W' := by
  by_cases hn : n < 0
  · have e0 : S.copyE tb ta tn fb fa fn n = 1 := by simp [Me.copyE, hn]
    have e1 : S.copy tb ta tn fb fa fn n = S := by simp [Me.copy, e0]
    rw [e0, e1]
    exact (copy_neg g tb ta tn fb fa fn n hn).mono fun e W' q => ⟨q.1, h.below q.2, Kept.of_below q.2⟩
  · obtain ⟨n, rfl⟩ := Int.eq_ofNat_of_zero_le (show 0 ≤ n by omega)
    refine copy_in h hI hl tb ta tn fb fa fn n _ ?_ ?_ ?_ ?_
    · intro w' hb he
      have e0 : S.copyE tb ta tn fb fa fn n = S.loadsE fb fa fn n := by simp [Me.copyE, he, hn]
      have e1 : S.copy tb ta tn fb fa fn n = S := by rw [Me.copy, e0, if_neg he]
      rw [e0, e1]
      exact ⟨rfl, h.below hb, Kept.of_below hb⟩
    · intro w' hb he hp
      have e0 : S.copyE tb ta tn fb fa fn n = S.pieceE tb ta tn n := by simp [Me.copyE, he, hn]
      have e1 : S.copy tb ta tn fb fa fn n = S := by rw [Me.copy, e0, if_neg hp]
      rw [e0, e1]
      exact ⟨rfl, h.below hb, Kept.of_below hb⟩
    · intro w' hb h0 hp
      subst h0
      have e0 : S.copyE tb ta tn fb fa fn ((0 : Nat) : Int) = 0 := by simp [Me.copyE, Me.loadsE]; exact hp
      obtain ⟨hb0, _⟩ := pieceE_zero hp
      obtain ⟨_, h1, h2, h3⟩ := blockE_zero hb0
      have e1 : S.copy tb ta tn fb fa fn ((0 : Nat) : Int) = S := by
        rw [Me.copy, if_pos e0]
        have e2 : (⟨splice (S.at ta).ws tn.toNat (S.loads fb fa fn ((0 : Nat) : Int).toNat), splice (S.at ta).st tn.toNat (List.replicate ((0 : Nat) : Int).toNat true), false⟩ : Bk) = S.at ta := by
          rw [← h3]
          simp [splice, Me.loads]
        rw [e2, setAt_same h1 h2]
      rw [e0, e1]
      exact ⟨rfl, h.below hb, Kept.of_below hb⟩
    · intro w' he hp hc
      have e0 : S.copyE tb ta tn fb fa fn n = 0 := by simp [Me.copyE, he, hp]
      have e1 : S.copy tb ta tn fb fa fn n = S.setAt ta ⟨splice (S.at ta).ws tn.toNat (S.loads fb fa fn n), splice (S.at ta).st tn.toNat (List.replicate n true), false⟩ := by rw [Me.copy, if_pos e0]; simp
      obtain ⟨_, h1, h2, h3, g1, g2, g3, hs, _⟩ := h.grip hI hp
      rw [e0, e1]
      refine ⟨rfl, MemAt.change h h1 h2 h3 (splice_length _ _ _ (by rw [loads_length]; omega)) (splice_length _ _ _ (by simp; omega)) hc.words hc.flags (fun k _ hk h1 h2 => hc.rest k hk h1 h2), hc.kept⟩

theorem copy_len (S : Me) (tb : Bool) (ta tn : Int) (fb : Bool) (fa fn n : Int) : (S.copy tb ta tn fb fa fn n).bs.length = S.bs.length := by unfold Me.copy; split <;> simp [Me.setAt]

theorem Mem.copy {B : Nat} {W : World} {g : Nat} {F : Nat → Prop} {S : Me} (h : Mem B W g F S) (tb : Bool) (ta tn : Int) (fb : Bool) (fa fn n : Int) :
    Calls Try.prog 22 #[.pointer (some ⟨g, 0, none⟩), .agg #[.bool tb, .int .i64 ta, .int .i64 tn], .agg #[.bool fb, .int .i64 fa, .int .i64 fn], .int .i64 n] W fun e W' =>
      e = .returned (.int .i64 (S.copyE tb ta tn fb fa fn n)) ∧ Mem B W' g F (S.copy tb ta tn fb fa fn n) ∧ Kept F W W' := by
  obtain ⟨L, hl⟩ := h.lies
  exact (copy_any hl h.inv h.few tb ta tn fb fa fn n).mono fun e W' q => ⟨q.1, h.next q.2.1 (Inv.copy h.inv _ _ _ _ _ _ _) (by rw [copy_len]; exact h.few) q.2.2, q.2.2⟩

theorem Mem.copyX {B : Nat} {W : World} {g : Nat} {F : Nat → Prop} {S : Me} (h : Mem B W g F S) {tb : Bool} {ta tn : Int} {fb : Bool} {fa fn n : Int} (c : Int) (S' : Me) (h1 : S.copy tb ta tn fb fa fn n = S') (h2 : S.copyE tb ta tn fb fa fn n = c) :
    Calls Try.prog 22 #[.pointer (some ⟨g, 0, none⟩), .agg #[.bool tb, .int .i64 ta, .int .i64 tn], .agg #[.bool fb, .int .i64 fa, .int .i64 fn], .int .i64 n] W fun e W' =>
      e = .returned (.int .i64 c) ∧ Mem B W' g F S' ∧ Kept F W W' := by
  have := h.copy tb ta tn fb fa fn n
  rw [h1, h2] at this
  exact this

end Go.Proofs.Ytkgiddpeaebdfaa
