/- What Alloc does. -/
import Derived.Test.YtkgiddpeaebdfaaW6
namespace Go.Proofs.Ytkgiddpeaebdfaa
open Go.RowKit

theorem alloc_any {W : World} {g : Nat} {L : Lay} {F : Nat → Prop} {S : Me} (h : MemAt W g L F S) (hI : S.Inv) (hl : S.bs.length ≤ 1000000000) (n : Int) :
    Calls Try.prog 14 #[.pointer (some ⟨g, 0, none⟩), .int .i64 n] W fun e W' =>
      e = .returned (.tuple #[.agg #[.bool (S.allocW n).p, .int .i64 (S.allocW n).a, .int .i64 (S.allocW n).n], .int .i64 (S.allocE n)]) ∧ (∃ L', MemAt W' g L' (More W F) (S.alloc n)) ∧ Kept F W W' := by
  by_cases h0 : n < 0
  · have e0 : S.allocE n = 1 := by simp [Me.allocE, h0]
    have e1 : S.alloc n = S := by simp [Me.alloc, e0]
    have e2 : S.allocW n = Wd.zero := by simp [Me.allocW, e0]
    rw [e0, e1, e2]
    exact (alloc_neg g n h0).mono fun e W' q => ⟨q.1, ⟨L, (h.below q.2).mono fun k hk => .inl hk⟩, Kept.of_below q.2⟩
  · by_cases h1 : S.room - S.used < n
    · have e0 : S.allocE n = 10 := by simp [Me.allocE, h0, h1]
      have e1 : S.alloc n = S := by simp [Me.alloc, e0]
      have e2 : S.allocW n = Wd.zero := by simp [Me.allocW, e0]
      rw [e0, e1, e2]
      exact (alloc_full h hI n (by omega) h1).mono fun e W' q => ⟨q.1, ⟨L, (h.below q.2).mono fun k hk => .inl hk⟩, Kept.of_below q.2⟩
    · have e0 : S.allocE n = 0 := by simp [Me.allocE, h0, h1]
      have e1 : S.alloc n = ⟨S.room, S.used + n, S.live + 1, S.bs ++ [⟨List.replicate n.toNat Wd.zero, List.replicate n.toNat false, false⟩]⟩ := by rw [Me.alloc, if_pos e0]
      have e2 : S.allocW n = ⟨true, (S.bs.length : Int) + 1, 0⟩ := by rw [Me.allocW, if_pos e0]
      rw [e0, e1, e2]
      obtain ⟨n, rfl⟩ := Int.eq_ofNat_of_zero_le (show 0 ≤ n by omega)
      simp only [Int.toNat_natCast]
      have i1 := hI.used
      have i2 := hI.live
      have i3 : (S.bs.map Bk.one).sum ≤ S.bs.length := by
        generalize S.bs = l
        induction l with
        | nil => simp
        | cons c l ih =>
          have : Bk.one c ≤ 1 := by unfold Bk.one; split <;> omega
          simp
          omega
      have hob : ∀ k, (Value.slice L.bo S.bs.length L.cap).ownBlock = some k → F k ∧ k < W.heap.size ∧ k ≠ g := by
        intro k hk
        by_cases hn : S.bs.length = 0
        · rw [(h.nil hn).1] at hk
          simp [Value.ownBlock] at hk
        · obtain ⟨r1, r2, cur, r3, _⟩ := h.row (by omega)
          rw [r1] at hk
          simp [Value.ownBlock] at hk
          subst hk
          exact ⟨r2, blk_lt r3, blk_ne r3 h.hg (by decide)⟩
      refine alloc_in W g n S.bs.length L.bo L.cap S.room S.used S.live _ h.hg h.own (fun k hk => (hob k hk).2) hI.room1 (by omega) (by omega) (by omega) (by omega) hl _ ?_
      intro w1 W' A c gw gs g1 g2 hgw hgs hw hs hk hown hat hW'
      have lg := blk_lt h.hg
      have n1 : g ≠ W.heap.size := by omega
      have x1 : W'.heap[g]? = some (.cells #[.int .i64 S.room, .int .i64 (S.used + n), .int .i64 (S.live + 1), .slice A (S.bs.length + 1) c] 63 (0, 0)) := by
        subst hW'
        rw [Below.heap_setCell _ _ _ _ n1, Below.heap_setCell _ _ _ _ n1, Below.heap_setCell _ _ _ _ n1]
        simpa using blk_set g1 3 (.slice A (S.bs.length + 1) c)
      have x2 : ∀ k, k ≠ g → k ≠ W.heap.size → W'.heap[k]? = w1.heap[k]? := by
        intro k k1 k2
        subst hW'
        rw [Below.heap_setCell _ _ _ _ k2, Below.heap_setCell _ _ _ _ k2, Below.heap_setCell _ _ _ _ k2, Below.heap_setCell _ _ _ _ k1]
      have x3 : Kept F W W' := by
        subst hW'
        refine Kept.set (Kept.set (Kept.set (Kept.set2 (hk.mono ?_) _ _ h.fg) _ _ (fun q => absurd q (Nat.lt_irrefl _))) _ _ (fun q => absurd q (Nat.lt_irrefl _))) _ _ (fun q => absurd q (Nat.lt_irrefl _))
        intro k _ q
        rcases q with rfl | q
        · exact h.fg
        · exact (hob k q.symm).1
      clear hW'
      refine ⟨rfl, ?_, x3⟩
      obtain ⟨L', m1, m2⟩ := MemAt.alloc (W' := W') (S' := ⟨S.room, S.used + n, S.live + 1, S.bs ++ [⟨List.replicate n Wd.zero, List.replicate n false, false⟩]⟩) (gw := gw) (gs := gs) h rfl rfl (by simp)
        (v := .slice A (S.bs.length + 1) c)
        (own_move (by simpa using hown) (fun k hk' => by
          have hlt : ∃ cells, w1.heap[k]? = some (.cells cells 65 (0, 0)) := by
            obtain ⟨_, ⟨_, h00⟩ | ⟨g', cap', cur', hv', _, hh', _⟩⟩ := hown
            · omega
            · rw [hv'] at hk'
              simp [Value.ownBlock] at hk'
              subst hk'
              exact ⟨_, hh'⟩
          obtain ⟨cells, hc⟩ := hlt
          exact x2 k (blk_ne hc g1 (by decide)) (blk_ne hc g2 (by decide))))
        hat x1 (by omega) (by omega) ((x2 gw (by omega) (by omega)).trans (by simpa [zw] using hw)) ((x2 gs (by omega) (by omega)).trans (by simpa [zb] using hs))
        (fun k hF hlt k1 k2 => (x2 k k1 (by omega)).trans (hk.block k hlt (fun q => q.elim k1 k2)))
      exact ⟨L', m1⟩

theorem new_at (W : World) (n : Int) : MemAt (W.alloc (.cells #[.int .i64 (min (max n 0) 1048576), .int .i64 0, .int .i64 0, .slice none 0 0] 63)) W.heap.size ⟨none, 0, 0, fun _ => 0, fun _ => 0⟩ (fun k => k = W.heap.size) (Me.new n) :=
  ⟨heap_alloc_new W _, rfl, fun _ => ⟨rfl, rfl⟩, fun h => by simp [Me.new] at h, fun i b h => by simp [Me.new] at h, fun i b h => by simp [Me.new] at h, fun i k b c h => by simp [Me.new] at h⟩

end Go.Proofs.Ytkgiddpeaebdfaa
