/- Walks: a word is stored; words are cleared. -/
import Derived.Test.YtkgiddpeaebdfaaW3
namespace Go.Proofs.Ytkgiddpeaebdfaa
open Go.RowKit

theorem store_bad {W : World} {g : Nat} {L : Lay} {F : Nat → Prop} {S : Me} (h : MemAt W g L F S) (hI : S.Inv) (hl : S.bs.length ≤ 1000000000) (b : Bool) (a n : Int) (wp : Bool) (wa wn : Int) (he : S.pieceE b a n 1 ≠ 0) :
    Calls Try.prog 15 #[.pointer (some ⟨g, 0, none⟩), .agg #[.bool b, .int .i64 a, .int .i64 n], .agg #[.bool wp, .int .i64 wa, .int .i64 wn]] W fun e W' =>
      e = .returned (.int .i64 (S.pieceE b a n 1)) ∧ Below W.heap.size W W' := by
  have hx : (S.pieceE b a n 1 == 0) = false := by simpa using he
  have hp : PosP S L b a n 1 = none := by simp [PosP, he]
  have hblk := piece_any (h.below (below_alloc (below_alloc (Below.refl _ W) (.cells #[.bool b, .int .i64 a, .int .i64 n] 23)) (.cells #[.bool wp, .int .i64 wa, .int .i64 wn] 23))) hI hl b a n 1 (by omega)
  rw [hp] at hblk
  generalize S.pieceE b a n 1 = x at *
  have H := Lib.hid hblk
  clear hblk
  go_enter Try.func15, Try.ntmps15
  go_wp2_with fail
  refine H.out.mono ?_
  rintro e w1 ⟨rfl, hb⟩
  obtain ⟨hz, hb0, hc, hn1, hn2, hf1, hf2⟩ := two_new hb
  go_wp2
  go_ret
  exact ⟨rfl, by repeat (first | exact hb0 | (refine below_set ?_ (by simp) _) | apply below_alloc | apply below_drewN)⟩

/-- The world behind a Store. -/
def storeW (w1 : World) (i j n : Nat) (v1 v2 v3 v4 : Value) (nq : Nat) : World :=
  ((((w1.setCell ⟨i, n * 3, none⟩ v1).setCell ⟨i, n * 3 + 1, none⟩ v2).setCell ⟨i, n * 3 + 2, none⟩ v3).setCell ⟨j, n, none⟩ v4).drewN nq

theorem storeW_i {w1 : World} {i j n : Nat} {v1 v2 v3 v4 : Value} {nq : Nat} {cs : Array Value} {t : TypeId} (hi : w1.heap[i]? = some (.cells cs t (0, 0))) (hne : i ≠ j) :
    (storeW w1 i j n v1 v2 v3 v4 nq).heap[i]? = some (.cells (((cs.setIfInBounds (n * 3) v1).setIfInBounds (n * 3 + 1) v2).setIfInBounds (n * 3 + 2) v3) t (0, 0)) := by
  rw [storeW, World.heap_drewN, Below.heap_setCell _ _ _ _ hne]
  exact blk_set (blk_set (blk_set hi _ v1) _ v2) _ v3

theorem storeW_j {w1 : World} {i j n : Nat} {v1 v2 v3 v4 : Value} {nq : Nat} {cs : Array Value} {t : TypeId} (hj : w1.heap[j]? = some (.cells cs t (0, 0))) (hne : j ≠ i) :
    (storeW w1 i j n v1 v2 v3 v4 nq).heap[j]? = some (.cells (cs.setIfInBounds n v4) t (0, 0)) := by
  rw [storeW, World.heap_drewN]
  refine blk_set ?_ n v4
  rw [Below.heap_setCell _ _ _ _ hne, Below.heap_setCell _ _ _ _ hne, Below.heap_setCell _ _ _ _ hne]
  exact hj

theorem storeW_o {w1 : World} {i j n : Nat} {v1 v2 v3 v4 : Value} {nq k : Nat} (h1 : k ≠ i) (h2 : k ≠ j) : (storeW w1 i j n v1 v2 v3 v4 nq).heap[k]? = w1.heap[k]? := by
  rw [storeW, World.heap_drewN, Below.heap_setCell _ _ _ _ h2, Below.heap_setCell _ _ _ _ h1, Below.heap_setCell _ _ _ _ h1, Below.heap_setCell _ _ _ _ h1]

theorem storeW_kept {F : Nat → Prop} {w w1 : World} {i j n : Nat} {v1 v2 v3 v4 : Value} {nq : Nat} (h : Kept F w w1) (hi : F i) (hj : F j) : Kept F w (storeW w1 i j n v1 v2 v3 v4 nq) :=
  ((((h.set2 ⟨i, n * 3, none⟩ v1 hi).set2 ⟨i, n * 3 + 1, none⟩ v2 hi).set2 ⟨i, n * 3 + 2, none⟩ v3 hi).set2 ⟨j, n, none⟩ v4 hj).drewN nq

/-- What is at hand of an allocation that has so many words from there on. -/
theorem MemAt.grip {W : World} {g : Nat} {L : Lay} {F : Nat → Prop} {S : Me} (h : MemAt W g L F S) (hI : S.Inv) {b : Bool} {a n k : Int} (he : S.pieceE b a n k = 0) :
    b = true ∧ 1 ≤ a ∧ a ≤ S.bs.length ∧ (S.at a).freed = false ∧ 0 ≤ n ∧ k ≤ (S.at a).ws.length ∧ n ≤ ((S.at a).ws.length : Int) - k ∧ (S.at a).ws.length = (S.at a).st.length ∧ (S.at a).ws.length ≤ 1048576 ∧
      L.bb < W.heap.size ∧ W.cell? ⟨L.bb, (a.toNat - 1) * 3, none⟩ = some (.slice (some ⟨L.I (a.toNat - 1), 0, none⟩) (S.at a).ws.length (S.at a).ws.length) ∧
      W.cell? ⟨L.bb, (a.toNat - 1) * 3 + 1, none⟩ = some (.slice (some ⟨L.J (a.toNat - 1), 0, none⟩) (S.at a).ws.length (S.at a).ws.length) ∧
      F (L.I (a.toNat - 1)) ∧ W.heap[L.I (a.toNat - 1)]? = some (.cells (wcells (S.at a).ws).toArray 23 (0, 0)) ∧ F (L.J (a.toNat - 1)) ∧ W.heap[L.J (a.toNat - 1)]? = some (.cells (bcells (S.at a).st).toArray 4 (0, 0)) ∧
      L.I (a.toNat - 1) ≠ L.J (a.toNat - 1) := by
  obtain ⟨hb, g1, g2, g3⟩ := pieceE_zero he
  obtain ⟨rfl, h1, h2, h3⟩ := blockE_zero hb
  obtain ⟨d1, d2, d3, d4, d5⟩ := h.row_cells h1 h2
  have hs := Inv.at_same hI a h1 h2
  obtain ⟨q1, q2⟩ := h.wds _ _ (bs_at h1 h2) h3
  obtain ⟨r1, r2⟩ := h.sts _ _ (bs_at h1 h2) h3
  have e2 : c0 (S.at a) (L.I (a.toNat - 1)) = .slice (some ⟨L.I (a.toNat - 1), 0, none⟩) (S.at a).ws.length (S.at a).ws.length := by simp [c0, h3]
  have e3 : c1 (S.at a) (L.J (a.toNat - 1)) = .slice (some ⟨L.J (a.toNat - 1), 0, none⟩) (S.at a).ws.length (S.at a).ws.length := by simp [c1, h3, hs]
  exact ⟨rfl, h1, h2, h3, g1, g2, g3, hs, hI.len_le (at_mem h1 h2), d1, e2 ▸ d3, e3 ▸ d4, q1, q2, r1, r2, blk_ne q2 r2 (by decide)⟩

theorem store_any {W : World} {g : Nat} {L : Lay} {F : Nat → Prop} {S : Me} (h : MemAt W g L F S) (hI : S.Inv) (hl : S.bs.length ≤ 1000000000) (b : Bool) (a n : Int) (wp : Bool) (wa wn : Int) :
    Calls Try.prog 15 #[.pointer (some ⟨g, 0, none⟩), .agg #[.bool b, .int .i64 a, .int .i64 n], .agg #[.bool wp, .int .i64 wa, .int .i64 wn]] W fun e W' =>
      e = .returned (.int .i64 (S.pieceE b a n 1)) ∧ MemAt W' g L F (S.store b a n ⟨wp, wa, wn⟩) ∧ Kept F W W' := by
  by_cases he : S.pieceE b a n 1 = 0
  · have hblk := piece_any (h.below (below_alloc (below_alloc (Below.refl _ W) (.cells #[.bool b, .int .i64 a, .int .i64 n] 23)) (.cells #[.bool wp, .int .i64 wa, .int .i64 wn] 23))) hI hl b a n 1 (by omega)
    rw [he, PosP, if_pos he] at hblk
    obtain ⟨rfl, h1, h2, h3, g1, g2, g3, hs, hlen, d1, d3, d4, q1, q2, r1, r2, hne⟩ := h.grip hI he
    obtain ⟨w1, w2, w3, w4, w5, w6⟩ := h.word_cells hI he (by omega)
    refine store_in W g L.bb ((a.toNat - 1) * 3) _ _ _ true a n wp wa wn _ _ _ _ hblk d1 d3 d4 g1 (by omega) w1 w2 hne w6 w3 w4 w5 (fun k => blk_frozen q2 k) (fun k => blk_frozen r2 k) _ ?_
    intro w1 nq hb0
    have e1 : S.store true a n ⟨wp, wa, wn⟩ = S.setAt a ⟨(S.at a).ws.set n.toNat ⟨wp, wa, wn⟩, (S.at a).st.set n.toNat true, false⟩ := by rw [Me.store, if_pos he]
    rw [e1, he]
    have m2 : w1.heap[L.I (a.toNat - 1)]? = _ := (hb0.block _ (blk_lt q2)).trans q2
    have m3 : w1.heap[L.J (a.toNat - 1)]? = _ := (hb0.block _ (blk_lt r2)).trans r2
    change _ ∧ MemAt (storeW w1 _ _ n.toNat _ _ _ _ nq) g L F _ ∧ Kept F W (storeW w1 _ _ n.toNat _ _ _ _ nq)
    refine ⟨rfl, ?_, storeW_kept (Kept.of_below hb0) q1 r1⟩
    refine MemAt.change (h.below hb0) h1 h2 h3 (by simp) (by simp) ?_ ?_ ?_
    · rw [storeW_i m2 hne, wcells_set]
      simp
    · rw [storeW_j m3 hne.symm]
      simp [bcells, List.map_set]
    · intro k _ _ hk1 hk2
      exact storeW_o hk1 hk2
  · have e1 : S.store b a n ⟨wp, wa, wn⟩ = S := by simp [Me.store, he]
    rw [e1]
    exact (store_bad h hI hl b a n wp wa wn he).mono fun e W' q => ⟨q.1, h.below q.2, Kept.of_below q.2⟩

end Go.Proofs.Ytkgiddpeaebdfaa
