/- Walks: words are cleared. -/
import Derived.Test.YtkgiddpeaebdfaaW4
import Derived.Lib.SliceRun
import Derived.KernelRfl
namespace Go.Proofs.Ytkgiddpeaebdfaa
open Go.RowKit

theorem splice_cons {α : Type} (l : List α) (o : Nat) (v : α) (r : List α) (h : o < l.length) : splice (l.set o v) (o + 1) r = splice l o (v :: r) := by
  have e1 : (l.set o v).take (o + 1) = l.take o ++ [v] := by
    rw [List.take_succ_eq_append_getElem (by simpa using h), List.take_set_of_le (Nat.le_refl o)]
    simp
  have e2 : (l.set o v).drop (o + 1 + r.length) = l.drop (o + (v :: r).length) := by
    rw [List.drop_set_of_lt (by omega)]
    simp [Nat.add_assoc, Nat.add_comm 1]
  simp [splice, e1, e2]

theorem setCells_heap (g : Nat) (t : TypeId) : ∀ (vs : List Value) (o : Nat) (l : List Value) (w : World), w.heap[g]? = some (.cells l.toArray t (0, 0)) → o + vs.length ≤ l.length →
    (w.setCells g o vs).heap[g]? = some (.cells (splice l o vs).toArray t (0, 0))
  | [], o, l, w, h, _ => by
    rw [World.setCells, h, splice]
    simp
  | v :: r, o, l, w, h, hl => by
    simp at hl
    have h1 := blk_set h o v
    have h2 := setCells_heap g t r (o + 1) (l.set o v) (w.setCell ⟨g, o, none⟩ v) (by simpa using h1) (by simp; omega)
    rw [World.setCells, h2, splice_cons _ _ _ _ (by omega)]

theorem setCells_o (g k : Nat) (hk : k ≠ g) : ∀ (vs : List Value) (o : Nat) (w : World), (w.setCells g o vs).heap[k]? = w.heap[k]?
  | [], _, _ => rfl
  | v :: r, o, w => by
    rw [World.setCells, setCells_o g k hk r]
    exact Below.heap_setCell _ _ _ _ hk

theorem setCells_kept {F : Nat → Prop} (g : Nat) (hg : F g) : ∀ (vs : List Value) (o : Nat) {a b : World}, Kept F a b → Kept F a (b.setCells g o vs)
  | [], _, _, _, h => h
  | v :: r, o, _, _, h => setCells_kept g hg r (o + 1) (h.set2 ⟨g, o, none⟩ v hg)

theorem clear_neg {W : World} (g : Nat) (b : Bool) (a n k : Int) (hk : k < 0) :
    Calls Try.prog 16 #[.pointer (some ⟨g, 0, none⟩), .agg #[.bool b, .int .i64 a, .int .i64 n], .int .i64 k] W fun e W' =>
      e = .returned (.int .i64 1) ∧ Below W.heap.size W W' := by
  go_enter Try.func16, Try.ntmps16
  go_wp2
  go_ret
  exact ⟨rfl, by repeat (first | exact Below.refl _ _ | apply below_alloc | apply below_drewN)⟩

theorem clear_bad {W : World} {g : Nat} {L : Lay} {F : Nat → Prop} {S : Me} (h : MemAt W g L F S) (hI : S.Inv) (hl : S.bs.length ≤ 1000000000) (b : Bool) (a n k : Int) (hk : 0 ≤ k) (he : S.pieceE b a n k ≠ 0) :
    Calls Try.prog 16 #[.pointer (some ⟨g, 0, none⟩), .agg #[.bool b, .int .i64 a, .int .i64 n], .int .i64 k] W fun e W' =>
      e = .returned (.int .i64 (S.pieceE b a n k)) ∧ Below W.heap.size W W' := by
  have hx : (S.pieceE b a n k == 0) = false := by simpa using he
  have hp : PosP S L b a n k = none := by simp [PosP, he]
  have hblk := piece_any (h.below (below_alloc (Below.refl _ W) (.cells #[.bool b, .int .i64 a, .int .i64 n] 23))) hI hl b a n k hk
  rw [hp] at hblk
  generalize S.pieceE b a n k = x at *
  have H := Lib.hid hblk
  clear hblk
  go_enter Try.func16, Try.ntmps16
  go_wp2_with fail
  refine H.out.mono ?_
  rintro e w1 ⟨rfl, hb⟩
  obtain ⟨hz, hb0, hc, hn1, hf1⟩ := one_new hb
  go_wp2
  go_ret
  exact ⟨rfl, by repeat (first | exact hb0 | (refine below_set ?_ (by simp) _) | apply below_alloc | apply below_drewN)⟩

theorem Try.zero_bool (w : World) : (zeroValue 4).run Try.prog w = .ok (.bool false) w := by kernel_rfl

theorem clear_in (W : World) (g bb q len j : Nat) (b : Bool) (a : Int) (n k : Nat) (cs : Array Value)
    (hblk : Calls Try.prog 33 #[.pointer (some ⟨g, 0, none⟩), .agg #[.bool b, .int .i64 a, .int .i64 n], .int .i64 k] (W.alloc (.cells #[.bool b, .int .i64 a, .int .i64 n] 23)) fun e W' =>
      e = .returned (.tuple #[.pointer (some ⟨bb, q, none⟩), .int .i64 0]) ∧ Below (W.alloc (.cells #[.bool b, .int .i64 a, .int .i64 n] 23)).heap.size (W.alloc (.cells #[.bool b, .int .i64 a, .int .i64 n] 23)) W')
    (hbb : bb < W.heap.size) (hq1 : W.cell? ⟨bb, q + 1, none⟩ = some (.slice (some ⟨j, 0, none⟩) len len)) (h1 : n + k ≤ len) (h2 : len ≤ 1048576) (hk : 0 < k)
    (hj : j < W.heap.size) (hjh : W.heap[j]? = some (.cells cs 4 (0, 0))) (hcs : cs.size = len) (R : Ending → World → Prop)
    (hR : ∀ w1 nq, Below W.heap.size W w1 → R (.returned (.int .i64 0)) ((w1.drewN nq).setCells j n (List.replicate k (.bool false)))) :
    Calls Try.prog 16 #[.pointer (some ⟨g, 0, none⟩), .agg #[.bool b, .int .i64 a, .int .i64 n], .int .i64 k] W R := by
  have H := Lib.hid hblk
  have HR := Lib.hid hR
  have HJ := Lib.hid hjh
  have HC := Lib.hid hcs
  clear hblk hR hjh hcs
  go_enter Try.func16, Try.ntmps16
  go_wp2_with fail
  refine H.out.mono ?_
  rintro e w1 ⟨rfl, hb⟩
  obtain ⟨hz, hb0, hc, hn1, hf1⟩ := one_new hb
  have hj1 : w1.heap[j]? = some (.cells cs 4 (0, 0)) := (hb0.block j hj).trans HJ.out
  have hcl : ∀ ty m, m = k → (Builtin.clear_ #[43] ty #[.slice (some ⟨j, n, none⟩) m (len - n)]).run Try.prog w1.drew = .ok (.tuple #[]) (w1.drew.setCells j n (List.replicate k (.bool false))) := by
    rintro ty m rfl
    refine Lib.run_clear_slice w1.drew 43 4 ty (.bool false) Try.underlying43 (fun w => Try.zero_bool w) rfl rfl j n m (len - n) hk (fun t ht => ?_) (fun t ht => ?_)
    · have hcs := HC.out
      rw [blk_cell (w := w1.drew) hj1]
      simp; omega
    · exact blk_frozen (w := w1.drew) hj1 _
  have hcl1 := fun ty => hcl ty k rfl
  have hcl2 := fun ty => hcl ty (n + k - n) (by omega)
  clear hcl hj1
  go_wp2
  go_region
  all_goals go_wp2
  all_goals exact HR.out w1 1 hb0

theorem clear_zero (W : World) (g bb q len : Nat) (B : Option Addr) (b : Bool) (a : Int) (n : Nat)
    (hblk : Calls Try.prog 33 #[.pointer (some ⟨g, 0, none⟩), .agg #[.bool b, .int .i64 a, .int .i64 n], .int .i64 0] (W.alloc (.cells #[.bool b, .int .i64 a, .int .i64 n] 23)) fun e W' =>
      e = .returned (.tuple #[.pointer (some ⟨bb, q, none⟩), .int .i64 0]) ∧ Below (W.alloc (.cells #[.bool b, .int .i64 a, .int .i64 n] 23)).heap.size (W.alloc (.cells #[.bool b, .int .i64 a, .int .i64 n] 23)) W')
    (hbb : bb < W.heap.size) (hq1 : W.cell? ⟨bb, q + 1, none⟩ = some (.slice B len len)) (h1 : n ≤ len) (h2 : len ≤ 1048576) :
    Calls Try.prog 16 #[.pointer (some ⟨g, 0, none⟩), .agg #[.bool b, .int .i64 a, .int .i64 n], .int .i64 0] W fun e W' => e = .returned (.int .i64 0) ∧ Below W.heap.size W W' := by
  have H := Lib.hid hblk
  clear hblk
  have hcl : ∀ ty A c m w, m = 0 → (Builtin.clear_ #[43] ty #[.slice A m c]).run Try.prog w = .ok (.tuple #[]) w := by
    rintro ty A c m w rfl
    cases A <;> simp [Builtin.clear_, run_underlying Try.underlying43]
  have hcl1 := fun ty A c w => hcl ty A c 0 w rfl
  have hcl2 := fun ty A c w => hcl ty A c (n - n) w (by omega)
  clear hcl
  go_enter Try.func16, Try.ntmps16
  go_wp2_with fail
  refine H.out.mono ?_
  rintro e w1 ⟨rfl, hb⟩
  obtain ⟨hz, hb0, hc, hn1, hf1⟩ := one_new hb
  go_wp2
  go_region
  all_goals go_wp2
  all_goals go_ret
  all_goals exact ⟨rfl, by repeat (first | exact hb0 | apply below_alloc | apply below_drewN | apply below_drew)⟩

theorem clear_any {W : World} {g : Nat} {L : Lay} {F : Nat → Prop} {S : Me} (h : MemAt W g L F S) (hI : S.Inv) (hl : S.bs.length ≤ 1000000000) (b : Bool) (a n k : Int) :
    Calls Try.prog 16 #[.pointer (some ⟨g, 0, none⟩), .agg #[.bool b, .int .i64 a, .int .i64 n], .int .i64 k] W fun e W' =>
      e = .returned (.int .i64 (S.clearE b a n k)) ∧ MemAt W' g L F (S.clear b a n k) ∧ Kept F W W' := by
  by_cases hk : k < 0
  · have e0 : S.clearE b a n k = 1 := by simp [Me.clearE, hk]
    have e1 : S.clear b a n k = S := by simp [Me.clear, e0]
    rw [e0, e1]
    exact (clear_neg g b a n k hk).mono fun e W' q => ⟨q.1, h.below q.2, Kept.of_below q.2⟩
  · have e0 : S.clearE b a n k = S.pieceE b a n k := by simp [Me.clearE, hk]
    by_cases he : S.pieceE b a n k = 0
    · have hblk := piece_any (h.below (below_alloc (Below.refl _ W) (.cells #[.bool b, .int .i64 a, .int .i64 n] 23))) hI hl b a n k (by omega)
      rw [he, PosP, if_pos he] at hblk
      obtain ⟨rfl, h1, h2, h3, g1, g2, g3, hs, hlen, d1, d3, d4, q1, q2, r1, r2, hne⟩ := h.grip hI he
      have e1 : S.clear true a n k = S.setAt a ⟨(S.at a).ws, splice (S.at a).st n.toNat (List.replicate k.toNat false), false⟩ := by rw [Me.clear, if_pos (by rw [e0, he])]
      rw [e0, he, e1]
      obtain ⟨n, rfl⟩ := Int.eq_ofNat_of_zero_le g1
      obtain ⟨k, rfl⟩ := Int.eq_ofNat_of_zero_le (show 0 ≤ k by omega)
      simp only [Int.toNat_natCast]
      by_cases hk0 : k = 0
      · subst hk0
        have e2 : S.setAt a ⟨(S.at a).ws, splice (S.at a).st n (List.replicate 0 false), false⟩ = S := by
          have e3 : splice (S.at a).st n (List.replicate 0 false) = (S.at a).st := by simp [splice]
          have e4 : (⟨(S.at a).ws, (S.at a).st, false⟩ : Bk) = S.at a := by rw [← h3]
          rw [e3, e4, Me.setAt]
          have e5 : S.bs.set (a.toNat - 1) (S.at a) = S.bs := by rw [← at_get h1 h2]; simp
          rw [e5]
        rw [e2]
        exact (clear_zero W g L.bb ((a.toNat - 1) * 3) _ _ true a n hblk d1 d4 (by omega) hlen).mono fun e W' q => ⟨q.1, h.below q.2, Kept.of_below q.2⟩
      · refine clear_in W g L.bb ((a.toNat - 1) * 3) _ _ true a n k _ hblk d1 d4 (by omega) hlen (by omega) (blk_lt r2) r2 (by simp [bcells]; omega) _ ?_
        intro w1 nq hb0
        refine ⟨rfl, ?_, setCells_kept _ r1 _ _ ((Kept.of_below hb0).drewN nq)⟩
        have m2 := (hb0.block _ (blk_lt q2)).trans q2
        have m3 := (hb0.block _ (blk_lt r2)).trans r2
        refine MemAt.change (h.below hb0) h1 h2 h3 rfl (splice_length _ _ _ (by simp; omega)) ?_ ?_ ?_
        · rw [setCells_o _ _ hne]
          exact m2
        · rw [setCells_heap _ 4 _ _ (bcells (S.at a).st) (w1.drewN nq) m3 (by simp [bcells]; omega)]
          simp [splice, bcells]
        · intro k _ _ hk1 hk2
          exact setCells_o _ _ hk2 _ _ _
    · have e1 : S.clear b a n k = S := by simp [Me.clear, e0, he]
      rw [e0, e1]
      exact (clear_bad h hI hl b a n k (by omega) he).mono fun e W' q => ⟨q.1, h.below q.2, Kept.of_below q.2⟩

end Go.Proofs.Ytkgiddpeaebdfaa
