/- Walks: a new memory; a word that is loaded. -/
import Derived.Test.YtkgiddpeaebdfaaW1
namespace Go.Proofs.Ytkgiddpeaebdfaa
open Go.RowKit

theorem new_any (W : World) (n : Int) :
    Calls Try.prog 13 #[.int .i64 n] W fun e W' => e = .returned (.pointer (some ⟨W.heap.size, 0, none⟩)) ∧
      W' = W.alloc (.cells #[.int .i64 (min (max n 0) 1048576), .int .i64 0, .int .i64 0, .slice none 0 0] 63) := by
  go_enter Try.func13, Try.ntmps13
  go_wp2
  all_goals
    go_ret
    refine ⟨rfl, ?_⟩
  · rw [show min (max n 0) 1048576 = 0 from by omega]
  · rw [show min (max n 0) 1048576 = 1048576 from by omega]
  · rw [show min (max n 0) 1048576 = n from by omega]

theorem load_bad {W : World} {g : Nat} {L : Lay} {F : Nat → Prop} {S : Me} (h : MemAt W g L F S) (hI : S.Inv) (hl : S.bs.length ≤ 1000000000) (b : Bool) (a n : Int) (he : S.pieceE b a n 1 ≠ 0) :
    Calls Try.prog 17 #[.pointer (some ⟨g, 0, none⟩), .agg #[.bool b, .int .i64 a, .int .i64 n]] W fun e W' =>
      e = .returned (.tuple #[.agg #[.bool false, .int .i64 0, .int .i64 0], .int .i64 (S.pieceE b a n 1)]) ∧ Below W.heap.size W W' := by
  have hx : (S.pieceE b a n 1 != 0) = true := by simpa using he
  have hp : PosP S L b a n 1 = none := by simp [PosP, he]
  have hblk := piece_any (h.below (below_alloc (below_alloc (Below.refl _ W) (.cells #[.bool b, .int .i64 a, .int .i64 n] 23)) (.cells #[.bool false, .int .i64 0, .int .i64 0] 23))) hI hl b a n 1 (by omega)
  rw [hp] at hblk
  generalize S.pieceE b a n 1 = x at *
  have H := Lib.hid hblk
  clear hblk
  go_enter Try.func17, Try.ntmps17
  go_wp2_with fail
  refine H.out.mono ?_
  rintro e w1 ⟨rfl, hb⟩
  obtain ⟨hz, hb0, hc, hn1, hn2, hf1, hf2⟩ := two_new hb
  go_wp2
  exact bodyPost_ret (v := .tuple #[.agg #[.bool false, .int .i64 0, .int .i64 0], .int .i64 x]) (by (simp only [results, Try.results17]); go_simp) rfl ⟨rfl, by repeat (first | exact hb0 | (refine below_set ?_ (by simp) _) | apply below_alloc | apply below_drewN)⟩

theorem load_in (W : World) (g bb q len lst i j : Nat) (b : Bool) (a n : Int) (wp : Bool) (wa wn : Int) (st : Bool)
    (hblk : Calls Try.prog 33 #[.pointer (some ⟨g, 0, none⟩), .agg #[.bool b, .int .i64 a, .int .i64 n], .int .i64 1] ((W.alloc (.cells #[.bool b, .int .i64 a, .int .i64 n] 23)).alloc (.cells #[.bool false, .int .i64 0, .int .i64 0] 23)) fun e W' =>
      e = .returned (.tuple #[.pointer (some ⟨bb, q, none⟩), .int .i64 0]) ∧ Below ((W.alloc (.cells #[.bool b, .int .i64 a, .int .i64 n] 23)).alloc (.cells #[.bool false, .int .i64 0, .int .i64 0] 23)).heap.size ((W.alloc (.cells #[.bool b, .int .i64 a, .int .i64 n] 23)).alloc (.cells #[.bool false, .int .i64 0, .int .i64 0] 23)) W')
    (hbb : bb < W.heap.size) (hq : W.cell? ⟨bb, q, none⟩ = some (.slice (some ⟨i, 0, none⟩) len len)) (hq1 : W.cell? ⟨bb, q + 1, none⟩ = some (.slice (some ⟨j, 0, none⟩) lst lst)) (h0 : 0 ≤ n) (h1 : n < (len : Int)) (h2 : n < (lst : Int))
    (hi : i < W.heap.size) (hj : j < W.heap.size) (hs : W.cell? ⟨j, n.toNat, none⟩ = some (.bool st))
    (hw0 : W.cell? ⟨i, n.toNat * 3, none⟩ = some (.bool wp)) (hw1 : W.cell? ⟨i, n.toNat * 3 + 1, none⟩ = some (.int .i64 wa)) (hw2 : W.cell? ⟨i, n.toNat * 3 + 2, none⟩ = some (.int .i64 wn)) :
    Calls Try.prog 17 #[.pointer (some ⟨g, 0, none⟩), .agg #[.bool b, .int .i64 a, .int .i64 n]] W fun e W' =>
      e = .returned (.tuple #[if st = true then .agg #[.bool wp, .int .i64 wa, .int .i64 wn] else .agg #[.bool false, .int .i64 0, .int .i64 0], .int .i64 (if st = true then 0 else 14)]) ∧ Below W.heap.size W W' := by
  have H := Lib.hid hblk
  clear hblk
  cases st
  · go_enter Try.func17, Try.ntmps17
    go_wp2_with fail
    refine H.out.mono ?_
    rintro e w1 ⟨rfl, hb⟩
    obtain ⟨hz, hb0, hc, hn1, hn2, hf1, hf2⟩ := two_new hb
    go_wp2
    go_quiet (fail)
    go_wp2
    exact bodyPost_ret (v := .tuple #[.agg #[.bool false, .int .i64 0, .int .i64 0], .int .i64 14]) (by (simp only [results, Try.results17]); go_simp) rfl ⟨rfl, by repeat (first | exact hb0 | (refine below_set ?_ (by simp) _) | apply below_alloc | apply below_drewN)⟩
  · go_enter Try.func17, Try.ntmps17
    go_wp2_with fail
    refine H.out.mono ?_
    rintro e w1 ⟨rfl, hb⟩
    obtain ⟨hz, hb0, hc, hn1, hn2, hf1, hf2⟩ := two_new hb
    go_wp2
    go_quiet (fail)
    go_wp2
    go_region
    all_goals go_wp2
    all_goals exact bodyPost_ret (v := .tuple #[.agg #[.bool wp, .int .i64 wa, .int .i64 wn], .int .i64 0]) (by (simp only [results, Try.results17]); go_simp) rfl ⟨rfl, by repeat (first | exact hb0 | (refine below_set ?_ (by simp) _) | apply below_alloc | apply below_drewN | apply below_drew)⟩

end Go.Proofs.Ytkgiddpeaebdfaa
