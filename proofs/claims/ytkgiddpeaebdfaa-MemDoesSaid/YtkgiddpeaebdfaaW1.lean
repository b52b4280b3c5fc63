/- Walks: what the calls of package mem do, one by one. -/
import Derived.Test.YtkgiddpeaebdfaaProg
import Derived.Test.YtkgiddpeaebdfaaRep
import Derived.Lib.Hide
import Derived.BigQuiet
import Derived.Deep.QuietTactic
import Derived.WalkSpells
import Derived.WalkLawsBesides
namespace Go.Proofs.Ytkgiddpeaebdfaa
open Go.RowKit

theorem below_alloc {w W : World} (h : Below w.heap.size w W) (o : Obj) : Below w.heap.size w (W.alloc o) := h.alloc h.size o
theorem below_drew {w W : World} (h : Below w.heap.size w W) : Below w.heap.size w W.drew := h.drew
theorem below_drewN {w W : World} (h : Below w.heap.size w W) (n : Nat) : Below w.heap.size w (W.drewN n) := ⟨h.os, h.tape, h.output, h.size, h.block⟩

theorem below_set {w W : World} (h : Below w.heap.size w W) {p : Addr} (hp : w.heap.size ≤ p.block) (u : Value) : Below w.heap.size w (W.setCell p u) := h.setCell hp u

/-- What two new blocks hold behind a call that leaves what was there as it was. -/
theorem two_new {W w1 : World} {cs ds : Array Value} {t u : TypeId} (hb : Below ((W.alloc (.cells cs t)).alloc (.cells ds u)).heap.size ((W.alloc (.cells cs t)).alloc (.cells ds u)) w1) :
    W.heap.size + 1 < w1.heap.size ∧ Below W.heap.size W w1 ∧ (∀ b o, b < W.heap.size → w1.cell? ⟨b, o, none⟩ = W.cell? ⟨b, o, none⟩) ∧ (∀ i, w1.cell? ⟨W.heap.size, i, none⟩ = cs[i]?) ∧ (∀ i, w1.cell? ⟨W.heap.size + 1, i, none⟩ = ds[i]?) ∧
      (∀ i, w1.frozen? ⟨W.heap.size, i, none⟩ = false) ∧ (∀ i, w1.frozen? ⟨W.heap.size + 1, i, none⟩ = false) := by
  have h0 : Below W.heap.size W w1 := Below.trans ((below_alloc (below_alloc (Below.refl _ W) (.cells cs t)) (.cells ds u))) (hb.mono (by simp; omega))
  have e1 : ((W.alloc (.cells cs t)).alloc (.cells ds u)).heap[W.heap.size]? = some (.cells cs t (0, 0)) := blk_alloc (heap_alloc_new W _) _
  have e2 : ((W.alloc (.cells cs t)).alloc (.cells ds u)).heap[W.heap.size + 1]? = some (.cells ds u (0, 0)) := by
    have := heap_alloc_new (W.alloc (.cells cs t)) (.cells ds u)
    simpa using this
  have f1 : w1.heap[W.heap.size]? = some (.cells cs t (0, 0)) := (hb.block _ (by simp; omega)).trans e1
  have f2 : w1.heap[W.heap.size + 1]? = some (.cells ds u (0, 0)) := (hb.block _ (by simp)).trans e2
  refine ⟨blk_lt f2, h0, fun b o h => h0.cell (p := ⟨b, o, none⟩) h, fun i => blk_cell f1 i, fun i => blk_cell f2 i, fun i => blk_frozen f1 i, fun i => blk_frozen f2 i⟩

theorem one_new {W w1 : World} {cs : Array Value} {t : TypeId} (hb : Below (W.alloc (.cells cs t)).heap.size (W.alloc (.cells cs t)) w1) :
    W.heap.size < w1.heap.size ∧ Below W.heap.size W w1 ∧ (∀ b o, b < W.heap.size → w1.cell? ⟨b, o, none⟩ = W.cell? ⟨b, o, none⟩) ∧ (∀ i, w1.cell? ⟨W.heap.size, i, none⟩ = cs[i]?) ∧
      (∀ i, w1.frozen? ⟨W.heap.size, i, none⟩ = false) := by
  have h0 : Below W.heap.size W w1 := Below.trans (below_alloc (Below.refl _ W) (.cells cs t)) (hb.mono (by simp))
  have f1 : w1.heap[W.heap.size]? = some (.cells cs t (0, 0)) := (hb.block _ (by simp)).trans (heap_alloc_new W _)
  exact ⟨blk_lt f1, h0, fun b o h => h0.cell (p := ⟨b, o, none⟩) h, fun i => blk_cell f1 i, fun i => blk_frozen f1 i⟩

theorem block_kind (W : World) (g : Nat) (a n : Int) :
    Calls Try.prog 34 #[.pointer (some ⟨g, 0, none⟩), .agg #[.bool false, .int .i64 a, .int .i64 n]] W fun e W' =>
      e = .returned (.tuple #[.pointer none, .int .i64 11]) ∧ Below W.heap.size W W' := by
  go_enter Try.func34, Try.ntmps34
  go_wp2
  go_ret2
  exact ⟨rfl, by repeat (first | exact Below.refl _ _ | apply below_alloc)⟩

theorem block_range (W : World) (g len cap : Nat) (bo : Option Addr) (a n : Int) (hc : W.cell? ⟨g, 3, none⟩ = some (.slice bo len cap)) (hg : g < W.heap.size) (h : a < 1 ∨ (len : Int) < a) :
    Calls Try.prog 34 #[.pointer (some ⟨g, 0, none⟩), .agg #[.bool true, .int .i64 a, .int .i64 n]] W fun e W' =>
      e = .returned (.tuple #[.pointer none, .int .i64 13]) ∧ Below W.heap.size W W' := by
  by_cases h1 : a < 1
  · go_enter Try.func34, Try.ntmps34
    go_wp2
    go_quiet (fail)
    go_wp2
    go_ret2
    exact ⟨rfl, by repeat (first | exact Below.refl _ _ | apply below_alloc | apply below_drewN)⟩
  · have h2 : (len : Int) < a := by omega
    have h3 : decide (a < 1) = false := by simpa using h1
    go_enter Try.func34, Try.ntmps34
    go_wp2
    go_quiet (fail)
    go_wp2
    go_ret2
    exact ⟨rfl, by repeat (first | exact Below.refl _ _ | apply below_alloc | apply below_drewN)⟩

theorem block_in (W : World) (g len cap bb : Nat) (a n : Int) (f : Bool) (hc : W.cell? ⟨g, 3, none⟩ = some (.slice (some ⟨bb, 0, none⟩) len cap)) (hg : g < W.heap.size) (hbb : bb < W.heap.size) (hl : len ≤ 1000000000)
    (h1 : ¬ a < 1) (h2 : ¬ (len : Int) < a) (hf : W.cell? ⟨bb, (a.toNat - 1) * 3 + 2, none⟩ = some (.bool f)) :
    Calls Try.prog 34 #[.pointer (some ⟨g, 0, none⟩), .agg #[.bool true, .int .i64 a, .int .i64 n]] W fun e W' =>
      e = .returned (.tuple #[.pointer (if f = true then none else some ⟨bb, (a.toNat - 1) * 3, none⟩), .int .i64 (if f = true then 12 else 0)]) ∧ Below W.heap.size W W' := by
  have h3 : decide (a < 1) = false := by simpa using h1
  cases f
  · go_enter Try.func34, Try.ntmps34
    go_wp2
    go_quiet (fail)
    go_wp2
    go_quiet (fail)
    go_wp2
    go_ret2
    exact ⟨rfl, by repeat (first | exact Below.refl _ _ | apply below_alloc | apply below_drewN)⟩
  · go_enter Try.func34, Try.ntmps34
    go_wp2
    go_quiet (fail)
    go_wp2
    go_quiet (fail)
    go_wp2
    go_ret2
    exact ⟨rfl, by repeat (first | exact Below.refl _ _ | apply below_alloc | apply below_drewN)⟩

theorem bcell {W w1 : World} (hb : Below W.heap.size W w1) :
    (∀ b o, b < W.heap.size → w1.cell? ⟨b, o, none⟩ = W.cell? ⟨b, o, none⟩) ∧ (∀ b o, b < W.heap.size → w1.frozen? ⟨b, o, none⟩ = W.frozen? ⟨b, o, none⟩) :=
  ⟨fun b o h => hb.cell (p := ⟨b, o, none⟩) h, fun b o h => hb.frozen (p := ⟨b, o, none⟩) h⟩

theorem below_then {w w1 w2 : World} (h : Below w.heap.size w w1) (k : Below w1.heap.size w1 w2) : Below w.heap.size w w2 := h.trans (k.mono h.size)

/-- The cells of a memory that is there. -/
theorem MemAt.cells {W : World} {g : Nat} {L : Lay} {F : Nat → Prop} {S : Me} (h : MemAt W g L F S) :
    g < W.heap.size ∧ W.cell? ⟨g, 0, none⟩ = some (.int .i64 S.room) ∧ W.cell? ⟨g, 1, none⟩ = some (.int .i64 S.used) ∧ W.cell? ⟨g, 2, none⟩ = some (.int .i64 S.live) ∧ W.cell? ⟨g, 3, none⟩ = some (.slice L.bo S.bs.length L.cap) := by
  refine ⟨blk_lt h.hg, ?_, ?_, ?_, ?_⟩ <;> rw [blk_cell h.hg] <;> rfl

theorem MemAt.row_cells {W : World} {g : Nat} {L : Lay} {F : Nat → Prop} {S : Me} (h : MemAt W g L F S) {a : Int} (h1 : 1 ≤ a) (h2 : a ≤ S.bs.length) :
    L.bb < W.heap.size ∧ L.bo = some ⟨L.bb, 0, none⟩ ∧ W.cell? ⟨L.bb, (a.toNat - 1) * 3, none⟩ = some (c0 (S.at a) (L.I (a.toNat - 1))) ∧ W.cell? ⟨L.bb, (a.toNat - 1) * 3 + 1, none⟩ = some (c1 (S.at a) (L.J (a.toNat - 1))) ∧
      W.cell? ⟨L.bb, (a.toNat - 1) * 3 + 2, none⟩ = some (.bool (S.at a).freed) := by
  obtain ⟨r1, r2, cur, r3, r4, r5, r6, r7⟩ := h.row (by omega)
  have := r7 _ _ (bs_at h1 h2)
  refine ⟨blk_lt r3, r1, ?_, ?_, ?_⟩ <;> rw [blk_cell r3]
  · exact this.1
  · exact this.2.1
  · exact this.2.2

def Pos (S : Me) (L : Lay) (b : Bool) (a : Int) : Option Addr := if S.blockE b a = 0 then some ⟨L.bb, (a.toNat - 1) * 3, none⟩ else none

theorem block_any {W : World} {g : Nat} {L : Lay} {F : Nat → Prop} {S : Me} (h : MemAt W g L F S) (hl : S.bs.length ≤ 1000000000) (b : Bool) (a n : Int) :
    Calls Try.prog 34 #[.pointer (some ⟨g, 0, none⟩), .agg #[.bool b, .int .i64 a, .int .i64 n]] W fun e W' =>
      e = .returned (.tuple #[.pointer (Pos S L b a), .int .i64 (S.blockE b a)]) ∧ Below W.heap.size W W' := by
  obtain ⟨c1, c2, c3, c4, c5⟩ := h.cells
  cases b
  · have e : S.blockE false a = 11 := by simp [Me.blockE]
    rw [Pos, e]
    exact block_kind W g a n
  · by_cases hr : a < 1 ∨ (S.bs.length : Int) < a
    · have e : S.blockE true a = 13 := by simp [Me.blockE, hr]
      rw [Pos, e]
      exact block_range W g _ _ _ a n c5 c1 hr
    · obtain ⟨d1, d2, d3, d4, d5⟩ := h.row_cells (a := a) (by omega) (by omega)
      rw [d2] at c5
      have := block_in W g _ _ _ a n _ c5 c1 d1 hl (by omega) (by omega) d5
      cases hf : (S.at a).freed
      · have e : S.blockE true a = 0 := by simp [Me.blockE, hr, hf]
        rw [hf] at this
        rw [Pos, e]
        simpa using this
      · have e : S.blockE true a = 12 := by simp [Me.blockE, hr, hf]
        rw [hf] at this
        rw [Pos, e]
        simpa using this

theorem piece_bad {W : World} {g : Nat} {L : Lay} {F : Nat → Prop} {S : Me} (h : MemAt W g L F S) (hl : S.bs.length ≤ 1000000000) (b : Bool) (a n k : Int) (he : S.blockE b a ≠ 0) :
    Calls Try.prog 33 #[.pointer (some ⟨g, 0, none⟩), .agg #[.bool b, .int .i64 a, .int .i64 n], .int .i64 k] W fun e W' =>
      e = .returned (.tuple #[.pointer none, .int .i64 (S.blockE b a)]) ∧ Below W.heap.size W W' := by
  have hx : (S.blockE b a == 0) = false := by simpa using he
  have hp : Pos S L b a = none := by simp [Pos, he]
  have hblk := block_any (h.below (below_alloc (Below.refl _ W) (.cells #[.bool b, .int .i64 a, .int .i64 n] 23))) hl b a n
  rw [hp] at hblk
  generalize S.blockE b a = x at *
  have H := Lib.hid hblk
  clear hblk
  go_enter Try.func33, Try.ntmps33
  go_wp2_with fail
  refine H.out.mono ?_
  rintro e w1 ⟨rfl, hb⟩
  obtain ⟨hc, hf⟩ := bcell hb
  go_wp2
  go_quiet (fail)
  go_wp2
  go_ret2
  exact ⟨rfl, by repeat (first | exact Below.refl _ _ | apply below_alloc | apply below_drewN | refine below_then ?_ hb)⟩

theorem piece_in (W : World) (g bb q len : Nat) (A : Option Addr) (a n k : Int)
    (hblk : Calls Try.prog 34 #[.pointer (some ⟨g, 0, none⟩), .agg #[.bool true, .int .i64 a, .int .i64 n]] (W.alloc (.cells #[.bool true, .int .i64 a, .int .i64 n] 23)) fun e W' =>
      e = .returned (.tuple #[.pointer (some ⟨bb, q, none⟩), .int .i64 0]) ∧ Below (W.alloc (.cells #[.bool true, .int .i64 a, .int .i64 n] 23)).heap.size (W.alloc (.cells #[.bool true, .int .i64 a, .int .i64 n] 23)) W')
    (hbb : bb < W.heap.size) (hq : W.cell? ⟨bb, q, none⟩ = some (.slice A len len)) (hl : len ≤ 1048576) (hk : 0 ≤ k) :
    Calls Try.prog 33 #[.pointer (some ⟨g, 0, none⟩), .agg #[.bool true, .int .i64 a, .int .i64 n], .int .i64 k] W fun e W' =>
      e = .returned (.tuple #[.pointer (if n < 0 ∨ (len : Int) < k ∨ (len : Int) - k < n then none else some ⟨bb, q, none⟩), .int .i64 (if n < 0 ∨ (len : Int) < k ∨ (len : Int) - k < n then 13 else 0)]) ∧ Below W.heap.size W W' := by
  have H := Lib.hid hblk
  clear hblk
  by_cases h1 : n < 0
  · rw [if_pos (.inl h1), if_pos (.inl h1)]
    go_enter Try.func33, Try.ntmps33
    go_wp2_with fail
    refine H.out.mono ?_
    rintro e w1 ⟨rfl, hb⟩
    obtain ⟨hc, hf⟩ := bcell hb
    go_wp2
    go_quiet (fail)
    go_wp2
    go_ret2
    exact ⟨rfl, by repeat (first | exact Below.refl _ _ | apply below_alloc | apply below_drewN | refine below_then ?_ hb)⟩
  · have e1 : decide (n < 0) = false := by simpa using h1
    by_cases h2 : (len : Int) < k
    · rw [if_pos (.inr (.inl h2)), if_pos (.inr (.inl h2))]
      go_enter Try.func33, Try.ntmps33
      go_wp2_with fail
      refine H.out.mono ?_
      rintro e w1 ⟨rfl, hb⟩
      obtain ⟨hc, hf⟩ := bcell hb
      go_wp2
      go_quiet (fail)
      go_wp2
      go_ret2
      exact ⟨rfl, by repeat (first | exact Below.refl _ _ | apply below_alloc | apply below_drewN | refine below_then ?_ hb)⟩
    · have e2 : decide ((len : Int) < k) = false := by simpa using h2
      by_cases h3 : (len : Int) - k < n
      · rw [if_pos (.inr (.inr h3)), if_pos (.inr (.inr h3))]
        go_enter Try.func33, Try.ntmps33
        go_wp2_with fail
        refine H.out.mono ?_
        rintro e w1 ⟨rfl, hb⟩
        obtain ⟨hc, hf⟩ := bcell hb
        go_wp2
        go_quiet (fail)
        go_wp2
        go_ret2
        exact ⟨rfl, by repeat (first | exact Below.refl _ _ | apply below_alloc | apply below_drewN | refine below_then ?_ hb)⟩
      · have e3 : decide ((len : Int) - k < n) = false := by simpa using h3
        rw [if_neg (by omega), if_neg (by omega)]
        go_enter Try.func33, Try.ntmps33
        go_wp2_with fail
        refine H.out.mono ?_
        rintro e w1 ⟨rfl, hb⟩
        obtain ⟨hc, hf⟩ := bcell hb
        go_wp2
        go_quiet (fail)
        go_wp2
        go_ret2
        exact ⟨rfl, by repeat (first | exact Below.refl _ _ | apply below_alloc | apply below_drewN | refine below_then ?_ hb)⟩

def PosP (S : Me) (L : Lay) (b : Bool) (a n k : Int) : Option Addr := if S.pieceE b a n k = 0 then some ⟨L.bb, (a.toNat - 1) * 3, none⟩ else none

theorem piece_any {W : World} {g : Nat} {L : Lay} {F : Nat → Prop} {S : Me} (h : MemAt W g L F S) (hI : S.Inv) (hl : S.bs.length ≤ 1000000000) (b : Bool) (a n k : Int) (hk : 0 ≤ k) :
    Calls Try.prog 33 #[.pointer (some ⟨g, 0, none⟩), .agg #[.bool b, .int .i64 a, .int .i64 n], .int .i64 k] W fun e W' =>
      e = .returned (.tuple #[.pointer (PosP S L b a n k), .int .i64 (S.pieceE b a n k)]) ∧ Below W.heap.size W W' := by
  by_cases he : S.blockE b a = 0
  · obtain ⟨rfl, h1, h2, h3⟩ := blockE_zero he
    obtain ⟨d1, d2, d3, d4, d5⟩ := h.row_cells h1 h2
    have hblk := block_any (h.below (below_alloc (Below.refl _ W) (.cells #[.bool true, .int .i64 a, .int .i64 n] 23))) hl true a n
    rw [he, Pos, if_pos he] at hblk
    have e0 : c0 (S.at a) (L.I (a.toNat - 1)) = .slice (some ⟨L.I (a.toNat - 1), 0, none⟩) (S.at a).ws.length (S.at a).ws.length := by simp [c0, h3]
    rw [e0] at d3
    have := piece_in W g _ _ _ _ a n k hblk d1 d3 (hI.len_le (at_mem h1 h2)) hk
    have e : S.pieceE true a n k = if n < 0 ∨ ((S.at a).ws.length : Int) < k ∨ ((S.at a).ws.length : Int) - k < n then 13 else 0 := by simp [Me.pieceE, he]
    rw [PosP, e]
    by_cases hc : n < 0 ∨ ((S.at a).ws.length : Int) < k ∨ ((S.at a).ws.length : Int) - k < n
    · simpa [hc] using this
    · simpa [hc] using this
  · have := piece_bad h hl b a n k he
    have e : S.pieceE b a n k = S.blockE b a := by simp [Me.pieceE, he]
    rw [PosP, e, if_neg he]
    exact this

theorem off_no (W : World) (a n k : Int) :
    Calls Try.prog 12 #[.agg #[.bool false, .int .i64 a, .int .i64 n], .int .i64 k] W fun e W' =>
      e = .returned (.tuple #[.agg #[.bool false, .int .i64 0, .int .i64 0], .int .i64 11]) ∧ Below W.heap.size W W' := by
  go_enter Try.func12, Try.ntmps12
  go_wp2
  exact bodyPost_ret (v := .tuple #[.agg #[.bool false, .int .i64 0, .int .i64 0], .int .i64 11]) (by simp [results, Try.results12, go_sem]) rfl ⟨rfl, by repeat (first | exact Below.refl _ _ | apply below_alloc | apply below_drewN)⟩

theorem off_yes (W : World) (a n k : Int) :
    Calls Try.prog 12 #[.agg #[.bool true, .int .i64 a, .int .i64 n], .int .i64 k] W fun e W' =>
      e = .returned (.tuple #[.agg #[.bool true, .int .i64 a, .int .i64 (wrap64 (n + k))], .int .i64 0]) ∧ Below W.heap.size W W' := by
  go_enter Try.func12, Try.ntmps12
  go_wp2
  exact bodyPost_ret (v := .tuple #[.agg #[.bool true, .int .i64 a, .int .i64 (wrap64 (n + k))], .int .i64 0]) (by simp [results, Try.results12, go_sem]) rfl ⟨rfl, by repeat (first | exact Below.refl _ _ | apply below_alloc | apply below_drewN)⟩

theorem live_any {W : World} {g : Nat} {L : Lay} {F : Nat → Prop} {S : Me} (h : MemAt W g L F S) :
    Calls Try.prog 19 #[.pointer (some ⟨g, 0, none⟩)] W fun e W' => e = .returned (.int .i64 S.live) ∧ Below W.heap.size W W' := by
  obtain ⟨c1, c2, c3, c4, c5⟩ := h.cells
  go_enter Try.func19, Try.ntmps19
  go_wp2
  go_ret
  exact ⟨rfl, Below.refl _ _⟩

theorem words_any {W : World} {g : Nat} {L : Lay} {F : Nat → Prop} {S : Me} (h : MemAt W g L F S) :
    Calls Try.prog 18 #[.pointer (some ⟨g, 0, none⟩)] W fun e W' => e = .returned (.int .i64 S.used) ∧ Below W.heap.size W W' := by
  obtain ⟨c1, c2, c3, c4, c5⟩ := h.cells
  go_enter Try.func18, Try.ntmps18
  go_wp2
  go_ret
  exact ⟨rfl, Below.refl _ _⟩

/-- The words and the flags of an allocation that is there. -/
theorem MemAt.word_cells {W : World} {g : Nat} {L : Lay} {F : Nat → Prop} {S : Me} (h : MemAt W g L F S) (hI : S.Inv) {b : Bool} {a n k : Int} (he : S.pieceE b a n k = 0) (hk : 0 < k) :
    L.I (a.toNat - 1) < W.heap.size ∧ L.J (a.toNat - 1) < W.heap.size ∧ W.cell? ⟨L.I (a.toNat - 1), n.toNat * 3, none⟩ = some (.bool ((S.at a).ws.getD n.toNat Wd.zero).p) ∧
      W.cell? ⟨L.I (a.toNat - 1), n.toNat * 3 + 1, none⟩ = some (.int .i64 ((S.at a).ws.getD n.toNat Wd.zero).a) ∧ W.cell? ⟨L.I (a.toNat - 1), n.toNat * 3 + 2, none⟩ = some (.int .i64 ((S.at a).ws.getD n.toNat Wd.zero).n) ∧
      W.cell? ⟨L.J (a.toNat - 1), n.toNat, none⟩ = some (.bool ((S.at a).st.getD n.toNat false)) := by
  obtain ⟨hb, g1, g2, g3⟩ := pieceE_zero he
  obtain ⟨rfl, h1, h2, h3⟩ := blockE_zero hb
  obtain ⟨_, q2⟩ := h.wds _ _ (bs_at h1 h2) h3
  obtain ⟨_, r2⟩ := h.sts _ _ (bs_at h1 h2) h3
  have hs := Inv.at_same hI a h1 h2
  obtain ⟨w1, w2, w3⟩ := wcells_at (S.at a).ws n.toNat (by omega)
  refine ⟨blk_lt q2, blk_lt r2, ?_, ?_, ?_, ?_⟩
  · rw [blk_cell q2]; simpa using w1
  · rw [blk_cell q2]; simpa using w2
  · rw [blk_cell q2]; simpa using w3
  · rw [blk_cell r2]
    have : n.toNat < (S.at a).st.length := by omega
    simp [bcells, this]

end Go.Proofs.Ytkgiddpeaebdfaa
