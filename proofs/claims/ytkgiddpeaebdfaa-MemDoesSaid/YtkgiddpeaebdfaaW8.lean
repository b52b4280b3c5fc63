/- A memory that is at hand, and what each call makes of it; the document's examples. -/
import Derived.Test.YtkgiddpeaebdfaaW7
namespace Go.Proofs.Ytkgiddpeaebdfaa
open Go.RowKit

/-- At block g of W lies a memory S, in the blocks of F, that are all from B on. -/
structure Mem (B : Nat) (W : World) (g : Nat) (F : Nat → Prop) (S : Me) : Prop where
  lies : ∃ L, MemAt W g L F S
  inv : S.Inv
  few : S.bs.length ≤ 1000000000
  low : ∀ k, F k → B ≤ k ∧ k < W.heap.size

section
variable {B : Nat} {W : World} {g : Nat} {F : Nat → Prop} {S : Me}

theorem Mem.below (h : Mem B W g F S) {W' : World} (hb : Below W.heap.size W W') : Mem B W' g F S :=
  ⟨by obtain ⟨L, hl⟩ := h.lies; exact ⟨L, hl.below hb⟩, h.inv, h.few, fun k hk => ⟨(h.low k hk).1, Nat.lt_of_lt_of_le (h.low k hk).2 hb.size⟩⟩
theorem Mem.alloc (h : Mem B W g F S) (o : Obj) : Mem B (W.alloc o) g F S := h.below (below_alloc (Below.refl _ W) o)
theorem Mem.drewN (h : Mem B W g F S) (n : Nat) : Mem B (W.drewN n) g F S := h.below (below_drewN (Below.refl _ W) n)
theorem Mem.drew (h : Mem B W g F S) : Mem B W.drew g F S := h.below (below_drew (Below.refl _ W))
theorem Mem.move (h : Mem B W g F S) {W' : World} (hs : W.heap.size ≤ W'.heap.size) (hm : ∀ k, F k → W'.heap[k]? = W.heap[k]?) : Mem B W' g F S :=
  ⟨by obtain ⟨L, hl⟩ := h.lies; exact ⟨L, hl.move fun k hk _ => hm k hk⟩, h.inv, h.few, fun k hk => ⟨(h.low k hk).1, Nat.lt_of_lt_of_le (h.low k hk).2 hs⟩⟩
theorem Mem.set (h : Mem B W g F S) (p : Addr) (u : Value) (hp : ¬ F p.block) : Mem B (W.setCell p u) g F S :=
  h.move (by simp [World.setCell]) (fun k hk => Below.heap_setCell _ _ _ _ (fun e => hp (e ▸ hk)))

theorem Mem.load (h : Mem B W g F S) (b : Bool) (a n : Int) :
    Calls Try.prog 17 #[.pointer (some ⟨g, 0, none⟩), .agg #[.bool b, .int .i64 a, .int .i64 n]] W fun e W' =>
      e = .returned (.tuple #[.agg #[.bool (S.loadW b a n).p, .int .i64 (S.loadW b a n).a, .int .i64 (S.loadW b a n).n], .int .i64 (S.loadE b a n)]) ∧ Below W.heap.size W W' := by
  obtain ⟨L, hl⟩ := h.lies
  exact load_any hl h.inv h.few b a n
theorem Mem.isSet (h : Mem B W g F S) (b : Bool) (a n : Int) :
    Calls Try.prog 21 #[.pointer (some ⟨g, 0, none⟩), .agg #[.bool b, .int .i64 a, .int .i64 n]] W fun e W' =>
      e = .returned (.bool (S.loadE b a n == 0)) ∧ Below W.heap.size W W' := by
  obtain ⟨L, hl⟩ := h.lies
  exact set_any hl h.inv h.few b a n
theorem Mem.live (h : Mem B W g F S) : Calls Try.prog 19 #[.pointer (some ⟨g, 0, none⟩)] W fun e W' => e = .returned (.int .i64 S.live) ∧ Below W.heap.size W W' := by
  obtain ⟨L, hl⟩ := h.lies
  exact live_any hl
theorem Mem.words (h : Mem B W g F S) : Calls Try.prog 18 #[.pointer (some ⟨g, 0, none⟩)] W fun e W' => e = .returned (.int .i64 S.used) ∧ Below W.heap.size W W' := by
  obtain ⟨L, hl⟩ := h.lies
  exact words_any hl

theorem Mem.next (h : Mem B W g F S) {W' : World} {S' : Me} {L : Lay} (hm : MemAt W' g L F S') (hi : S'.Inv) (hf : S'.bs.length ≤ 1000000000) (hk : Kept F W W') : Mem B W' g F S' :=
  ⟨⟨L, hm⟩, hi, hf, fun k q => ⟨(h.low k q).1, Nat.lt_of_lt_of_le (h.low k q).2 hk.size⟩⟩

theorem setAt_len (S : Me) (a : Int) (b : Bk) : (S.setAt a b).bs.length = S.bs.length := by simp [Me.setAt]
theorem store_len (S : Me) (b : Bool) (a n : Int) (w : Wd) : (S.store b a n w).bs.length = S.bs.length := by unfold Me.store; split <;> simp [Me.setAt]
theorem clear_len (S : Me) (b : Bool) (a n k : Int) : (S.clear b a n k).bs.length = S.bs.length := by unfold Me.clear; split <;> simp [Me.setAt]
theorem free_len (S : Me) (b : Bool) (a n : Int) : (S.free b a n).bs.length = S.bs.length := by unfold Me.free; split <;> simp

theorem Mem.store (h : Mem B W g F S) (b : Bool) (a n : Int) (wp : Bool) (wa wn : Int) :
    Calls Try.prog 15 #[.pointer (some ⟨g, 0, none⟩), .agg #[.bool b, .int .i64 a, .int .i64 n], .agg #[.bool wp, .int .i64 wa, .int .i64 wn]] W fun e W' =>
      e = .returned (.int .i64 (S.pieceE b a n 1)) ∧ Mem B W' g F (S.store b a n ⟨wp, wa, wn⟩) ∧ Kept F W W' := by
  obtain ⟨L, hl⟩ := h.lies
  exact (store_any hl h.inv h.few b a n wp wa wn).mono fun e W' q => ⟨q.1, h.next q.2.1 (Inv.store h.inv _ _ _ _) (by rw [store_len]; exact h.few) q.2.2, q.2.2⟩
theorem Mem.clear (h : Mem B W g F S) (b : Bool) (a n k : Int) :
    Calls Try.prog 16 #[.pointer (some ⟨g, 0, none⟩), .agg #[.bool b, .int .i64 a, .int .i64 n], .int .i64 k] W fun e W' =>
      e = .returned (.int .i64 (S.clearE b a n k)) ∧ Mem B W' g F (S.clear b a n k) ∧ Kept F W W' := by
  obtain ⟨L, hl⟩ := h.lies
  exact (clear_any hl h.inv h.few b a n k).mono fun e W' q => ⟨q.1, h.next q.2.1 (Inv.clear h.inv _ _ _ _) (by rw [clear_len]; exact h.few) q.2.2, q.2.2⟩
theorem Mem.free (h : Mem B W g F S) (b : Bool) (a n : Int) :
    Calls Try.prog 20 #[.pointer (some ⟨g, 0, none⟩), .agg #[.bool b, .int .i64 a, .int .i64 n]] W fun e W' =>
      e = .returned (.int .i64 (S.freeE b a n)) ∧ Mem B W' g F (S.free b a n) ∧ Kept F W W' := by
  obtain ⟨L, hl⟩ := h.lies
  exact (free_any hl h.inv h.few b a n).mono fun e W' q => ⟨q.1, h.next q.2.1 (Inv.free h.inv _ _ _) (by rw [free_len]; exact h.few) q.2.2, q.2.2⟩
theorem alloc_len (S : Me) (n : Int) : (S.alloc n).bs.length ≤ S.bs.length + 1 := by unfold Me.alloc; split <;> simp
theorem Mem.make (h : Mem B W g F S) (n : Int) (hf : S.bs.length < 1000000000) :
    Calls Try.prog 14 #[.pointer (some ⟨g, 0, none⟩), .int .i64 n] W fun e W' =>
      e = .returned (.tuple #[.agg #[.bool (S.allocW n).p, .int .i64 (S.allocW n).a, .int .i64 (S.allocW n).n], .int .i64 (S.allocE n)]) ∧
        (∃ F', Mem B W' g F' (S.alloc n) ∧ ∀ k, F' k → F k ∨ W.heap.size ≤ k) ∧ Kept F W W' := by
  obtain ⟨L, hl⟩ := h.lies
  refine (alloc_any hl h.inv h.few n).mono fun e W' q => ⟨q.1, ?_, q.2.2⟩
  obtain ⟨L', hl'⟩ := q.2.1
  have hb := hl'.bound
  refine ⟨_, ⟨⟨L', hb⟩, Inv.alloc h.inv n, by have := alloc_len S n; omega, ?_⟩, fun k hk => hk.1⟩
  rintro k ⟨hk, hlt⟩
  refine ⟨?_, hlt⟩
  rcases hk with hk | hk
  · exact (h.low k hk).1
  · have := (h.low g hl.fg)
    omega

theorem Mem.loadX (h : Mem B W g F S) {b : Bool} {a n : Int} (p : Bool) (x y c : Int) (h1 : S.loadW b a n = ⟨p, x, y⟩) (h2 : S.loadE b a n = c) :
    Calls Try.prog 17 #[.pointer (some ⟨g, 0, none⟩), .agg #[.bool b, .int .i64 a, .int .i64 n]] W fun e W' =>
      e = .returned (.tuple #[.agg #[.bool p, .int .i64 x, .int .i64 y], .int .i64 c]) ∧ Below W.heap.size W W' := by
  have := h.load b a n
  rw [h1, h2] at this
  exact this
theorem Mem.storeX (h : Mem B W g F S) {b : Bool} {a n : Int} {wp : Bool} {wa wn : Int} (c : Int) (S' : Me) (h1 : S.store b a n ⟨wp, wa, wn⟩ = S') (h2 : S.pieceE b a n 1 = c) :
    Calls Try.prog 15 #[.pointer (some ⟨g, 0, none⟩), .agg #[.bool b, .int .i64 a, .int .i64 n], .agg #[.bool wp, .int .i64 wa, .int .i64 wn]] W fun e W' =>
      e = .returned (.int .i64 c) ∧ Mem B W' g F S' ∧ Kept F W W' := by
  have := h.store b a n wp wa wn
  rw [h1, h2] at this
  exact this
theorem Mem.makeX (h : Mem B W g F S) {n : Int} (hf : S.bs.length < 1000000000) (p : Bool) (x y c : Int) (S' : Me) (h1 : S.allocW n = ⟨p, x, y⟩) (h2 : S.allocE n = c) (h3 : S.alloc n = S') :
    Calls Try.prog 14 #[.pointer (some ⟨g, 0, none⟩), .int .i64 n] W fun e W' =>
      e = .returned (.tuple #[.agg #[.bool p, .int .i64 x, .int .i64 y], .int .i64 c]) ∧ (∃ F', Mem B W' g F' S' ∧ ∀ k, F' k → F k ∨ W.heap.size ≤ k) ∧ Kept F W W' := by
  have := h.make n hf
  rw [h1, h2, h3] at this
  exact this
theorem Mem.clearX (h : Mem B W g F S) {b : Bool} {a n k : Int} (c : Int) (S' : Me) (h1 : S.clear b a n k = S') (h2 : S.clearE b a n k = c) :
    Calls Try.prog 16 #[.pointer (some ⟨g, 0, none⟩), .agg #[.bool b, .int .i64 a, .int .i64 n], .int .i64 k] W fun e W' =>
      e = .returned (.int .i64 c) ∧ Mem B W' g F S' ∧ Kept F W W' := by
  have := h.clear b a n k
  rw [h1, h2] at this
  exact this
theorem Mem.freeX (h : Mem B W g F S) {b : Bool} {a n : Int} (c : Int) (S' : Me) (h1 : S.free b a n = S') (h2 : S.freeE b a n = c) :
    Calls Try.prog 20 #[.pointer (some ⟨g, 0, none⟩), .agg #[.bool b, .int .i64 a, .int .i64 n]] W fun e W' =>
      e = .returned (.int .i64 c) ∧ Mem B W' g F S' ∧ Kept F W W' := by
  have := h.free b a n
  rw [h1, h2] at this
  exact this
theorem Mem.isSetX (h : Mem B W g F S) {b : Bool} {a n : Int} (c : Bool) (h1 : (S.loadE b a n == 0) = c) :
    Calls Try.prog 21 #[.pointer (some ⟨g, 0, none⟩), .agg #[.bool b, .int .i64 a, .int .i64 n]] W fun e W' => e = .returned (.bool c) ∧ Below W.heap.size W W' := by
  have := h.isSet b a n
  rw [h1] at this
  exact this
end

theorem off_yesX (W : World) {a n k : Int} (m : Int) (h : wrap64 (n + k) = m) :
    Calls Try.prog 12 #[.agg #[.bool true, .int .i64 a, .int .i64 n], .int .i64 k] W fun e W' =>
      e = .returned (.tuple #[.agg #[.bool true, .int .i64 a, .int .i64 m], .int .i64 0]) ∧ Below W.heap.size W W' := by
  have := off_yes W a n k
  rw [h] at this
  exact this

theorem Mem.keptB {B : Nat} {W0 W W' : World} {g : Nat} {F : Nat → Prop} {S : Me} (m : Mem B W g F S) (h : Below B W0 W) (hB : B ≤ W0.heap.size) (k : Kept F W W') : Below B W0 W' :=
  h.trans (k.below (fun i hi hf => absurd (m.low i hf).1 (by omega)) (Nat.le_trans hB h.size))
theorem keptB {B : Nat} {W0 W W' : World} {F : Nat → Prop} (low : ∀ k, F k → B ≤ k) (h : Below B W0 W) (hB : B ≤ W0.heap.size) (k : Kept F W W') : Below B W0 W' :=
  h.trans (k.below (fun i hi hf => absurd (low i hf) (by omega)) (Nat.le_trans hB h.size))
theorem stepB {B : Nat} {W0 W W' : World} (h : Below B W0 W) (hB : B ≤ W0.heap.size) (b : Below W.heap.size W W') : Below B W0 W' := h.trans (b.mono (Nat.le_trans hB h.size))
theorem allocB {B : Nat} {W0 W : World} (h : Below B W0 W) (hB : B ≤ W0.heap.size) (o : Obj) : Below B W0 (W.alloc o) := h.alloc (Nat.le_trans hB h.size) o
theorem setB {B : Nat} {W0 W : World} (h : Below B W0 W) {p : Addr} (hp : B ≤ p.block) (u : Value) : Below B W0 (W.setCell p u) := h.setCell hp u

theorem Mem.new (W : World) (n : Int) :
    Calls Try.prog 13 #[.int .i64 n] W fun e W' => e = .returned (.pointer (some ⟨W.heap.size, 0, none⟩)) ∧ Mem W.heap.size W' W.heap.size (fun k => k = W.heap.size) (Me.new n) ∧ Below W.heap.size W W' ∧ W'.heap.size = W.heap.size + 1 := by
  refine (new_any W n).mono ?_
  rintro e W' ⟨rfl, rfl⟩
  refine ⟨rfl, ⟨⟨_, new_at W n⟩, Inv.new n, by simp [Me.new], ?_⟩, below_alloc (Below.refl _ W) _, by simp⟩
  rintro k rfl
  simp

theorem off_any (W : World) (b : Bool) (a n k : Int) :
    Calls Try.prog 12 #[.agg #[.bool b, .int .i64 a, .int .i64 n], .int .i64 k] W fun e W' =>
      e = .returned (.tuple #[.agg #[.bool b, .int .i64 (if b = true then a else 0), .int .i64 (if b = true then wrap64 (n + k) else 0)], .int .i64 (if b = true then 0 else 11)]) ∧ Below W.heap.size W W' := by
  cases b
  · exact off_no W a n k
  · exact off_yes W a n k

end Go.Proofs.Ytkgiddpeaebdfaa
