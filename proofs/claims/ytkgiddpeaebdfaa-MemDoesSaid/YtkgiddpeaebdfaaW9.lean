/- The document's examples. -/
import Derived.Test.YtkgiddpeaebdfaaW8
namespace Go.Proofs.Ytkgiddpeaebdfaa
open Go.RowKit

/-- A block of cells, whole. -/
def Box (w : World) (x : Nat) (cs : Array Value) : Prop := w.heap[x]? = some (.cells cs 23 (0, 0))
theorem Box.new (w : World) (cs : Array Value) : Box (w.alloc (.cells cs 23)) w.heap.size cs := heap_alloc_new w _
theorem Box.newAt {w : World} {x : Nat} {cs : Array Value} (h : x = w.heap.size) : Box (w.alloc (.cells cs 23)) x cs := by subst h; exact heap_alloc_new w _
theorem Box.alloc {w : World} {x : Nat} {cs : Array Value} (h : Box w x cs) (o : Obj) : Box (w.alloc o) x cs := blk_alloc h o
theorem Box.drew {w : World} {x : Nat} {cs : Array Value} (h : Box w x cs) : Box w.drew x cs := h
theorem Box.drewN {w : World} {x : Nat} {cs : Array Value} (h : Box w x cs) (n : Nat) : Box (w.drewN n) x cs := h
theorem drewNB {B : Nat} {w w' : World} (h : Below B w w') (n : Nat) : Below B w (w'.drewN n) := ⟨h.os, h.tape, h.output, h.size, h.block⟩
theorem Box.below {w w' : World} {x : Nat} {cs : Array Value} (h : Box w x cs) (hb : Below w.heap.size w w') : Box w' x cs := (hb.block _ (blk_lt h)).trans h
theorem Box.kept {F : Nat → Prop} {w w' : World} {x : Nat} {cs : Array Value} (h : Box w x cs) (hk : Kept F w w') (hx : ¬ F x) : Box w' x cs := (hk.block _ (blk_lt h) hx).trans h
theorem Box.see {w : World} {x : Nat} {cs : Array Value} (h : Box w x cs) : x < w.heap.size ∧ (∀ i, w.cell? ⟨x, i, none⟩ = cs[i]?) ∧ (∀ i, w.frozen? ⟨x, i, none⟩ = false) := ⟨blk_lt h, fun i => blk_cell h i, fun i => blk_frozen h i⟩

def ex1 : Me := (Me.new 9).alloc 2
def ex2 : Me := ex1.store true 1 0 ⟨false, 0, 7⟩

set_option maxHeartbeats 1000000 in
theorem works_any (W : World) : Calls Try.prog 11 #[] W fun e W' => e = .returned (.bool true) ∧ Below W.heap.size W W' := by
  go_enter Try.func11, Try.ntmps11
  go_wp2_with fail
  refine (Mem.new W 9).mono ?_
  rintro e w1 ⟨rfl, m1, b1, _⟩
  go_wp2_with fail
  refine (m1.makeX (by decide) true 1 0 0 ex1 (by decide) (by decide) rfl).mono ?_
  rintro e w2 ⟨rfl, ⟨F2, m2, f2⟩, k2⟩
  have n2 : ¬ F2 w2.heap.size := fun h => Nat.lt_irrefl _ (m2.low _ h).2
  have B2 := Lib.hid (Box.new w2 #[.bool true, .int .i64 1, .int .i64 0])
  go_wp2_with fail
  refine ((m2.alloc _).loadX false 0 0 14 (by decide) (by decide)).mono ?_
  rintro e w3 ⟨rfl, b3⟩
  have m3 := (m2.alloc _).below b3
  have B3 := Lib.hid (B2.out.below b3)
  obtain ⟨lp, hp, _⟩ := B3.out.see
  clear B2
  go_wp2_with fail
  refine (off_yesX _ 2 (by unfold wrap64; decide)).mono ?_
  rintro e w4 ⟨rfl, b4⟩
  have m4 := (m3.alloc _).below b4
  have B4 := Lib.hid ((B3.out.alloc _).below b4)
  clear lp hp B3
  obtain ⟨lp, hp, _⟩ := B4.out.see
  have Q4 := Lib.hid (Box.new w4 #[.bool true, .int .i64 1, .int .i64 2])
  go_wp2_with fail
  refine ((m4.alloc _).loadX false 0 0 13 (by decide) (by decide)).mono ?_
  rintro e w5 ⟨rfl, b5⟩
  have m5 := (m4.alloc _).below b5
  have B5 := Lib.hid ((B4.out.alloc _).below b5)
  clear lp hp B4
  obtain ⟨lp, hp, _⟩ := B5.out.see
  go_wp2_with fail
  refine ((m5.alloc _).storeX 0 ex2 rfl (by decide)).mono ?_
  rintro e w6 ⟨rfl, m6, k6⟩
  have B6 := Lib.hid ((B5.out.alloc _).kept k6 n2)
  clear lp hp B5
  obtain ⟨lp, hp, _⟩ := B6.out.see
  go_wp2_with fail
  refine (m6.loadX false 0 7 0 (by decide) (by decide)).mono ?_
  rintro e w7 ⟨rfl, b7⟩
  have m7 := m6.below b7
  have B7 := Lib.hid (B6.out.below b7)
  clear lp hp B6
  obtain ⟨lp, hp, _⟩ := B7.out.see
  go_wp2_with fail
  have c8 := (m7.alloc (.cells #[.bool false, .int .i64 0, .int .i64 7] 23)).live
  rw [show ex2.live = 1 from by decide] at c8
  refine c8.mono ?_
  rintro e w8 ⟨rfl, b8⟩
  have m8 := (m7.alloc _).below b8
  have c9 := m8.words
  rw [show ex2.used = 2 from by decide] at c9
  have C9 := Lib.hid c9
  clear c8 c9
  go_wp2_with fail
  refine C9.out.mono ?_
  rintro e w9 ⟨rfl, b9⟩
  go_wp2
  go_ret
  have z1 : Below W.heap.size W w2 := m1.keptB b1 (Nat.le_refl _) k2
  have z5 : Below W.heap.size W w5 := stepB (allocB (stepB (allocB (stepB (allocB z1 (Nat.le_refl _) _) (Nat.le_refl _) b3) (Nat.le_refl _) _) (Nat.le_refl _) b4) (Nat.le_refl _) _) (Nat.le_refl _) b5
  have z6 := (m5.alloc _).keptB (allocB z5 (Nat.le_refl _) _) (Nat.le_refl _) k6
  exact ⟨rfl, stepB (stepB (allocB (stepB z6 (Nat.le_refl _) b7) (Nat.le_refl _) _) (Nat.le_refl _) b8) (Nat.le_refl _) b9⟩
end Go.Proofs.Ytkgiddpeaebdfaa
