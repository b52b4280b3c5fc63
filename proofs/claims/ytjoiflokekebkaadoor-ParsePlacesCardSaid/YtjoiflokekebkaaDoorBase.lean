/- Blocks of the heap, and what is below. -/
import Derived.WalkKit
import Derived.Deep.Draws
import Derived.Maps.AppendAt
import Derived.Lib.Hide
set_option linter.all false
namespace Go.Proofs.YtjoiflokekebkaaDoor
open Go.RowKit

theorem blk_lt {w : World} {g : Nat} {o : Obj} (h : w.heap[g]? = some o) : g < w.heap.size := (Array.getElem?_eq_some_iff.1 h).1
theorem blk_cell {w : World} {g : Nat} {t : TypeId} {cs : Array Value} (h : w.heap[g]? = some (.cells cs t (0, 0))) (i : Nat) : w.cell? ⟨g, i, none⟩ = cs[i]? := cell_of_row w g i cs t (0, 0) h
theorem blk_frozen {w : World} {g : Nat} {t : TypeId} {cs : Array Value} (h : w.heap[g]? = some (.cells cs t (0, 0))) (i : Nat) : w.frozen? ⟨g, i, none⟩ = false := by simp [World.frozen?, h]
theorem blk_set {w : World} {g : Nat} {t : TypeId} {cs : Array Value} (h : w.heap[g]? = some (.cells cs t (0, 0))) (i : Nat) (u : Value) :
    (w.setCell ⟨g, i, none⟩ u).heap[g]? = some (.cells (cs.setIfInBounds i u) t (0, 0)) := by
  simp [World.setCell, Array.getElem?_modify, h]
theorem blk_far {w : World} {g : Nat} {o : Obj} (h : w.heap[g]? = some o) {p : Addr} (hp : g ≠ p.block) (u : Value) : (w.setCell p u).heap[g]? = some o :=
  (Below.heap_setCell w p u g hp).trans h
theorem blk_alloc {w : World} {g : Nat} {o : Obj} (h : w.heap[g]? = some o) (o' : Obj) : (w.alloc o').heap[g]? = some o := (Below.heap_alloc w o' g (blk_lt h)).trans h
theorem below_alloc {B : Nat} {w w' : World} (h : Below B w w') (o : Obj) (hB : B ≤ w'.heap.size) : Below B w (w'.alloc o) := h.alloc hB o
theorem Below.up {w w' : World} {B : Nat} (h : Below w.heap.size w w') (hB : B ≤ w.heap.size) : Below B w w' := h.mono hB
theorem bel_alloc {B : Nat} {w w' : World} (h : Below B w w') (hw : B ≤ w.heap.size) (o : Obj) : Below B w (w'.alloc o) := h.alloc (Nat.le_trans hw h.size) o
theorem bel_drewN {B : Nat} {w w' : World} (h : Below B w w') (n : Nat) : Below B w (w'.drewN n) := ⟨h.os, h.tape, h.output, h.size, h.block⟩
theorem bel_drew {B : Nat} {w w' : World} (h : Below B w w') : Below B w w'.drew := ⟨h.os, h.tape, h.output, h.size, h.block⟩
theorem bel_set {B : Nat} {w w' : World} (h : Below B w w') {p : Addr} (hp : B ≤ p.block) (u : Value) : Below B w (w'.setCell p u) := h.setCell hp u

/-- A block of cells, whole. -/
def Bx (t : TypeId) (w : World) (x : Nat) (cs : Array Value) : Prop := w.heap[x]? = some (.cells cs t (0, 0))
section
variable {t : TypeId} {w w' : World} {x : Nat} {cs : Array Value}
theorem Bx.newAt (h : x = w.heap.size) : Bx t (w.alloc (.cells cs t)) x cs := by subst h; exact heap_alloc_new w _
theorem Bx.alloc (h : Bx t w x cs) (o : Obj) : Bx t (w.alloc o) x cs := blk_alloc h o
theorem Bx.drew (h : Bx t w x cs) : Bx t w.drew x cs := h
theorem Bx.drewN (h : Bx t w x cs) (n : Nat) : Bx t (w.drewN n) x cs := h
theorem Bx.below (h : Bx t w x cs) (hb : Below w.heap.size w w') : Bx t w' x cs := (hb.block _ (blk_lt h)).trans h
theorem Bx.see (h : Bx t w x cs) : x < w.heap.size ∧ (∀ i, w.cell? ⟨x, i, none⟩ = cs[i]?) ∧ (∀ i, w.frozen? ⟨x, i, none⟩ = false) := ⟨blk_lt h, fun i => blk_cell h i, fun i => blk_frozen h i⟩
end

/-! Rows of the call's own. -/
theorem row_lt {w : World} {base : Nat} {e : TypeId} {size n : Nat} {v : Value} {xs : List Value} (h : w.ownsRow base e size v n xs) (k : Nat) (hk : v.ownBlock = some k) : base ≤ k ∧ ∃ cells, w.heap[k]? = some (.cells cells e (0, 0)) := by
  obtain ⟨_, ⟨rfl, _⟩ | ⟨g, cap, cur, hv, hb, hh, _⟩⟩ := h
  · simp [Value.ownBlock] at hk
  · rw [hv] at hk
    simp [Value.ownBlock] at hk
    exact hk ▸ ⟨hb, _, hh⟩
theorem row_move {w w1 : World} {base : Nat} {e : TypeId} {size n : Nat} {v : Value} {xs : List Value} (h : w.ownsRow base e size v n xs) (hm : ∀ k, v.ownBlock = some k → w1.heap[k]? = w.heap[k]?) : w1.ownsRow base e size v n xs := by
  obtain ⟨h1, h2⟩ := h
  refine ⟨h1, ?_⟩
  rcases h2 with h2 | ⟨g, cap, cur, hv, hg, hh, r⟩
  · exact .inl h2
  · exact .inr ⟨g, cap, cur, hv, hg, (hm g (by rw [hv]; rfl)).trans hh, r⟩
theorem row_below {w w1 : World} {base : Nat} {e : TypeId} {size n : Nat} {v : Value} {xs : List Value} (h : w.ownsRow base e size v n xs) (hb : Below w.heap.size w w1) : w1.ownsRow base e size v n xs :=
  row_move h (fun k hk => hb.block k (blk_lt (row_lt h k hk).2.choose_spec))
theorem row_slice {w : World} {base : Nat} {e : TypeId} {size n : Nat} {v : Value} {xs : List Value} (h : w.ownsRow base e size v n xs) : ∃ A c, v = .slice A n c := by
  obtain ⟨_, ⟨rfl, rfl⟩ | ⟨g, cap, cur, hv, _⟩⟩ := h
  · exact ⟨_, _, rfl⟩
  · exact ⟨_, _, hv⟩
theorem row_at {w : World} {base : Nat} {e : TypeId} {size n : Nat} {A : Option Addr} {c : Nat} {xs : List Value} (h : w.ownsRow base e size (.slice A n c) n xs) (h0 : 0 < n) :
    ∃ g, A = some ⟨g, 0, none⟩ ∧ base ≤ g ∧ g < w.heap.size ∧ (∀ i, w.frozen? ⟨g, i, none⟩ = false) ∧ ∀ j u, xs[j]? = some u → w.cell? ⟨g, j, none⟩ = some u := by
  obtain ⟨hl, ⟨_, rfl⟩ | ⟨g, cap, cur, hv, hb, hh, _, _, _, ht⟩⟩ := h
  · omega
  · injection hv with hv
    refine ⟨g, hv, hb, blk_lt hh, fun i => blk_frozen hh i, fun j u hj => ?_⟩
    rw [blk_cell hh, ← Array.getElem?_toList]
    rw [← ht] at hj
    rw [List.getElem?_take] at hj
    split at hj
    · exact hj
    · cases hj
theorem row_base {w : World} {base base' : Nat} {e : TypeId} {size n : Nat} {v : Value} {xs : List Value} (h : w.ownsRow base e size v n xs) (hb : base' ≤ base) : w.ownsRow base' e size v n xs := by
  obtain ⟨h1, h2⟩ := h
  refine ⟨h1, ?_⟩
  rcases h2 with h2 | ⟨g, cap, cur, hv, hg, r⟩
  · exact .inl h2
  · exact .inr ⟨g, cap, cur, hv, Nat.le_trans hb hg, r⟩
theorem cell_row {w : World} {m : Nat} (hm : m = w.heap.size) (cs : List Value) (t : TypeId) : ∀ j u, cs[j]? = some u → (w.alloc (.cells cs.toArray t)).cell? ((⟨m, 0, none⟩ : Addr).add j) = some u := by
  subst hm
  intro j u hj
  have e : (⟨w.heap.size, 0, none⟩ : Addr).add j = ⟨w.heap.size, j, none⟩ := by unfold Addr.add; split <;> simp_all
  rw [e, blk_cell (heap_alloc_new w (.cells cs.toArray t))]
  simpa using hj
end Go.Proofs.YtjoiflokekebkaaDoor
