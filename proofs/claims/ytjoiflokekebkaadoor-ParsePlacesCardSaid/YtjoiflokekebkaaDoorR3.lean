/- Walks: what is kept, and plain steps of lists. -/
import Derived.Test.YtjoiflokekebkaaDoorR2
import Derived.Deep.LoopGhost
import Derived.Deep.CutBlock
import Derived.Deep.CutRange
set_option linter.all false
namespace Go.Proofs.YtjoiflokekebkaaDoor
open Go.RowKit

section
variable {W W' W1 : World} {R : Nat} {ts : List Tk} {row : Option Nat}
theorem Rdr.grown (h : Rdr W R ts) (hg : W.grownBy W' row) (hr : ∀ k, row = some k → R < k) : Rdr W' R ts := by
  have hlt := h.lt
  obtain ⟨⟨T, o, c, h1, h2, h3, h4⟩, h5⟩ := h
  have hh : ∀ k, k ≤ R → W'.heap[k]? = W.heap[k]? := fun k hk => hg.block k (by omega) (fun e => by have := hr k e.symm; omega)
  refine ⟨⟨T, o, c, (hh R (Nat.le_refl _)).trans h1, h2, h3, fun i t ht => ?_⟩, h5⟩
  have hc : ∀ j, W'.cell? ⟨T, j, none⟩ = W.cell? ⟨T, j, none⟩ := fun j => by simp [World.cell?, hh T (by omega)]
  rw [hc, hc, hc, hc]
  exact h4 i t ht
theorem grown_own (h : W.grownBy W' (some R)) (k : W'.grownBy W1 row) (hr : ∀ j, row = some j → W.heap.size ≤ j) : W.grownBy W1 (some R) :=
  ⟨k.os.trans h.os, k.tape.trans h.tape, k.output.trans h.output, Nat.le_trans h.size k.size, fun j hj hne => (k.block j (Nat.lt_of_lt_of_le hj h.size) (fun e => by have := hr j e.symm; omega)).trans (h.block j hj hne)⟩
theorem grown_alloc (h : W.grownBy W' (some R)) (o : Obj) : W.grownBy (W'.alloc o) (some R) := World.grownBy.trans h (World.grownBy_alloc _ _ _)
theorem grown_set (h : W.grownBy W' (some R)) {p : Addr} (hp : W.heap.size ≤ p.block) (u : Value) : W.grownBy (W'.setCell p u) (some R) :=
  ⟨h.os, h.tape, h.output, by rw [World.size_setCell]; exact h.size, fun j hj hne => (Below.heap_setCell W' p u j (by omega)).trans (h.block j hj hne)⟩
/-- A row's own block is new. -/
theorem Rd.new {n : Nat} {v : Value} {e : TypeId} {sz : Nat} {l : List (List D)} (h : Rd W (fun k => n ≤ k) v (.row e sz l)) : ∀ k, v.ownBlock = some k → n ≤ k ∧ k < W.heap.size := fun k hk => by
  obtain ⟨xs, ho, h1⟩ := h.owns
  exact ⟨h1 k hk, blk_lt (row_lt ho k hk).2.choose_spec⟩
theorem Rd.kept {n : Nat} {v : Value} {d : D} (h : Rd W (fun k => n ≤ k) v d) (hg : W.grownBy W' (some R)) (hR : R < n) : Rd W' (fun k => n ≤ k) v d := h.grown hg (fun k hk e => by injection e; omega)
theorem Rds.kept {n : Nat} {us : List Value} {ds : List D} (h : Rds W (fun k => n ≤ k) us ds) (hg : W.grownBy W' (some R)) (hR : R < n) : Rds W' (fun k => n ≤ k) us ds := h.grown hg (fun k hk e => by injection e; omega)
end
/-- Only cells of blocks from lo up to hi have been written. -/
structure Put (lo hi : Nat) (w w' : World) : Prop where
  os : w'.os = w.os
  tape : w'.tape = w.tape
  output : w'.output = w.output
  size : w'.heap.size = w.heap.size
  block : ∀ k, (k < lo ∨ hi ≤ k) → w'.heap[k]? = w.heap[k]?
theorem Put.refl (lo hi : Nat) (w : World) : Put lo hi w w := ⟨rfl, rfl, rfl, rfl, fun _ _ => rfl⟩
section
variable {lo hi R : Nat} {W w w' : World} {ts : List Tk}
theorem Put.set (h : Put lo hi w w') {p : Addr} (h1 : lo ≤ p.block) (h2 : p.block < hi) (u : Value) : Put lo hi w (w'.setCell p u) :=
  ⟨h.os, h.tape, h.output, by rw [World.size_setCell]; exact h.size, fun k hk => (Below.heap_setCell w' p u k (by omega)).trans (h.block k hk)⟩
theorem Put.grown (h : Put lo hi w w') (hg : W.grownBy w (some R)) (hl : W.heap.size ≤ lo) : W.grownBy w' (some R) :=
  ⟨h.os.trans hg.os, h.tape.trans hg.tape, h.output.trans hg.output, by rw [h.size]; exact hg.size, fun k hk hne => (h.block k (.inl (by omega))).trans (hg.block k hk hne)⟩
theorem Rdr.put (hr : Rdr w R ts) (h : Put lo hi w w') (hl : R < lo) : Rdr w' R ts :=
  hr.below (B := lo) ⟨h.os, h.tape, h.output, by rw [h.size]; exact Nat.le_refl _, fun k hk => h.block k (.inl hk)⟩ hl
theorem Rd.put {n : Nat} {u : Value} {d : D} (hd : Rd w (fun j => n ≤ j) u d) (h : Put lo hi w w') (hn : hi ≤ n) : Rd w' (fun j => n ≤ j) u d := hd.step (fun k hk _ => h.block k (.inr (by omega)))
theorem Bx.put {t : TypeId} {x : Nat} {cs : Array Value} (hx : Bx t w x cs) (h : Put lo hi w w') (hn : x < lo ∨ hi ≤ x) : Bx t w' x cs := (h.block x hn).trans hx
end
section
variable {α : Type} {fin : ByteArray} {p : Ps α} {n : Nat} {acc : List α} {ts us : List Tk} {x : α}
abbrev comma : ByteArray := ⟨#[44]⟩
theorem more_t (hw : isW comma ts = true) (hx : p ts.tail = .ok (x, us)) : ((moreP fin p (n + 1)).bd fun l => Ps.ret (acc ++ l)) ts = ((moreP fin p n).bd fun l => Ps.ret ((acc ++ [x]) ++ l)) us := by
  have h1 : moreP fin p (n + 1) ts = (p.bd fun x => (moreP fin p n).bd fun l => .ret (x :: l)) ts.tail := optE_t hw
  rw [Ps.bd_ok hx] at h1
  unfold Ps.bd at h1 ⊢
  rw [h1]
  cases moreP fin p n us with
  | error e => rfl
  | ok q => simp [Ps.ret]
theorem more_te {e : Int × Int} (hw : isW comma ts = true) (hx : p ts.tail = .error e) : ((moreP fin p (n + 1)).bd fun l => Ps.ret (acc ++ l)) ts = .error e := by
  have h1 : moreP fin p (n + 1) ts = (p.bd fun x => (moreP fin p n).bd fun l => .ret (x :: l)) ts.tail := optE_t hw
  rw [Ps.bd_err hx] at h1
  exact Ps.bd_err h1
theorem more_f (hw : isW comma ts = false) (hx : must fin ts = .ok ((), us)) : ((moreP fin p (n + 1)).bd fun l => Ps.ret (acc ++ l)) ts = .ok (acc, us) := by
  have h1 : moreP fin p (n + 1) ts = ((must fin).bd fun _ => .ret []) ts := optE_f hw
  rw [Ps.bd_ok hx] at h1
  rw [Ps.bd_ok h1]
  simp [Ps.ret]
theorem more_fe {e : Int × Int} (hw : isW comma ts = false) (hx : must fin ts = .error e) : ((moreP fin p (n + 1)).bd fun l => Ps.ret (acc ++ l)) ts = .error e := by
  have h1 : moreP fin p (n + 1) ts = ((must fin).bd fun _ => .ret []) ts := optE_f hw
  rw [Ps.bd_err hx] at h1
  exact Ps.bd_err h1
theorem list_t (hw : isW fin ts = true) : listP fin p ts = .ok ([], ts.tail) := by rw [listP, optE_t hw]; rfl
theorem list_f (hw : isW fin ts = false) (hx : p ts = .ok (x, us)) : listP fin p ts = ((moreP fin p (us.length + 1)).bd fun l => Ps.ret ([x] ++ l)) us := by rw [listP, optE_f hw, Ps.bd_ok hx]; rfl
theorem list_fe {e : Int × Int} (hw : isW fin ts = false) (hx : p ts = .error e) : listP fin p ts = .error e := by rw [listP, optE_f hw, Ps.bd_err hx]
end
end Go.Proofs.YtjoiflokekebkaaDoor
