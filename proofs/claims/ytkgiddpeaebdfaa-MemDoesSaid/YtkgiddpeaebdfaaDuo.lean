/- Two memories side by side: the program's and the document's. -/
import Derived.Test.YtkgiddpeaebdfaaJoin
import Derived.Test.YtkgiddpeaebdfaaSmall
import Derived.Test.YtkgiddpeaebdfaaW12
namespace Go.Proofs.Ytkgiddpeaebdfaa
open Go.RowKit

theorem wf_range {n : Int} (h : (Lit.int .i64 n).wf = true) : -9223372036854775808 ≤ n ∧ n ≤ 9223372036854775807 := by
  simp only [Lit.wf, Bool.and_eq_true, decide_eq_true_eq] at h
  have e1 : IntKind.min .i64 = -9223372036854775808 := by decide
  have e2 : IntKind.max .i64 = 9223372036854775807 := by decide
  rw [e1, e2] at h
  exact h

theorem rcopy_any {B : Nat} {W : World} {g : Nat} {F : Nat → Prop} {R : Rf} {v1 v2 : Value} (h : RefAt B W g F R v1 v2) (tb : Bool) (ta tn : Int) (fb : Bool) (fa fn : Int) (n : Int) (hn : n ≤ 1000) (hfn : -9223372036854775808 ≤ fn ∧ fn ≤ 9223372036854775807) (hl : R.ce.length + 1000 < 1000000) :
    Calls Try.prog 29 #[.pointer (some ⟨g, 0, none⟩), .agg #[.bool tb, .int .i64 ta, .int .i64 tn], .agg #[.bool fb, .int .i64 fa, .int .i64 fn], .int .i64 n] W fun e W' =>
      e = .returned (.int .i64 (R.copyE tb ta tn fb fa fn n)) ∧ (∃ F', Ref B W' g F' (R.copy tb ta tn fb fa fn n) ∧ ∀ k, F' k → F k ∨ W.heap.size ≤ k) ∧ Kept F W W' := by
  by_cases hn0 : n < 0
  · have e1 : R.copyE tb ta tn fb fa fn n = 1 := by rw [Rf.copyE, if_pos hn0]
    have e2 : R.copy tb ta tn fb fa fn n = R := by rw [Rf.copy, e1, if_neg (by decide)]
    rw [e1, e2]
    have H := Lib.hid h
    clear h e1 e2
    go_enter Try.func29, Try.ntmps29
    go_wp2
    go_ret
    exact ⟨rfl, ⟨F, ⟨v1, v2, H.out.below (by repeat (first | exact Below.refl _ _ | apply below_alloc))⟩, fun _ h => .inl h⟩, Kept.of_below (by repeat (first | exact Below.refl _ _ | apply below_alloc))⟩
  · obtain ⟨k, rfl⟩ : ∃ k : Nat, n = k := ⟨n.toNat, by omega⟩
    exact rcopy_loads h tb ta tn fb fa fn k (by omega) hfn (by omega)

theorem ralloc_ce (R : Rf) (n : Int) : (R.alloc n).ce = R.ce := by unfold Rf.alloc; split <;> rfl
theorem rfree_ce (R : Rf) (b : Bool) (a n : Int) : (R.free b a n).ce = R.ce := by unfold Rf.free; split <;> rfl
theorem rstore_ce (R : Rf) (b : Bool) (a n : Int) (w : Wd) : (R.store b a n w).ce.length ≤ R.ce.length + 1 := by
  unfold Rf.store
  split
  · have hle : (ckeep R.ce a n).length ≤ R.ce.length := List.length_filter_le _ _
    simp
    omega
  · omega
theorem rdropN_ce (R : Rf) (a n : Int) : ∀ k, (R.dropN a n k).ce.length ≤ R.ce.length
  | 0 => Nat.le_refl _
  | k + 1 => Nat.le_trans (List.length_filter_le _ _) (rdropN_ce R a n k)
theorem rclear_ce (R : Rf) (b : Bool) (a n k : Int) : (R.clear b a n k).ce.length ≤ R.ce.length := by
  unfold Rf.clear
  split
  · exact rdropN_ce R a n _
  · exact Nat.le_refl _
theorem rcopy_ce (R : Rf) (tb : Bool) (ta tn : Int) (fb : Bool) (fa fn n : Int) (hn : n ≤ 100) : (R.copy tb ta tn fb fa fn n).ce.length ≤ R.ce.length + 100 := by
  unfold Rf.copy
  split
  · have := (rstoreN_bl (R := R) (a := ta) (n := tn) (R.loads fb fa fn n.toNat) n.toNat).2.2
    omega
  · omega
theorem smallB_le {l : List Ac} (h : smallB l = true) : l.length ≤ 40 ∧ ∀ x ∈ l, x.n ≤ 100 := by
  simp only [smallB, Bool.and_eq_true, decide_eq_true_eq, List.all_eq_true] at h
  exact h

structure Duo (W : World) (B C : Nat) (wr : World) (S : Me) (R : Rf) (F G : Nat → Prop) : Prop where
  mem : Mem B wr B F S
  ref : Ref C wr C G R
  dis : ∀ k, F k → ¬ G k
  leB : W.heap.size ≤ B
  leC : W.heap.size ≤ C
  z : Below W.heap.size W wr

theorem Ref.low {B : Nat} {W : World} {g : Nat} {F : Nat → Prop} {R : Rf} (h : Ref B W g F R) : ∀ k, F k → B ≤ k ∧ k < W.heap.size := by
  obtain ⟨v1, v2, h⟩ := h
  exact h.low

section
variable {W : World} {B C : Nat} {wr w' : World} {S S' : Me} {R R' : Rf} {F G F' G' : Nat → Prop}
theorem Duo.below (h : Duo W B C wr S R F G) (hb : Below wr.heap.size wr w') : Duo W B C w' S R F G :=
  ⟨h.mem.below hb, h.ref.below hb, h.dis, h.leB, h.leC, h.z.trans (hb.mono h.z.size)⟩
theorem Duo.memM (h : Duo W B C wr S R F G) (m : Mem B w' B F' S') (q : ∀ k, F' k → F k ∨ wr.heap.size ≤ k) (k : Kept F wr w') : Duo W B C w' S' R F' G :=
  ⟨m, h.ref.move k.size (fun i hi => k.block i (h.ref.low i hi).2 (fun hf => h.dis i hf hi)), fun i hf hg => (q i hf).elim (fun e => h.dis i e hg) (fun e => by have := (h.ref.low i hg).2; omega), h.leB, h.leC,
   keptB (fun i hi => by have := (h.mem.low i hi).1; have := h.leB; omega) h.z (Nat.le_refl _) k⟩
theorem Duo.memK (h : Duo W B C wr S R F G) (m : Mem B w' B F S') (k : Kept F wr w') : Duo W B C w' S' R F G := h.memM m (fun _ h => .inl h) k
theorem Duo.refM (h : Duo W B C wr S R F G) (r : Ref C w' C G' R') (q : ∀ k, G' k → G k ∨ wr.heap.size ≤ k) (k : Kept G wr w') : Duo W B C w' S R' F G' :=
  ⟨h.mem.move k.size (fun i hi => k.block i (h.mem.low i hi).2 (fun hg => h.dis i hi hg)), r, fun i hf hg => (q i hg).elim (fun e => h.dis i hf e) (fun e => by have := (h.mem.low i hf).2; omega), h.leB, h.leC,
   keptB (fun i hi => by have := (h.ref.low i hi).1; have := h.leC; omega) h.z (Nat.le_refl _) k⟩
theorem Duo.set (h : Duo W B C wr S R F G) (p : Addr) (u : Value) (h1 : ¬ F p.block) (h2 : ¬ G p.block) (h3 : W.heap.size ≤ p.block) : Duo W B C (wr.setCell p u) S R F G :=
  ⟨h.mem.set p u h1, h.ref.set p u h2, h.dis, h.leB, h.leC, h.z.setCell h3 u⟩
end

/-- A round's own boxes: the act, and what the two memories answered. -/
structure Rnd (W : World) (B C a0 : Nat) (x : Ac) (wr : World) (S : Me) (R : Rf) (F G : Nat → Prop) (xw yw : Wd) : Prop where
  d : Duo W B C wr S R F G
  act : wr.heap[a0]? = some (.cells x.cells.toArray 51 (0, 0))
  bx : Box wr (a0 + 1) #[.bool xw.p, .int .i64 xw.a, .int .i64 xw.n]
  bY : Box wr (a0 + 2) #[.bool yw.p, .int .i64 yw.a, .int .i64 yw.n]
  nF : ∀ i, i < 3 → ¬ F (a0 + i)
  nG : ∀ i, i < 3 → ¬ G (a0 + i)
  la : W.heap.size ≤ a0

theorem box_set3 {w : World} {x : Nat} {a b c : Value} (h : Box w x #[a, b, c]) (u0 u1 u2 : Value) : Box (((w.setCell ⟨x, 0, none⟩ u0).setCell ⟨x, 1, none⟩ u1).setCell ⟨x, 2, none⟩ u2) x #[u0, u1, u2] := by
  have := blk_set (blk_set (blk_set h 0 u0) 1 u1) 2 u2
  simpa [Box] using this
theorem box_far3 {w : World} {x y : Nat} (hne : y ≠ x) (u0 u1 u2 : Value) : (((w.setCell ⟨x, 0, none⟩ u0).setCell ⟨x, 1, none⟩ u1).setCell ⟨x, 2, none⟩ u2).heap[y]? = w.heap[y]? := by
  rw [Below.heap_setCell _ _ _ _ (by simpa using hne), Below.heap_setCell _ _ _ _ (by simpa using hne), Below.heap_setCell _ _ _ _ (by simpa using hne)]

section
variable {W : World} {B C a0 : Nat} {x : Ac} {wr w' : World} {S S' : Me} {R R' : Rf} {F G F' G' : Nat → Prop} {xw yw : Wd}
theorem Rnd.below (h : Rnd W B C a0 x wr S R F G xw yw) (hb : Below wr.heap.size wr w') : Rnd W B C a0 x w' S R F G xw yw :=
  ⟨h.d.below hb, (hb.block _ (blk_lt h.act)).trans h.act, h.bx.below hb, h.bY.below hb, h.nF, h.nG, h.la⟩
theorem Rnd.memM (h : Rnd W B C a0 x wr S R F G xw yw) (m : Mem B w' B F' S') (q : ∀ k, F' k → F k ∨ wr.heap.size ≤ k) (k : Kept F wr w') : Rnd W B C a0 x w' S' R F' G xw yw :=
  ⟨h.d.memM m q k, (k.block _ (blk_lt h.act) (h.nF 0 (by omega))).trans h.act, h.bx.kept k (h.nF 1 (by omega)), h.bY.kept k (h.nF 2 (by omega)),
   fun i hi hf => (q _ hf).elim (h.nF i hi) (fun e => by have := blk_lt h.bY; omega), h.nG, h.la⟩
theorem Rnd.memK (h : Rnd W B C a0 x wr S R F G xw yw) (m : Mem B w' B F S') (k : Kept F wr w') : Rnd W B C a0 x w' S' R F G xw yw := h.memM m (fun _ h => .inl h) k
theorem Rnd.refM (h : Rnd W B C a0 x wr S R F G xw yw) (r : Ref C w' C G' R') (q : ∀ k, G' k → G k ∨ wr.heap.size ≤ k) (k : Kept G wr w') : Rnd W B C a0 x w' S R' F G' xw yw :=
  ⟨h.d.refM r q k, (k.block _ (blk_lt h.act) (h.nG 0 (by omega))).trans h.act, h.bx.kept k (h.nG 1 (by omega)), h.bY.kept k (h.nG 2 (by omega)),
   h.nF, fun i hi hg => (q _ hg).elim (h.nG i hi) (fun e => by have := blk_lt h.bY; omega), h.la⟩
theorem Duo.set3 (h : Duo W B C wr S R F G) (y : Nat) (u0 u1 u2 : Value) (h1 : ¬ F y) (h2 : ¬ G y) (h3 : W.heap.size ≤ y) : Duo W B C (((wr.setCell ⟨y, 0, none⟩ u0).setCell ⟨y, 1, none⟩ u1).setCell ⟨y, 2, none⟩ u2) S R F G :=
  ((h.set _ _ h1 h2 h3).set _ _ h1 h2 h3).set _ _ h1 h2 h3
theorem Rnd.setx (h : Rnd W B C a0 x wr S R F G xw yw) (v : Wd) : Rnd W B C a0 x (((wr.setCell ⟨a0 + 1, 0, none⟩ (.bool v.p)).setCell ⟨a0 + 1, 1, none⟩ (.int .i64 v.a)).setCell ⟨a0 + 1, 2, none⟩ (.int .i64 v.n)) S R F G v yw :=
  ⟨h.d.set3 _ _ _ _ (h.nF 1 (by omega)) (h.nG 1 (by omega)) (by have := h.la; omega), (box_far3 (by omega) _ _ _).trans h.act, box_set3 h.bx _ _ _, (box_far3 (by omega) _ _ _).trans h.bY, h.nF, h.nG, h.la⟩
theorem Rnd.sety (h : Rnd W B C a0 x wr S R F G xw yw) (v : Wd) : Rnd W B C a0 x (((wr.setCell ⟨a0 + 2, 0, none⟩ (.bool v.p)).setCell ⟨a0 + 2, 1, none⟩ (.int .i64 v.a)).setCell ⟨a0 + 2, 2, none⟩ (.int .i64 v.n)) S R F G xw v :=
  ⟨h.d.set3 _ _ _ _ (h.nF 2 (by omega)) (h.nG 2 (by omega)) (by have := h.la; omega), (box_far3 (by omega) _ _ _).trans h.act, (box_far3 (by omega) _ _ _).trans h.bx, box_set3 h.bY _ _ _, h.nF, h.nG, h.la⟩
theorem Rnd.start (h : Duo W B C wr S R F G) (x : Ac) : Rnd W B C wr.heap.size x (((wr.alloc (.cells x.cells.toArray 51)).alloc (.cells #[.bool false, .int .i64 0, .int .i64 0] 23)).alloc (.cells #[.bool false, .int .i64 0, .int .i64 0] 23)) S R F G Wd.zero Wd.zero := by
  have h1 := heap_alloc_new wr (.cells x.cells.toArray 51)
  have h2 := Box.newAt (w := wr.alloc (.cells x.cells.toArray 51)) (x := wr.heap.size + 1) (cs := #[.bool false, .int .i64 0, .int .i64 0]) (by simp)
  have h3 := Box.newAt (w := (wr.alloc (.cells x.cells.toArray 51)).alloc (.cells #[.bool false, .int .i64 0, .int .i64 0] 23)) (x := wr.heap.size + 2) (cs := #[.bool false, .int .i64 0, .int .i64 0]) (by simp)
  refine ⟨h.below (below_alloc (below_alloc (below_alloc (Below.refl _ _) _) _) _), ?_, h2.alloc _, h3, fun i hi hf => by have := (h.mem.low _ hf).2; omega, fun i hi hg => by have := (h.ref.low _ hg).2; omega, h.z.size⟩
  exact blk_alloc (blk_alloc h1 _) _
theorem Rnd.see (h : Rnd W B C a0 x wr S R F G xw yw) : a0 + 2 < wr.heap.size ∧ (wr.cell? ⟨a0, 0, none⟩ = some (.int .i64 x.k) ∧ wr.cell? ⟨a0, 1, none⟩ = some (.int .i64 x.n) ∧ wr.cell? ⟨a0, 2, none⟩ = some (.bool x.p.p) ∧ wr.cell? ⟨a0, 3, none⟩ = some (.int .i64 x.p.a) ∧ wr.cell? ⟨a0, 4, none⟩ = some (.int .i64 x.p.n) ∧
    wr.cell? ⟨a0, 5, none⟩ = some (.bool x.q.p) ∧ wr.cell? ⟨a0, 6, none⟩ = some (.int .i64 x.q.a) ∧ wr.cell? ⟨a0, 7, none⟩ = some (.int .i64 x.q.n)) ∧
    (∀ i, wr.cell? ⟨a0 + 1, i, none⟩ = (#[.bool xw.p, .int .i64 xw.a, .int .i64 xw.n] : Array Value)[i]?) ∧ (∀ i, wr.frozen? ⟨a0 + 1, i, none⟩ = false) ∧
    (∀ i, wr.cell? ⟨a0 + 2, i, none⟩ = (#[.bool yw.p, .int .i64 yw.a, .int .i64 yw.n] : Array Value)[i]?) ∧ (∀ i, wr.frozen? ⟨a0 + 2, i, none⟩ = false) :=
  ⟨blk_lt h.bY, ⟨blk_cell h.act 0, blk_cell h.act 1, blk_cell h.act 2, blk_cell h.act 3, blk_cell h.act 4, blk_cell h.act 5, blk_cell h.act 6, blk_cell h.act 7⟩, fun i => blk_cell h.bx i, fun i => blk_frozen h.bx i, fun i => blk_cell h.bY i, fun i => blk_frozen h.bY i⟩
end
end Go.Proofs.Ytkgiddpeaebdfaa
