/- How a memory of package mem lies in the model's heap. -/
import Derived.WalkKit
import Derived.Deep.Draws
import Derived.Maps.AppendAt
import Derived.Test.YtkgiddpeaebdfaaModel
namespace Go.Proofs.Ytkgiddpeaebdfaa
open Go.RowKit

theorem blk_lt {w : World} {g : Nat} {o : Obj} (h : w.heap[g]? = some o) : g < w.heap.size := (Array.getElem?_eq_some_iff.1 h).1
theorem blk_cell {w : World} {g : Nat} {t : TypeId} {cs : Array Value} (h : w.heap[g]? = some (.cells cs t (0, 0))) (i : Nat) : w.cell? ⟨g, i, none⟩ = cs[i]? := cell_of_row w g i cs t (0, 0) h
theorem blk_frozen {w : World} {g : Nat} {t : TypeId} {cs : Array Value} (h : w.heap[g]? = some (.cells cs t (0, 0))) (i : Nat) : w.frozen? ⟨g, i, none⟩ = false := by simp [World.frozen?, h]
theorem blk_ne {w : World} {g g' : Nat} {t t' : TypeId} {cs cs' : Array Value} (h : w.heap[g]? = some (.cells cs t (0, 0))) (h' : w.heap[g']? = some (.cells cs' t' (0, 0))) (hne : t ≠ t') : g ≠ g' := by
  rintro rfl
  rw [h] at h'
  injection h' with h'
  injection h' with _ ht
  exact hne ht
theorem blk_set {w : World} {g : Nat} {t : TypeId} {cs : Array Value} (h : w.heap[g]? = some (.cells cs t (0, 0))) (i : Nat) (u : Value) :
    (w.setCell ⟨g, i, none⟩ u).heap[g]? = some (.cells (cs.setIfInBounds i u) t (0, 0)) := by
  simp [World.setCell, Array.getElem?_modify, h]
theorem blk_far {w : World} {g : Nat} {o : Obj} (h : w.heap[g]? = some o) {p : Addr} (hp : g ≠ p.block) (u : Value) : (w.setCell p u).heap[g]? = some o :=
  (Below.heap_setCell w p u g hp).trans h
theorem blk_alloc {w : World} {g : Nat} {o : Obj} (h : w.heap[g]? = some o) (o' : Obj) : (w.alloc o').heap[g]? = some o := (Below.heap_alloc w o' g (blk_lt h)).trans h

def wcells (ws : List Wd) : List Value := ws.flatMap fun x => [.bool x.p, .int .i64 x.a, .int .i64 x.n]
def bcells (st : List Bool) : List Value := st.map Value.bool

theorem wcells_length (ws : List Wd) : (wcells ws).length = ws.length * 3 := by
  induction ws with
  | nil => rfl
  | cons x ws ih => simp [wcells] at ih ⊢; omega

theorem wcells_at (ws : List Wd) (i : Nat) (h : i < ws.length) :
    (wcells ws)[i * 3]? = some (.bool (ws.getD i Wd.zero).p) ∧ (wcells ws)[i * 3 + 1]? = some (.int .i64 (ws.getD i Wd.zero).a) ∧ (wcells ws)[i * 3 + 2]? = some (.int .i64 (ws.getD i Wd.zero).n) := by
  induction ws generalizing i with
  | nil => simp at h
  | cons x ws ih =>
    cases i with
    | zero => simp [wcells]
    | succ i =>
      have := ih i (by simpa using h)
      have e : (i + 1) * 3 = i * 3 + 3 := by omega
      simpa [wcells, e] using this

theorem wcells_append (a b : List Wd) : wcells (a ++ b) = wcells a ++ wcells b := by simp [wcells]

theorem wcells_set (ws : List Wd) (i : Nat) (x : Wd) :
    wcells (ws.set i x) = (((wcells ws).set (i * 3) (.bool x.p)).set (i * 3 + 1) (.int .i64 x.a)).set (i * 3 + 2) (.int .i64 x.n) := by
  induction ws generalizing i with
  | nil => simp [wcells]
  | cons y ws ih =>
    cases i with
    | zero => simp [wcells]
    | succ i =>
      have := ih i
      have e : (i + 1) * 3 = i * 3 + 3 := by omega
      simp [wcells, e] at this ⊢
      exact this

/-- Where a memory lies: the row of its allocations, and the words and the flags of each. -/
structure Lay where
  bo : Option Addr
  bb : Nat
  cap : Nat
  I : Nat → Nat
  J : Nat → Nat

def c0 (b : Bk) (i : Nat) : Value := if b.freed = true then .slice none 0 0 else .slice (some ⟨i, 0, none⟩) b.ws.length b.ws.length
def c1 (b : Bk) (i : Nat) : Value := if b.freed = true then .slice none 0 0 else .slice (some ⟨i, 0, none⟩) b.st.length b.st.length

structure MemAt (W : World) (g : Nat) (L : Lay) (F : Nat → Prop) (S : Me) : Prop where
  hg : W.heap[g]? = some (.cells #[.int .i64 S.room, .int .i64 S.used, .int .i64 S.live, .slice L.bo S.bs.length L.cap] 63 (0, 0))
  fg : F g
  nil : S.bs.length = 0 → L.bo = none ∧ L.cap = 0
  row : 0 < S.bs.length → L.bo = some ⟨L.bb, 0, none⟩ ∧ F L.bb ∧ ∃ cur : Array Value, W.heap[L.bb]? = some (.cells cur 65 (0, 0)) ∧ S.bs.length ≤ L.cap ∧ L.cap ≤ maxLen ∧ cur.size = L.cap * 3 ∧
    ∀ i b, S.bs[i]? = some b → cur[i * 3]? = some (c0 b (L.I i)) ∧ cur[i * 3 + 1]? = some (c1 b (L.J i)) ∧ cur[i * 3 + 2]? = some (.bool b.freed)
  wds : ∀ i b, S.bs[i]? = some b → b.freed = false → F (L.I i) ∧ W.heap[L.I i]? = some (.cells (wcells b.ws).toArray 23 (0, 0))
  sts : ∀ i b, S.bs[i]? = some b → b.freed = false → F (L.J i) ∧ W.heap[L.J i]? = some (.cells (bcells b.st).toArray 4 (0, 0))
  apart : ∀ i k b c, S.bs[i]? = some b → S.bs[k]? = some c → b.freed = false → c.freed = false → i ≠ k → L.I i ≠ L.I k ∧ L.J i ≠ L.J k

theorem MemAt.mono {W : World} {g : Nat} {L : Lay} {F F' : Nat → Prop} {S : Me} (h : MemAt W g L F S) (hf : ∀ k, F k → F' k) : MemAt W g L F' S :=
  ⟨h.hg, hf _ h.fg, h.nil, fun hn => by obtain ⟨h1, h2, h3⟩ := h.row hn; exact ⟨h1, hf _ h2, h3⟩, fun i b hb hf' => ⟨hf _ (h.wds i b hb hf').1, (h.wds i b hb hf').2⟩,
   fun i b hb hf' => ⟨hf _ (h.sts i b hb hf').1, (h.sts i b hb hf').2⟩, h.apart⟩

/-- What is told of a memory is told of blocks that are there. -/
theorem MemAt.bound {W : World} {g : Nat} {L : Lay} {F : Nat → Prop} {S : Me} (h : MemAt W g L F S) : MemAt W g L (fun k => F k ∧ k < W.heap.size) S :=
  ⟨h.hg, ⟨h.fg, blk_lt h.hg⟩, h.nil, fun hn => by obtain ⟨h1, h2, cur, h3, h4⟩ := h.row hn; exact ⟨h1, ⟨h2, blk_lt h3⟩, cur, h3, h4⟩,
   fun i b hb hf' => ⟨⟨(h.wds i b hb hf').1, blk_lt (h.wds i b hb hf').2⟩, (h.wds i b hb hf').2⟩,
   fun i b hb hf' => ⟨⟨(h.sts i b hb hf').1, blk_lt (h.sts i b hb hf').2⟩, (h.sts i b hb hf').2⟩, h.apart⟩

theorem MemAt.move {W W' : World} {g : Nat} {L : Lay} {F : Nat → Prop} {S : Me} (h : MemAt W g L F S) (hm : ∀ k, F k → k < W.heap.size → W'.heap[k]? = W.heap[k]?) : MemAt W' g L F S :=
  ⟨(hm g h.fg (blk_lt h.hg)).trans h.hg, h.fg, h.nil,
   fun hn => by obtain ⟨h1, h2, cur, h3, h4⟩ := h.row hn; exact ⟨h1, h2, cur, (hm _ h2 (blk_lt h3)).trans h3, h4⟩,
   fun i b hb hf' => ⟨(h.wds i b hb hf').1, (hm _ (h.wds i b hb hf').1 (blk_lt (h.wds i b hb hf').2)).trans (h.wds i b hb hf').2⟩,
   fun i b hb hf' => ⟨(h.sts i b hb hf').1, (hm _ (h.sts i b hb hf').1 (blk_lt (h.sts i b hb hf').2)).trans (h.sts i b hb hf').2⟩, h.apart⟩

theorem MemAt.below {W W' : World} {g : Nat} {L : Lay} {F : Nat → Prop} {S : Me} (h : MemAt W g L F S) (hb : Below W.heap.size W W') : MemAt W' g L F S :=
  h.move fun k _ hk => hb.block k hk

/-- Of what was there, only what F names may have been written. -/
structure Kept (F : Nat → Prop) (w w' : World) : Prop where
  os : w'.os = w.os
  tape : w'.tape = w.tape
  output : w'.output = w.output
  size : w.heap.size ≤ w'.heap.size
  block : ∀ k, k < w.heap.size → ¬ F k → w'.heap[k]? = w.heap[k]?

theorem Kept.refl (F : Nat → Prop) (w : World) : Kept F w w := ⟨rfl, rfl, rfl, Nat.le_refl _, fun _ _ _ => rfl⟩
theorem Kept.of_below {F : Nat → Prop} {w w' : World} (h : Below w.heap.size w w') : Kept F w w' := ⟨h.os, h.tape, h.output, h.size, fun k hk _ => h.block k hk⟩
theorem Kept.trans {F G : Nat → Prop} {a b c : World} (h : Kept F a b) (k : Kept G b c) (hg : ∀ i, i < a.heap.size → G i → F i) : Kept F a c :=
  ⟨k.os.trans h.os, k.tape.trans h.tape, k.output.trans h.output, Nat.le_trans h.size k.size,
   fun i hi hf => (k.block i (by have := h.size; omega) (fun hgi => hf (hg i hi hgi))).trans (h.block i hi hf)⟩
theorem Kept.alloc {F : Nat → Prop} {a b : World} (h : Kept F a b) (o : Obj) : Kept F a (b.alloc o) :=
  h.trans (Kept.of_below (F := F) ((Below.refl _ b).alloc (Nat.le_refl _) o)) (fun _ _ h => h)
theorem Kept.drew {F : Nat → Prop} {a b : World} (h : Kept F a b) : Kept F a b.drew := ⟨h.os, h.tape, h.output, h.size, h.block⟩
theorem Kept.drewN {F : Nat → Prop} {a b : World} (h : Kept F a b) (n : Nat) : Kept F a (b.drewN n) := ⟨h.os, h.tape, h.output, h.size, h.block⟩
theorem Kept.set {F : Nat → Prop} {a b : World} (h : Kept F a b) (p : Addr) (u : Value) (hp : p.block < a.heap.size → F p.block) : Kept F a (b.setCell p u) :=
  ⟨h.os, h.tape, h.output, by simpa [World.setCell] using h.size, fun i hi hf => (Below.heap_setCell b p u i (fun e => hf (by subst e; exact hp hi))).trans (h.block i hi hf)⟩
theorem Kept.below {F : Nat → Prop} {B : Nat} {w w' : World} (h : Kept F w w') (hF : ∀ k, k < B → ¬ F k) (hB : B ≤ w.heap.size) : Below B w w' :=
  ⟨h.os, h.tape, h.output, h.size, fun k hk => h.block k (by omega) (hF k hk)⟩
theorem Kept.grown {F : Nat → Prop} {a b c : World} {row : Option Nat} (h : Kept F a b) (hg : b.grownBy c row) (hr : ∀ k, row = some k → k < a.heap.size → F k) : Kept F a c :=
  ⟨hg.os.trans h.os, hg.tape.trans h.tape, hg.output.trans h.output, Nat.le_trans h.size hg.size,
   fun i hi hf => (hg.block i (by have := h.size; omega) (fun e => hf (hr i e.symm hi))).trans (h.block i hi hf)⟩
theorem Kept.mono {F G : Nat → Prop} {a b : World} (h : Kept F a b) (hf : ∀ k, k < a.heap.size → F k → G k) : Kept G a b :=
  ⟨h.os, h.tape, h.output, h.size, fun k hk hg => h.block k hk (fun hk' => hg (hf k hk hk'))⟩

/-- The blocks of a memory behind a call: its own, and new ones. -/
def More (W : World) (F : Nat → Prop) : Nat → Prop := fun k => F k ∨ W.heap.size ≤ k


theorem bs_at {S : Me} {a : Int} (h1 : 1 ≤ a) (h2 : a ≤ S.bs.length) : S.bs[(a.toNat - 1)]? = some (S.at a) := by
  rw [List.getElem?_eq_getElem (by omega), at_get h1 h2]

theorem set_get {l : List Bk} {i k : Nat} {x b : Bk} (h : (l.set i x)[k]? = some b) : (k = i ∧ b = x ∧ i < l.length) ∨ (k ≠ i ∧ l[k]? = some b) := by
  rw [List.getElem?_set] at h
  by_cases e : i = k
  · subst e
    rw [if_pos rfl] at h
    split at h
    · rename_i hl; injection h with h; exact .inl ⟨rfl, h.symm, hl⟩
    · cases h
  · rw [if_neg e] at h
    exact .inr ⟨fun e' => e e'.symm, h⟩

/-- The words and the flags of one allocation are others, as many as before. -/
theorem MemAt.change {W W' : World} {g : Nat} {L : Lay} {F : Nat → Prop} {S : Me} {a : Int} {ws : List Wd} {st : List Bool} (h : MemAt W g L F S) (h1 : 1 ≤ a) (h2 : a ≤ S.bs.length)
    (hf : (S.at a).freed = false) (hw : ws.length = (S.at a).ws.length) (hs : st.length = (S.at a).st.length)
    (hI : W'.heap[L.I (a.toNat - 1)]? = some (.cells (wcells ws).toArray 23 (0, 0))) (hJ : W'.heap[L.J (a.toNat - 1)]? = some (.cells (bcells st).toArray 4 (0, 0)))
    (hm : ∀ k, F k → k < W.heap.size → k ≠ L.I (a.toNat - 1) → k ≠ L.J (a.toNat - 1) → W'.heap[k]? = W.heap[k]?) :
    MemAt W' g L F (S.setAt a ⟨ws, st, false⟩) := by
  have hb := bs_at h1 h2
  obtain ⟨fI, kI⟩ := h.wds _ _ hb hf
  obtain ⟨fJ, kJ⟩ := h.sts _ _ hb hf
  have hlen : (S.setAt a ⟨ws, st, false⟩).bs.length = S.bs.length := by simp [Me.setAt]
  refine ⟨?_, h.fg, fun hn => h.nil (by rw [← hlen]; exact hn), ?_, ?_, ?_, ?_⟩
  · rw [hlen, hm g h.fg (blk_lt h.hg) (blk_ne h.hg kI (by decide)) (blk_ne h.hg kJ (by decide))]
    exact h.hg
  · intro _
    obtain ⟨r1, r2, cur, r3, r4, r5, r6, r7⟩ := h.row (by omega)
    refine ⟨r1, r2, cur, (hm _ r2 (blk_lt r3) (blk_ne r3 kI (by decide)) (blk_ne r3 kJ (by decide))).trans r3, by omega, r5, r6, ?_⟩
    intro i b hi
    rcases set_get hi with ⟨rfl, rfl, _⟩ | ⟨_, hi⟩
    · have := r7 _ _ hb
      simpa [c0, c1, hw, hs, hf] using this
    · exact r7 _ _ hi
  · intro i b hi hbf
    rcases set_get hi with ⟨rfl, rfl, _⟩ | ⟨hne, hi⟩
    · exact ⟨fI, hI⟩
    · obtain ⟨q1, q2⟩ := h.wds i b hi hbf
      exact ⟨q1, (hm _ q1 (blk_lt q2) (h.apart i _ b _ hi hb hbf hf hne).1 (blk_ne q2 kJ (by decide))).trans q2⟩
  · intro i b hi hbf
    rcases set_get hi with ⟨rfl, rfl, _⟩ | ⟨hne, hi⟩
    · exact ⟨fJ, hJ⟩
    · obtain ⟨q1, q2⟩ := h.sts i b hi hbf
      exact ⟨q1, (hm _ q1 (blk_lt q2) (blk_ne q2 kI (by decide)) (h.apart i _ b _ hi hb hbf hf hne).2).trans q2⟩
  · intro i k b c hi hk hbf hcf hne
    have key : ∀ (j : Nat) (d : Bk), (S.setAt a ⟨ws, st, false⟩).bs[j]? = some d → d.freed = false → ∃ d', S.bs[j]? = some d' ∧ d'.freed = false := by
      intro j d hj hd
      rcases set_get hj with ⟨rfl, rfl, _⟩ | ⟨_, hj⟩
      · exact ⟨_, hb, hf⟩
      · exact ⟨_, hj, hd⟩
    obtain ⟨b', hb', hbf'⟩ := key i b hi hbf
    obtain ⟨c', hc', hcf'⟩ := key k c hk hcf
    exact h.apart i k b' c' hb' hc' hbf' hcf' hne

/-- An allocation is freed. -/
theorem MemAt.freed {W W' : World} {g : Nat} {L : Lay} {F : Nat → Prop} {S S' : Me} {a : Int} (h : MemAt W g L F S) (h1 : 1 ≤ a) (h2 : a ≤ S.bs.length) (hbs : S'.bs = S.bs.set (a.toNat - 1) Bk.none)
    (hg : W'.heap[g]? = some (.cells #[.int .i64 S'.room, .int .i64 S'.used, .int .i64 S'.live, .slice L.bo S.bs.length L.cap] 63 (0, 0)))
    (hrow : ∀ cur, W.heap[L.bb]? = some (.cells cur 65 (0, 0)) → W'.heap[L.bb]? = some (.cells (((cur.setIfInBounds ((a.toNat - 1) * 3) (.slice none 0 0)).setIfInBounds ((a.toNat - 1) * 3 + 1) (.slice none 0 0)).setIfInBounds ((a.toNat - 1) * 3 + 2) (.bool true)) 65 (0, 0)))
    (hm : ∀ k, F k → k < W.heap.size → k ≠ g → k ≠ L.bb → W'.heap[k]? = W.heap[k]?) : MemAt W' g L F S' := by
  have hlen : S'.bs.length = S.bs.length := by simp [hbs]
  obtain ⟨r1, r2, cur, r3, r4, r5, r6, r7⟩ := h.row (by omega)
  have key : ∀ (j : Nat) (d : Bk), S'.bs[j]? = some d → d.freed = false → S.bs[j]? = some d := by
    intro j d hj hd
    rw [hbs] at hj
    rcases set_get hj with ⟨rfl, rfl, _⟩ | ⟨_, hj⟩
    · simp [Bk.none] at hd
    · exact hj
  refine ⟨by rw [hlen]; exact hg, h.fg, fun hn => h.nil (by omega), ?_, ?_, ?_, ?_⟩
  · intro _
    refine ⟨r1, r2, _, hrow cur r3, by omega, r5, by simpa using r6, ?_⟩
    intro i b hi
    rw [hbs] at hi
    rcases set_get hi with ⟨rfl, rfl, hl⟩ | ⟨hne, hi⟩
    · simp [Array.getElem?_setIfInBounds, c0, c1, Bk.none]
      omega
    · have := r7 i b hi
      simp only [Array.getElem?_setIfInBounds]
      rw [if_neg (by omega), if_neg (by omega), if_neg (by omega), if_neg (by omega), if_neg (by omega), if_neg (by omega), if_neg (by omega), if_neg (by omega), if_neg (by omega)]
      exact this
  · intro i b hi hbf
    obtain ⟨q1, q2⟩ := h.wds i b (key i b hi hbf) hbf
    exact ⟨q1, (hm _ q1 (blk_lt q2) (blk_ne q2 h.hg (by decide)) (blk_ne q2 r3 (by decide))).trans q2⟩
  · intro i b hi hbf
    obtain ⟨q1, q2⟩ := h.sts i b (key i b hi hbf) hbf
    exact ⟨q1, (hm _ q1 (blk_lt q2) (blk_ne q2 h.hg (by decide)) (blk_ne q2 r3 (by decide))).trans q2⟩
  · intro i k b c hi hk hbf hcf hne
    exact h.apart i k b c (key i b hi hbf) (key k c hk hcf) hbf hcf hne

/-- The cells of the row of allocations. -/
def rowCells (bs : List Bk) (I J : Nat → Nat) : List Value :=
  (List.range bs.length).flatMap fun i => [c0 (bs.getD i Bk.none) (I i), c1 (bs.getD i Bk.none) (J i), .bool (bs.getD i Bk.none).freed]

theorem flat3_length (f : Nat → Value × Value × Value) (n : Nat) : ((List.range n).flatMap fun i => [(f i).1, (f i).2.1, (f i).2.2]).length = n * 3 := by
  induction n with
  | zero => rfl
  | succ n ih => rw [List.range_succ, List.flatMap_append, List.length_append, ih]; simp; omega

theorem flat3_at (f : Nat → Value × Value × Value) (n i : Nat) (h : i < n) :
    ((List.range n).flatMap fun i => [(f i).1, (f i).2.1, (f i).2.2])[i * 3]? = some (f i).1 ∧ ((List.range n).flatMap fun i => [(f i).1, (f i).2.1, (f i).2.2])[i * 3 + 1]? = some (f i).2.1 ∧
      ((List.range n).flatMap fun i => [(f i).1, (f i).2.1, (f i).2.2])[i * 3 + 2]? = some (f i).2.2 := by
  induction n with
  | zero => omega
  | succ n ih =>
    rw [List.range_succ, List.flatMap_append]
    have hl := flat3_length f n
    by_cases e : i = n
    · subst e
      rw [List.getElem?_append_right (by omega), List.getElem?_append_right (by omega), List.getElem?_append_right (by omega), hl]
      simp [show i * 3 + 1 - i * 3 = 1 from by omega, show i * 3 + 2 - i * 3 = 2 from by omega]
    · rw [List.getElem?_append_left (by omega), List.getElem?_append_left (by omega), List.getElem?_append_left (by omega)]
      exact ih (by omega)

theorem rowCells_length (bs : List Bk) (I J : Nat → Nat) : (rowCells bs I J).length = bs.length * 3 :=
  flat3_length (fun i => (c0 (bs.getD i Bk.none) (I i), c1 (bs.getD i Bk.none) (J i), .bool (bs.getD i Bk.none).freed)) bs.length

theorem rowCells_at (bs : List Bk) (I J : Nat → Nat) (i : Nat) (b : Bk) (h : bs[i]? = some b) :
    (rowCells bs I J)[i * 3]? = some (c0 b (I i)) ∧ (rowCells bs I J)[i * 3 + 1]? = some (c1 b (J i)) ∧ (rowCells bs I J)[i * 3 + 2]? = some (.bool b.freed) := by
  have hi : i < bs.length := (List.getElem?_eq_some_iff.1 h).1
  have := flat3_at (fun i => (c0 (bs.getD i Bk.none) (I i), c1 (bs.getD i Bk.none) (J i), .bool (bs.getD i Bk.none).freed)) bs.length i hi
  have e : bs.getD i Bk.none = b := by rw [List.getD_eq_getElem?_getD, h]; rfl
  simp only [e] at this
  exact this

theorem ext3 {l m : List Value} {n : Nat} (hl : l.length = n * 3) (hm : m.length = n * 3)
    (h : ∀ i, i < n → l[i * 3]? = m[i * 3]? ∧ l[i * 3 + 1]? = m[i * 3 + 1]? ∧ l[i * 3 + 2]? = m[i * 3 + 2]?) : l = m := by
  apply List.ext_getElem?
  intro j
  by_cases hj : j < n * 3
  · obtain ⟨q1, q2, q3⟩ := h (j / 3) (by omega)
    have hj3 : j = j / 3 * 3 ∨ j = j / 3 * 3 + 1 ∨ j = j / 3 * 3 + 2 := by omega
    rcases hj3 with e | e | e
    · rw [e]; exact q1
    · rw [e]; exact q2
    · rw [e]; exact q3
  · rw [List.getElem?_eq_none (by omega), List.getElem?_eq_none (by omega)]

/-- The row of allocations is owned, as the law on append asks. -/
theorem MemAt.own {W : World} {g : Nat} {L : Lay} {F : Nat → Prop} {S : Me} (h : MemAt W g L F S) :
    W.ownsRow 0 65 3 (.slice L.bo S.bs.length L.cap) S.bs.length (rowCells S.bs L.I L.J) := by
  refine ⟨rowCells_length _ _ _, ?_⟩
  by_cases hn : S.bs.length = 0
  · obtain ⟨e1, e2⟩ := h.nil hn
    exact .inl ⟨by rw [e1, e2, hn], hn⟩
  · obtain ⟨r1, r2, cur, r3, r4, r5, r6, r7⟩ := h.row (by omega)
    refine .inr ⟨L.bb, L.cap, cur, by rw [r1], Nat.zero_le _, r3, r4, r5, r6, ?_⟩
    refine ext3 (n := S.bs.length) (by simp; omega) (rowCells_length _ _ _) ?_
    intro i hi
    have hb : S.bs[i]? = some S.bs[i] := List.getElem?_eq_getElem hi
    have q := r7 i _ hb
    have q' := rowCells_at S.bs L.I L.J i _ hb
    rw [List.getElem?_take_of_lt (by omega), List.getElem?_take_of_lt (by omega), List.getElem?_take_of_lt (by omega)]
    simp only [Array.getElem?_toList]
    exact ⟨q.1.trans q'.1.symm, q.2.1.trans q'.2.1.symm, q.2.2.trans q'.2.2.symm⟩

/-- A new allocation, behind all others. -/
theorem MemAt.alloc {W W' : World} {g gw gs : Nat} {L : Lay} {F : Nat → Prop} {S S' : Me} {b : Bk} {v : Value} (h : MemAt W g L F S) (hbs : S'.bs = S.bs ++ [b]) (hbf : b.freed = false) (hsame : b.ws.length = b.st.length)
    (hown : W'.ownsRow 0 65 3 v (S.bs.length + 1) (rowCells S.bs L.I L.J ++ [.slice (some ⟨gw, 0, none⟩) b.ws.length b.ws.length, .slice (some ⟨gs, 0, none⟩) b.ws.length b.ws.length, .bool false]))
    (hat : v.ownBlock = (Value.slice L.bo S.bs.length L.cap).ownBlock ∨ ∃ k, v.ownBlock = some k ∧ W.heap.size ≤ k)
    (hg : W'.heap[g]? = some (.cells #[.int .i64 S'.room, .int .i64 S'.used, .int .i64 S'.live, v] 63 (0, 0)))
    (hgw : W.heap.size ≤ gw) (hgs : W.heap.size ≤ gs) (hW : W'.heap[gw]? = some (.cells (wcells b.ws).toArray 23 (0, 0))) (hJ : W'.heap[gs]? = some (.cells (bcells b.st).toArray 4 (0, 0)))
    (hm : ∀ k, F k → k < W.heap.size → k ≠ g → some k ≠ (Value.slice L.bo S.bs.length L.cap).ownBlock → W'.heap[k]? = W.heap[k]?) :
    ∃ L', MemAt W' g L' (More W F) S' ∧ v = .slice L'.bo S'.bs.length L'.cap := by
  have hlen : S'.bs.length = S.bs.length + 1 := by simp [hbs]
  obtain ⟨ho, hr⟩ := hown
  rcases hr with ⟨_, h0⟩ | ⟨gb, cap, cur, rfl, _, hh, hnc, hcm, hcs, htake⟩
  · omega
  have hold : ∀ i c, S.bs[i]? = some c → i < S.bs.length := fun i c hc => (List.getElem?_eq_some_iff.1 hc).1
  have hne65 : ∀ {k : Nat} {t : TypeId} {cs : Array Value}, W.heap[k]? = some (.cells cs t (0, 0)) → t ≠ 65 → some k ≠ (Value.slice L.bo S.bs.length L.cap).ownBlock := by
    intro k t cs hk ht
    by_cases hn : S.bs.length = 0
    · rw [(h.nil hn).1]; simp [Value.ownBlock]
    · obtain ⟨r1, r2, cur', r3, _⟩ := h.row (by omega)
      rw [r1]
      intro e
      simp [Value.ownBlock] at e
      subst e
      exact blk_ne hk r3 ht rfl
  have hFb : More W F gb := by
    rcases hat with e | ⟨k, e, hk⟩
    · by_cases hn : S.bs.length = 0
      · rw [(h.nil hn).1] at e; simp [Value.ownBlock] at e
      · obtain ⟨r1, r2, _⟩ := h.row (by omega)
        rw [r1] at e
        simp [Value.ownBlock] at e
        exact .inl (e ▸ r2)
    · simp [Value.ownBlock] at e
      exact .inr (e ▸ hk)
  refine ⟨⟨some ⟨gb, 0, none⟩, gb, cap, fun i => if i = S.bs.length then gw else L.I i, fun i => if i = S.bs.length then gs else L.J i⟩, ⟨?_, .inl h.fg, ?_, ?_, ?_, ?_, ?_⟩, by simp [hlen]⟩
  · rw [hlen]; exact hg
  · intro hn; omega
  · intro _
    refine ⟨rfl, hFb, cur, hh, by rw [hlen]; exact hnc, hcm, hcs, ?_⟩
    intro i c hi
    have hcur : ∀ j, j < (S.bs.length + 1) * 3 → cur[j]? = (rowCells S.bs L.I L.J ++ [.slice (some ⟨gw, 0, none⟩) b.ws.length b.ws.length, .slice (some ⟨gs, 0, none⟩) b.ws.length b.ws.length, .bool false])[j]? := by
      intro j hj
      rw [← htake, List.getElem?_take_of_lt hj, Array.getElem?_toList]
    have hrl := rowCells_length S.bs L.I L.J
    rw [hbs] at hi
    by_cases e : i = S.bs.length
    · subst e
      rw [List.getElem?_append_right (Nat.le_refl _)] at hi
      simp at hi
      subst hi
      rw [hcur _ (by omega), hcur _ (by omega), hcur _ (by omega), List.getElem?_append_right (by omega), List.getElem?_append_right (by omega), List.getElem?_append_right (by omega), hrl]
      simp [show S.bs.length * 3 + 1 - S.bs.length * 3 = 1 from by omega, show S.bs.length * 3 + 2 - S.bs.length * 3 = 2 from by omega, c0, c1, hbf, hsame]
    · have hil : i < S.bs.length := by
        have := (List.getElem?_eq_some_iff.1 hi).1
        simp at this
        omega
      rw [List.getElem?_append_left hil] at hi
      have q := rowCells_at S.bs L.I L.J i c hi
      rw [hcur _ (by omega), hcur _ (by omega), hcur _ (by omega), List.getElem?_append_left (by omega), List.getElem?_append_left (by omega), List.getElem?_append_left (by omega)]
      simpa [e] using q
  · intro i c hi hcf
    rw [hbs] at hi
    by_cases e : i = S.bs.length
    · subst e
      rw [List.getElem?_append_right (Nat.le_refl _)] at hi
      simp at hi
      subst hi
      simp only [if_true]
      exact ⟨.inr hgw, hW⟩
    · have hil : i < S.bs.length := by
        have := (List.getElem?_eq_some_iff.1 hi).1
        simp at this
        omega
      rw [List.getElem?_append_left hil] at hi
      obtain ⟨q1, q2⟩ := h.wds i c hi hcf
      simp only [if_neg e]
      exact ⟨.inl q1, (hm _ q1 (blk_lt q2) (blk_ne q2 h.hg (by decide)) (hne65 q2 (by decide))).trans q2⟩
  · intro i c hi hcf
    rw [hbs] at hi
    by_cases e : i = S.bs.length
    · subst e
      rw [List.getElem?_append_right (Nat.le_refl _)] at hi
      simp at hi
      subst hi
      simp only [if_true]
      exact ⟨.inr hgs, hJ⟩
    · have hil : i < S.bs.length := by
        have := (List.getElem?_eq_some_iff.1 hi).1
        simp at this
        omega
      rw [List.getElem?_append_left hil] at hi
      obtain ⟨q1, q2⟩ := h.sts i c hi hcf
      simp only [if_neg e]
      exact ⟨.inl q1, (hm _ q1 (blk_lt q2) (blk_ne q2 h.hg (by decide)) (hne65 q2 (by decide))).trans q2⟩
  · intro i k c d hi hk hcf hdf hne
    have hin : ∀ j e, S'.bs[j]? = some e → j ≠ S.bs.length → S.bs[j]? = some e := by
      intro j e hj hj'
      rw [hbs] at hj
      have := (List.getElem?_eq_some_iff.1 hj).1
      simp at this
      rw [List.getElem?_append_left (by omega)] at hj
      exact hj
    dsimp only
    by_cases e1 : i = S.bs.length
    · have hk' := hin k d hk (by omega)
      have q1 := blk_lt (h.wds k d hk' hdf).2
      have q2 := blk_lt (h.sts k d hk' hdf).2
      rw [if_pos e1, if_pos e1, if_neg (by omega), if_neg (by omega)]
      exact ⟨by omega, by omega⟩
    · have hi' := hin i c hi e1
      by_cases e2 : k = S.bs.length
      · have q1 := blk_lt (h.wds i c hi' hcf).2
        have q2 := blk_lt (h.sts i c hi' hcf).2
        rw [if_neg e1, if_neg e1, if_pos e2, if_pos e2]
        exact ⟨by omega, by omega⟩
      · rw [if_neg e1, if_neg e1, if_neg e2, if_neg e2]
        exact h.apart i k c d hi' (hin k d hk e2) hcf hdf hne

end Go.Proofs.Ytkgiddpeaebdfaa
