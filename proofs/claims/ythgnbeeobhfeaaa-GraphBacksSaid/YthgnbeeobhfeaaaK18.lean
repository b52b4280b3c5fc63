/- Texts of this claim in one file: H45, H46. -/
import Derived.Test.YthgnbeeobhfeaaaK15
import Derived.Test.YthgnbeeobhfeaaaK17
set_option linter.all false
section
/- Walks: rows of rows that are written, and read: what the document's flow holds. -/
namespace Go.Proofs.Ythgnbeeobhfeaaa.T
open Go.RowKit Go.Shelf Go.Proofs.YthgnbeeobhfeaaaW.PrintWords Go.Proofs.YthgnbeeobhfeaaaW.PrintLast

theorem drawn_ex2 {P : Program} {f : FuncId} {args : Array Value} {W : World} {v : Value} (h : Calls P f args W fun e w' => e = .returned v ∧ Drawn0 W w') : Calls P f args W fun e w' => e = .returned v ∧ ∃ m, w' = W.drewN m :=
  h.mono fun _ _ ⟨he, hd⟩ => ⟨he, by obtain ⟨n, rfl⟩ := hd; exact ⟨n, rfl⟩⟩
/-- A row of m rows of flags, at block g; the rows lie behind B. -/
structure Rows (W : World) (g B m : Nat) (vs : List Value) (f : Nat → List Bool) : Prop where
  blk : BoxIs W g vs.toArray 26
  len : vs.length = m
  row : ∀ i u, vs[i]? = some u → OB W B u (f i)
section
variable {W W' : World} {g g' B m i : Nat} {vs : List Value} {f : Nat → List Bool} {u : Value} {ys : List Bool}
theorem Rows.below (h : Rows W g B m vs f) (hb : Below W.heap.size W W') : Rows W' g B m vs f := ⟨h.blk.below hb h.blk.lt, h.len, fun i u hu => pw_own_below (h.row i u hu) hb⟩
theorem Rows.cell (h : Rows W g B m vs f) (hu : vs[i]? = some u) : W.cell? ⟨g, i, none⟩ = some u := h.blk.cell i u (by simpa using hu)
theorem Rows.frozen (h : Rows W g B m vs f) : W.frozen? ⟨g, i, none⟩ = false := frozen_box h.blk i
theorem Rows.get (h : Rows W g B m vs f) (hi : i < m) : ∃ u, vs[i]? = some u ∧ OB W B u (f i) := by
  obtain ⟨u, hu⟩ : ∃ u, vs[i]? = some u := ⟨_, List.getElem?_eq_getElem (by have := h.len; omega)⟩
  exact ⟨u, hu, h.row i u hu⟩
theorem OB.far {v : Value} {xs : List Bool} (h : OB W B v xs) (hg : g < B) (u : Value) : OB (W.setCell ⟨g, i, none⟩ u) B v xs :=
  own_move h (fun k hk => Below.heap_setCell W ⟨g, i, none⟩ u k (by have := own_base h k hk; simp only; omega))
theorem Rows.far (h : Rows W g B m vs f) (hne : g' ≠ g) (hg : g' < B) (u : Value) : Rows (W.setCell ⟨g', i, none⟩ u) g B m vs f :=
  ⟨(Below.heap_setCell W ⟨g', i, none⟩ u g (fun e => hne e.symm)).trans h.blk, h.len, fun j v hv => (h.row j v hv).far hg u⟩
theorem Rows.set (h : Rows W g B m vs f) (hg : g < B) (hu : OB W B u ys) : Rows (W.setCell ⟨g, i, none⟩ u) g B m (vs.set i u) (upd f i ys) := by
  refine ⟨?_, by rw [List.length_set]; exact h.len, fun j v hv => ?_⟩
  · have h1 := set_block (j := i) h.blk u
    unfold BoxIs
    rw [h1]
    simp
  · unfold upd
    by_cases e : j = i
    · subst e
      rw [if_pos rfl]
      have hlt : j < vs.length := by
        have := (List.getElem?_eq_some_iff.1 hv).1
        rwa [List.length_set] at this
      rw [List.getElem?_set_self hlt] at hv
      obtain rfl := Option.some.inj hv
      exact hu.far hg _
    · rw [if_neg e]
      rw [List.getElem?_set_ne (fun q => e q.symm)] at hv
      exact (h.row j v hv).far hg u
end
theorem Rows.start (W : World) (m : Nat) (B : Nat) : Rows (W.alloc (.cells (madeCells #[.slice none 0 0] m) 26)) W.heap.size B m (List.replicate m (.slice none 0 0)) (fun _ => []) := by
  refine ⟨?_, by simp, fun i u hu => ?_⟩
  · have h := heap_alloc_new W (.cells (madeCells #[.slice none 0 0] m) 26)
    unfold BoxIs
    rw [h]
    congr 2
    refine Array.ext (by simp [madeCells]) (fun i h1 h2 => by simp [madeCells, Nat.mod_one])
  · have := List.mem_of_getElem? hu
    rw [List.mem_replicate] at this
    rw [this.2]
    exact own_nil _ _ _ _

/-- What a world of the document's flow holds. -/
structure FS (Wq W : World) (m : Nat) (va vo : List Value) (a o : Nat → List Bool) : Prop where
  low : Below Wq.heap.size Wq W
  big : Wq.heap.size + 2 ≤ W.heap.size
  at_ : Rows W Wq.heap.size (Wq.heap.size + 2) m va a
  out : Rows W (Wq.heap.size + 1) (Wq.heap.size + 2) m vo o
section
variable {Wq W W' : World} {m i : Nat} {va vo : List Value} {a o : Nat → List Bool} {u : Value} {ys : List Bool}
theorem FS.below (h : FS Wq W m va vo a o) (hb : Below W.heap.size W W') : FS Wq W' m va vo a o := ⟨below_then h.low h.low.size hb, Nat.le_trans h.big hb.size, h.at_.below hb, h.out.below hb⟩
theorem below_set {w W : World} {B g j : Nat} (h : Below B w W) (hg : B ≤ g) (u : Value) : Below B w (W.setCell ⟨g, j, none⟩ u) := h.setCell (by simpa using hg) u
theorem FS.setO (h : FS Wq W m va vo a o) (hu : OB W (Wq.heap.size + 2) u ys) : FS Wq (W.setCell ⟨Wq.heap.size + 1, i, none⟩ u) m va (vo.set i u) a (upd o i ys) :=
  ⟨below_set h.low (by omega) u, by rw [World.size_setCell]; exact h.big, h.at_.far (by omega) (by omega) u, h.out.set (by omega) hu⟩
theorem FS.start (Wq : World) (m : Nat) : FS Wq ((Wq.alloc (.cells (madeCells #[.slice none 0 0] m) 26)).alloc (.cells (madeCells #[.slice none 0 0] m) 26)) m (List.replicate m (.slice none 0 0)) (List.replicate m (.slice none 0 0)) (fun _ => []) (fun _ => []) := by
  refine ⟨below_alloc (below_alloc (Below.refl _ _) _) _, by simp, (Rows.start Wq m _).below (below_alloc (Below.refl _ _) _), ?_⟩
  have h := Rows.start (Wq.alloc (.cells (madeCells #[.slice none 0 0] m) 26)) m (Wq.heap.size + 2)
  rwa [World.size_alloc] at h
end
theorem Rows.congr {W : World} {g B m : Nat} {vs : List Value} {f f' : Nat → List Bool} (h : Rows W g B m vs f) (hf : ∀ i, i < m → f i = f' i) : Rows W g B m vs f' :=
  ⟨h.blk, h.len, fun i u hu => by
    rw [← hf i (by have := (List.getElem?_eq_some_iff.1 hu).1; have := h.len; omega)]
    exact h.row i u hu⟩
theorem FS.congr {Wq W : World} {m : Nat} {va vo : List Value} {a o a' o' : Nat → List Bool} (h : FS Wq W m va vo a o) (ha : ∀ i, i < m → a i = a' i) (ho : ∀ i, i < m → o i = o' i) : FS Wq W m va vo a' o' := ⟨h.low, h.big, h.at_.congr ha, h.out.congr ho⟩
/-- A row of rows of flags, behind block g; no row is that block. -/
def Q2 (W : World) (g : Nat) (u : Value) (vs : List Value) (xss : List (List Bool)) : Prop :=
  W.ownsRow (g + 1) 26 1 u vs.length vs ∧ vs.length = xss.length ∧ ∀ (k : Nat) (v : Value) (x : List Bool), vs[k]? = some v → xss[k]? = some x → OB W 0 v x ∧ ∀ b, v.ownBlock = some b → b ≠ g
theorem Q2.nil (W : World) (g : Nat) : Q2 W g (.slice none 0 0) [] [] := ⟨own_nil _ _ _ _, rfl, fun k v x h => by simp at h⟩
theorem Q2.keep {W W' : World} {g : Nat} {u : Value} {vs : List Value} {xss : List (List Bool)} (h : Q2 W g u vs xss) (hk : KeepBut W W' g none) : Q2 W' g u vs xss :=
  ⟨own_move h.1 (fun k e => hk.2 k (own_lt h.1 k e) (by have := own_base h.1 k e; omega) (by simp)), h.2.1, fun k v x h1 h2 => by
    obtain ⟨h3, h4⟩ := h.2.2 k v x h1 h2
    exact ⟨own_move h3 (fun b e => hk.2 b (own_lt h3 b e) (h4 b e) (by simp)), h4⟩⟩
/-- In a round: the row at i grows. -/
structure QI (Wi W : World) (g i : Nat) (us : List Value) (uu : Value) (vs : List Value) (xss : List (List Bool)) : Prop where
  keep : KeepBut Wi W g none
  box : BoxIs W g (us.set i uu).toArray 44
  q : Q2 W g uu vs xss
  new : ∀ b, uu.ownBlock = some b → Wi.heap.size ≤ b
theorem QI.below {Wi W W' : World} {g i : Nat} {us : List Value} {uu : Value} {vs : List Value} {xss : List (List Bool)} (h : QI Wi W g i us uu vs xss) (hb : Below W.heap.size W W') : QI Wi W' g i us uu vs xss :=
  ⟨h.keep.trans (KeepBut.of_below hb g none) (.inl rfl), h.box.below hb h.box.lt, h.q.keep (KeepBut.of_below hb g none), h.new⟩
theorem QI.append {Wi W W5 : World} {g i : Nat} {us : List Value} {uu v v5 : Value} {vs : List Value} {xss : List (List Bool)} {x : List Bool} (h : QI Wi W g i us uu vs xss) (hx : OB W 0 v x) (hxg : ∀ b, v.ownBlock = some b → b ≠ g)
    (ho : W5.ownsRow (g + 1) 26 1 v5 (vs ++ [v]).length (vs ++ [v])) (hb : Below (g + 1) W W5) (hg : W.grownBy W5 uu.ownBlock) (hat : v5.ownBlock = uu.ownBlock ∨ ∃ b, v5.ownBlock = some b ∧ W.heap.size ≤ b) :
    QI Wi (W5.setCell ⟨g, i, none⟩ v5) g i us v5 (vs ++ [v]) (xss ++ [x]) := by
  have hmove : ∀ (v : Value) (x : List Bool), OB W 0 v x → (∀ b, v.ownBlock = some b → b ≠ g) → OB (W5.setCell ⟨g, i, none⟩ v5) 0 v x := fun v x h1 h2 => by
    have h3 : OB W5 0 v x := own_other h1 hg (own_type_ne h1 h.q.1 (by decide))
    exact own_move h3 (fun k e => Below.heap_setCell W5 ⟨g, i, none⟩ v5 k (h2 k e))
  have hsz : Wi.heap.size ≤ W.heap.size := h.keep.1
  refine ⟨⟨by rw [World.size_setCell]; exact Nat.le_trans hsz hg.size, fun j hj hne _ => ?_⟩, ?_, ⟨own_move ho (fun k e => Below.heap_setCell W5 ⟨g, i, none⟩ v5 k (by have := own_base ho k e; simp only; omega)), by simp [h.q.2.1], fun k v' x' h1 h2 => ?_⟩, fun b e => ?_⟩
  · rw [Below.heap_setCell W5 ⟨g, i, none⟩ v5 j hne, hg.block j (by omega) (fun e => by have := h.new j e.symm; omega)]
    exact h.keep.2 j hj hne (by simp)
  · have h1 : W5.heap[g]? = some (.cells (us.set i uu).toArray 44 (0, 0)) := (hb.block g (by omega)).trans h.box
    have h2 := set_block (j := i) h1 v5
    unfold BoxIs
    rw [h2]
    simp
  · by_cases hk : k < vs.length
    · rw [List.getElem?_append_left hk] at h1
      rw [List.getElem?_append_left (by rw [← h.q.2.1]; exact hk)] at h2
      obtain ⟨h3, h4⟩ := h.q.2.2 k v' x' h1 h2
      exact ⟨hmove v' x' h3 h4, h4⟩
    · have hke : k = vs.length := by
        have := (List.getElem?_eq_some_iff.1 h1).1
        simp at this
        omega
      subst hke
      rw [List.getElem?_append_right (Nat.le_refl _), Nat.sub_self] at h1
      rw [h.q.2.1, List.getElem?_append_right (Nat.le_refl _), Nat.sub_self] at h2
      simp only [List.getElem?_cons_zero, Option.some.injEq] at h1 h2
      subst h1 h2
      exact ⟨hmove v x hx hxg, hxg⟩
  · rcases hat with e1 | ⟨b', e1, h2⟩
    · exact h.new b (e1 ▸ e)
    · rw [e] at e1
      injection e1 with e1
      omega
theorem QI.moved {Wi W W5 : World} {g i : Nat} {us : List Value} {uu v : Value} {vs : List Value} {xss : List (List Bool)} {x : List Bool} (h : QI Wi W g i us uu vs xss) (hx : OB W 0 v x) (hxg : ∀ b, v.ownBlock = some b → b ≠ g) (hg : W.grownBy W5 uu.ownBlock) (v5 : Value) : OB (W5.setCell ⟨g, i, none⟩ v5) 0 v x :=
  own_move (own_other hx hg (own_type_ne hx h.q.1 (by decide))) (fun k e => Below.heap_setCell W5 ⟨g, i, none⟩ v5 k (hxg k e))
theorem QI.cell {Wi W : World} {g i : Nat} {us : List Value} {uu : Value} {vs : List Value} {xss : List (List Bool)} (h : QI Wi W g i us uu vs xss) (hi : i < us.length) : W.cell? ⟨g, i, none⟩ = some uu := h.box.cell i uu (by simp [hi])
theorem QI.after {Wi W W5 : World} {g i : Nat} {us : List Value} {uu : Value} {vs : List Value} {xss : List (List Bool)} (h : QI Wi W g i us uu vs xss) (hi : i < us.length) (hb : Below (g + 1) W W5) : W5.cell? ⟨g, i, none⟩ = some uu ∧ W5.frozen? ⟨g, i, none⟩ = false := by
  have h1 : BoxIs W5 g (us.set i uu).toArray 44 := (hb.block g (by omega)).trans h.box
  exact ⟨h1.cell i uu (by simp [hi]), frozen_box h1 i⟩
theorem statesL_snoc (cs : List Ch) (b : Int) : ∀ (r k : Nat) (x : List Bool), statesL cs b k (r + 1) x = statesL cs b k r x ++ [runL cs b k (r + 1) x]
  | 0, k, x => rfl
  | r + 1, k, x => by
    rw [statesL, statesL_snoc cs b r (k + 1), statesL, List.cons_append]
    rfl
end Go.Proofs.Ythgnbeeobhfeaaa.T
end

section
/- Walks: what holds (the document's). -/
namespace Go.Proofs.Ythgnbeeobhfeaaa.T
open Go.RowKit Go.Shelf Go.Proofs.YthgnbeeobhfeaaaW.PrintWords Go.Proofs.YthgnbeeobhfeaaaW.PrintLast
attribute [local go_sem] Oper.semAt_some

/-- A row of rows of rows of flags. -/
def R3 (W : World) (g : Nat) (us : List Value) (xsss : List (List (List Bool))) : Prop :=
  BoxIs W g us.toArray 44 ∧ us.length = xsss.length ∧ ∀ (t : Nat) (u : Value) (xss : List (List Bool)), us[t]? = some u → xsss[t]? = some xss → ∃ vs, Q2 W g u vs xss
theorem runL_snoc (cs : List Ch) (b : Int) : ∀ (r k : Nat) (x : List Bool), runL cs b k (r + 1) x = stepL cs b ((k + r : Nat) : Int) (runL cs b k r x)
  | 0, k, x => rfl
  | r + 1, k, x => by
    rw [runL, runL_snoc cs b r (k + 1), runL, show k + 1 + r = k + (r + 1) by omega]

end Go.Proofs.Ythgnbeeobhfeaaa.T
end
