/- Texts of this claim in one file: H45, H46. -/
import Derived.Test.YthgnbeeobhfeaaaK15
import Derived.Test.YthgnbeeobhfeaaaK17
set_option linter.all false
section
/- Walks: rows of rows that are written, and read: what the document's flow holds. -/
namespace Go.Proofs.Ythgnbeeobhfeaaa.T
open Go.RowKit Go.Shelf Go.Proofs.YthgnbeeobhfeaaaW.PrintWords Go.Proofs.YthgnbeeobhfeaaaW.PrintLast

theorem drawn_ex2 {P : Program} {f : FuncId} {args : Array Value} {W : World} {v : Value} (h : Calls P f args W fun e w' => e = .returned v ∧ Drawn0 W w') : Calls P f args W fun e w' => e = .returned v ∧ ∃ m, w' = W.drewN m :=
  h.mono fun _ _ ⟨he, hd⟩ => ⟨he, by obtain ⟨n, rfl⟩ := hd; exact ⟨n, rfl⟩⟩
/-- A row of m rows of flags, at block g; the rows lie behind B. -/
structure Rows (W : World) (g B m : Nat) (vs : List Value) (f : Nat → List Bool) : Prop where
  blk : BoxIs W g vs.toArray 26
  len : vs.length = m
  row : ∀ i u, vs[i]? = some u → OB W B u (f i)
section
variable {W W' : World} {g g' B m i : Nat} {vs : List Value} {f : Nat → List Bool} {u : Value} {ys : List Bool}
theorem Rows.below (h : Rows W g B m vs f) (hb : Below W.heap.size W W') : Rows W' g B m vs f := ⟨h.blk.below hb h.blk.lt, h.len, fun i u hu => pw_own_below (h.row i u hu) hb⟩
theorem Rows.cell (h : Rows W g B m vs f) (hu : vs[i]? = some u) : W.cell? ⟨g, i, none⟩ = some u := h.blk.cell i u (by simpa using hu)
theorem Rows.frozen (h : Rows W g B m vs f) : W.frozen? ⟨g, i, none⟩ = false := frozen_box h.blk i
theorem Rows.get (h : Rows W g B m vs f) (hi : i < m) : ∃ u, vs[i]? = some u ∧ OB W B u (f i) := by
  obtain ⟨u, hu⟩ : ∃ u, vs[i]? = some u := ⟨_, List.getElem?_eq_getElem (by have := h.len; omega)⟩
  exact ⟨u, hu, h.row i u hu⟩
theorem OB.far {v : Value} {xs : List Bool} (h : OB W B v xs) (hg : g < B) (u : Value) : OB (W.setCell ⟨g, i, none⟩ u) B v xs :=
  own_move h (fun k hk => Below.heap_setCell W ⟨g, i, none⟩ u k (by have := own_base h k hk; simp only; omega))
theorem Rows.far (h : Rows W g B m vs f) (hne : g' ≠ g) (hg : g' < B) (u : Value) : Rows (W.setCell ⟨g', i, none⟩ u) g B m vs f :=
  ⟨(Below.heap_setCell W ⟨g', i, none⟩ u g (fun e => hne e.symm)).trans h.blk, h.len, fun j v hv => (h.row j v hv).far hg u⟩
theorem Rows.set (h : Rows W g B m vs f) (hg : g < B) (hu : OB W B u ys) : Rows (W.setCell ⟨g, i, none⟩ u) g B m (vs.set i u) (upd f i ys) := by
  refine ⟨?_, by rw [List.length_set]; exact h.len, fun j v hv => ?_⟩
  · have h1 := set_block (j := i) h.blk u
    unfold BoxIs
    rw [h1]
    simp
  · unfold upd
    by_cases e : j = i
    · subst e
      rw [if_pos rfl]
      have hlt : j < vs.length := by
        have := (List.getElem?_eq_some_iff.1 hv).1
        rwa [List.length_set] at this
      rw [List.getElem?_set_self hlt] at hv
      obtain rfl := Option.some.inj hv
      exact hu.far hg _
    · rw [if_neg e]
      rw [List.getElem?_set_ne (fun q => e q.symm)] at hv
      exact (h.row j v hv).far hg u
end
theorem Rows.start (W : World) (m : Nat) (B : Nat) : Rows (W.alloc (.cells (madeCells #[.slice none 0 0] m) 26)) W.heap.size B m (List.replicate m (.slice none 0 0)) (fun _ => []) := by
  refine ⟨?_, by simp, fun i u hu => ?_⟩
  · have h := heap_alloc_new W (.cells (madeCells #[.slice none 0 0] m) 26)
    unfold BoxIs
    rw [h]
    congr 2
    refine Array.ext (by simp [madeCells]) (fun i h1 h2 => by simp [madeCells, Nat.mod_one])
  · have := List.mem_of_getElem? hu
    rw [List.mem_replicate] at this
    rw [this.2]
    exact own_nil _ _ _ _

theorem own_weaken' {W : World} {B B' : Nat} {v : Value} {xs : List Bool} (h : OB W B' v xs) (hB : B ≤ B') : OB W B v xs := own_weaken h hB
/-- What a world of the document's flow holds. -/
structure FS (Wq W : World) (m : Nat) (va vo : List Value) (a o : Nat → List Bool) : Prop where
  low : Below Wq.heap.size Wq W
  big : Wq.heap.size + 2 ≤ W.heap.size
  at_ : Rows W Wq.heap.size (Wq.heap.size + 2) m va a
  out : Rows W (Wq.heap.size + 1) (Wq.heap.size + 2) m vo o
section
variable {Wq W W' : World} {m i : Nat} {va vo : List Value} {a o : Nat → List Bool} {u : Value} {ys : List Bool}
theorem FS.below (h : FS Wq W m va vo a o) (hb : Below W.heap.size W W') : FS Wq W' m va vo a o := ⟨below_then h.low h.low.size hb, Nat.le_trans h.big hb.size, h.at_.below hb, h.out.below hb⟩
theorem below_set {w W : World} {B g j : Nat} (h : Below B w W) (hg : B ≤ g) (u : Value) : Below B w (W.setCell ⟨g, j, none⟩ u) := h.setCell (by simpa using hg) u
theorem FS.setA (h : FS Wq W m va vo a o) (hu : OB W (Wq.heap.size + 2) u ys) : FS Wq (W.setCell ⟨Wq.heap.size, i, none⟩ u) m (va.set i u) vo (upd a i ys) o :=
  ⟨below_set h.low (Nat.le_refl _) u, by rw [World.size_setCell]; exact h.big, h.at_.set (by omega) hu, h.out.far (by omega) (by omega) u⟩
theorem FS.setO (h : FS Wq W m va vo a o) (hu : OB W (Wq.heap.size + 2) u ys) : FS Wq (W.setCell ⟨Wq.heap.size + 1, i, none⟩ u) m va (vo.set i u) a (upd o i ys) :=
  ⟨below_set h.low (by omega) u, by rw [World.size_setCell]; exact h.big, h.at_.far (by omega) (by omega) u, h.out.set (by omega) hu⟩
theorem FS.start (Wq : World) (m : Nat) : FS Wq ((Wq.alloc (.cells (madeCells #[.slice none 0 0] m) 26)).alloc (.cells (madeCells #[.slice none 0 0] m) 26)) m (List.replicate m (.slice none 0 0)) (List.replicate m (.slice none 0 0)) (fun _ => []) (fun _ => []) := by
  refine ⟨below_alloc (below_alloc (Below.refl _ _) _) _, by simp, (Rows.start Wq m _).below (below_alloc (Below.refl _ _) _), ?_⟩
  have h := Rows.start (Wq.alloc (.cells (madeCells #[.slice none 0 0] m) 26)) m (Wq.heap.size + 2)
  rwa [World.size_alloc] at h
end
theorem Rows.congr {W : World} {g B m : Nat} {vs : List Value} {f f' : Nat → List Bool} (h : Rows W g B m vs f) (hf : ∀ i, i < m → f i = f' i) : Rows W g B m vs f' :=
  ⟨h.blk, h.len, fun i u hu => by
    rw [← hf i (by have := (List.getElem?_eq_some_iff.1 hu).1; have := h.len; omega)]
    exact h.row i u hu⟩
theorem FS.congr {Wq W : World} {m : Nat} {va vo : List Value} {a o a' o' : Nat → List Bool} (h : FS Wq W m va vo a o) (ha : ∀ i, i < m → a i = a' i) (ho : ∀ i, i < m → o i = o' i) : FS Wq W m va vo a' o' := ⟨h.low, h.big, h.at_.congr ha, h.out.congr ho⟩
/-- The first t of rows are x. -/
def fillR (x : List Bool) (t : Nat) (i : Nat) : List Bool := if i < t then x else []
theorem fillR_zero (x : List Bool) : (fun _ => []) = fillR x 0 := by
  funext i
  simp [fillR]
theorem fillR_at (x : List Bool) {m i : Nat} (h : i < m) : fillR x m i = x := if_pos h
theorem fillR_upd (x : List Bool) (t : Nat) : upd (fillR x t) t x = fillR x (t + 1) := by
  funext i
  unfold upd fillR
  by_cases e : i = t
  · rw [if_pos e, if_pos (by omega)]
  · rw [if_neg e]
    by_cases h : i < t
    · rw [if_pos h, if_pos (by omega)]
    · rw [if_neg h, if_neg (by omega)]
/-- A row of rows of flags, behind block g; no row is that block. -/
def Q2 (W : World) (g : Nat) (u : Value) (vs : List Value) (xss : List (List Bool)) : Prop :=
  W.ownsRow (g + 1) 26 1 u vs.length vs ∧ vs.length = xss.length ∧ ∀ (k : Nat) (v : Value) (x : List Bool), vs[k]? = some v → xss[k]? = some x → OB W 0 v x ∧ ∀ b, v.ownBlock = some b → b ≠ g
theorem Q2.nil (W : World) (g : Nat) : Q2 W g (.slice none 0 0) [] [] := ⟨own_nil _ _ _ _, rfl, fun k v x h => by simp at h⟩
theorem Q2.keep {W W' : World} {g : Nat} {u : Value} {vs : List Value} {xss : List (List Bool)} (h : Q2 W g u vs xss) (hk : KeepBut W W' g none) : Q2 W' g u vs xss :=
  ⟨own_move h.1 (fun k e => hk.2 k (own_lt h.1 k e) (by have := own_base h.1 k e; omega) (by simp)), h.2.1, fun k v x h1 h2 => by
    obtain ⟨h3, h4⟩ := h.2.2 k v x h1 h2
    exact ⟨own_move h3 (fun b e => hk.2 b (own_lt h3 b e) (h4 b e) (by simp)), h4⟩⟩
/-- In a round: the row at i grows. -/
structure QI (Wi W : World) (g i : Nat) (us : List Value) (uu : Value) (vs : List Value) (xss : List (List Bool)) : Prop where
  keep : KeepBut Wi W g none
  box : BoxIs W g (us.set i uu).toArray 44
  q : Q2 W g uu vs xss
  new : ∀ b, uu.ownBlock = some b → Wi.heap.size ≤ b
theorem QI.below {Wi W W' : World} {g i : Nat} {us : List Value} {uu : Value} {vs : List Value} {xss : List (List Bool)} (h : QI Wi W g i us uu vs xss) (hb : Below W.heap.size W W') : QI Wi W' g i us uu vs xss :=
  ⟨h.keep.trans (KeepBut.of_below hb g none) (.inl rfl), h.box.below hb h.box.lt, h.q.keep (KeepBut.of_below hb g none), h.new⟩
theorem QI.append {Wi W W5 : World} {g i : Nat} {us : List Value} {uu v v5 : Value} {vs : List Value} {xss : List (List Bool)} {x : List Bool} (h : QI Wi W g i us uu vs xss) (hx : OB W 0 v x) (hxg : ∀ b, v.ownBlock = some b → b ≠ g)
    (ho : W5.ownsRow (g + 1) 26 1 v5 (vs ++ [v]).length (vs ++ [v])) (hb : Below (g + 1) W W5) (hg : W.grownBy W5 uu.ownBlock) (hat : v5.ownBlock = uu.ownBlock ∨ ∃ b, v5.ownBlock = some b ∧ W.heap.size ≤ b) :
    QI Wi (W5.setCell ⟨g, i, none⟩ v5) g i us v5 (vs ++ [v]) (xss ++ [x]) := by
  have hmove : ∀ (v : Value) (x : List Bool), OB W 0 v x → (∀ b, v.ownBlock = some b → b ≠ g) → OB (W5.setCell ⟨g, i, none⟩ v5) 0 v x := fun v x h1 h2 => by
    have h3 : OB W5 0 v x := own_other h1 hg (own_type_ne h1 h.q.1 (by decide))
    exact own_move h3 (fun k e => Below.heap_setCell W5 ⟨g, i, none⟩ v5 k (h2 k e))
  have hsz : Wi.heap.size ≤ W.heap.size := h.keep.1
  refine ⟨⟨by rw [World.size_setCell]; exact Nat.le_trans hsz hg.size, fun j hj hne _ => ?_⟩, ?_, ⟨own_move ho (fun k e => Below.heap_setCell W5 ⟨g, i, none⟩ v5 k (by have := own_base ho k e; simp only; omega)), by simp [h.q.2.1], fun k v' x' h1 h2 => ?_⟩, fun b e => ?_⟩
  · rw [Below.heap_setCell W5 ⟨g, i, none⟩ v5 j hne, hg.block j (by omega) (fun e => by have := h.new j e.symm; omega)]
    exact h.keep.2 j hj hne (by simp)
  · have h1 : W5.heap[g]? = some (.cells (us.set i uu).toArray 44 (0, 0)) := (hb.block g (by omega)).trans h.box
    have h2 := set_block (j := i) h1 v5
    unfold BoxIs
    rw [h2]
    simp
  · by_cases hk : k < vs.length
    · rw [List.getElem?_append_left hk] at h1
      rw [List.getElem?_append_left (by rw [← h.q.2.1]; exact hk)] at h2
      obtain ⟨h3, h4⟩ := h.q.2.2 k v' x' h1 h2
      exact ⟨hmove v' x' h3 h4, h4⟩
    · have hke : k = vs.length := by
        have := (List.getElem?_eq_some_iff.1 h1).1
        simp at this
        omega
      subst hke
      rw [List.getElem?_append_right (Nat.le_refl _), Nat.sub_self] at h1
      rw [h.q.2.1, List.getElem?_append_right (Nat.le_refl _), Nat.sub_self] at h2
      simp only [List.getElem?_cons_zero, Option.some.injEq] at h1 h2
      subst h1 h2
      exact ⟨hmove v x hx hxg, hxg⟩
  · rcases hat with e1 | ⟨b', e1, h2⟩
    · exact h.new b (e1 ▸ e)
    · rw [e] at e1
      injection e1 with e1
      omega
theorem QI.moved {Wi W W5 : World} {g i : Nat} {us : List Value} {uu v : Value} {vs : List Value} {xss : List (List Bool)} {x : List Bool} (h : QI Wi W g i us uu vs xss) (hx : OB W 0 v x) (hxg : ∀ b, v.ownBlock = some b → b ≠ g) (hg : W.grownBy W5 uu.ownBlock) (v5 : Value) : OB (W5.setCell ⟨g, i, none⟩ v5) 0 v x :=
  own_move (own_other hx hg (own_type_ne hx h.q.1 (by decide))) (fun k e => Below.heap_setCell W5 ⟨g, i, none⟩ v5 k (hxg k e))
theorem QI.cell {Wi W : World} {g i : Nat} {us : List Value} {uu : Value} {vs : List Value} {xss : List (List Bool)} (h : QI Wi W g i us uu vs xss) (hi : i < us.length) : W.cell? ⟨g, i, none⟩ = some uu := h.box.cell i uu (by simp [hi])
theorem QI.after {Wi W W5 : World} {g i : Nat} {us : List Value} {uu : Value} {vs : List Value} {xss : List (List Bool)} (h : QI Wi W g i us uu vs xss) (hi : i < us.length) (hb : Below (g + 1) W W5) : W5.cell? ⟨g, i, none⟩ = some uu ∧ W5.frozen? ⟨g, i, none⟩ = false := by
  have h1 : BoxIs W5 g (us.set i uu).toArray 44 := (hb.block g (by omega)).trans h.box
  exact ⟨h1.cell i uu (by simp [hi]), frozen_box h1 i⟩
theorem statesL_snoc (cs : List Ch) (b : Int) : ∀ (r k : Nat) (x : List Bool), statesL cs b k (r + 1) x = statesL cs b k r x ++ [runL cs b k (r + 1) x]
  | 0, k, x => rfl
  | r + 1, k, x => by
    rw [statesL, statesL_snoc cs b r (k + 1), statesL, List.cons_append]
    rfl
end Go.Proofs.Ythgnbeeobhfeaaa.T
end

section
/- Walks: what holds (the document's). -/
namespace Go.Proofs.Ythgnbeeobhfeaaa.T
open Go.RowKit Go.Shelf Go.Proofs.YthgnbeeobhfeaaaW.PrintWords Go.Proofs.YthgnbeeobhfeaaaW.PrintLast
attribute [local go_sem] Oper.semAt_some

/-- The first i of the flags that start. -/
def cpL (N : Nat) (start : List Bool) (i : Nat) : List Bool := (List.range N).map fun t => if t < i then start.getD t false else false
theorem cpL_length (N : Nat) (start : List Bool) (i : Nat) : (cpL N start i).length = N := by simp [cpL]
theorem cpL_zero (N : Nat) (start : List Bool) : List.replicate N false = cpL N start 0 := by
  apply List.ext_getElem?
  intro j
  by_cases hj : j < N
  · simp [cpL, hj]
  · simp [cpL, hj]
theorem cpL_set {N : Nat} {start : List Bool} {i : Nat} (hi : i < N) : (cpL N start i).set i (start.getD i false) = cpL N start (i + 1) := by
  apply List.ext_getElem?
  intro j
  by_cases hj : j < N
  · by_cases e : i = j
    · subst e
      rw [List.getElem?_set_self (by rw [cpL_length]; exact hi)]
      simp [cpL, hj]
    · rw [List.getElem?_set_ne e]
      simp only [cpL, List.getElem?_map, List.getElem?_range hj, Option.map_some]
      by_cases h : j < i
      · rw [if_pos h, if_pos (by omega)]
      · rw [if_neg h, if_neg (by omega)]
  · rw [List.getElem?_eq_none (by simp [cpL_length]; omega), List.getElem?_eq_none (by rw [cpL_length]; omega)]
theorem cpL_done {N : Nat} {start : List Bool} {i : Nat} (h : N ≤ i ∨ start.length ≤ i) : cpL N start i = firstL N start := by
  unfold cpL firstL
  refine List.map_congr_left (fun t ht => ?_)
  rw [List.mem_range] at ht
  rcases h with h | h
  · rw [if_pos (by omega)]
  · split
    · rfl
    · rw [List.getD_eq_getElem?_getD, List.getElem?_eq_none (by omega)]; rfl

/-- A row of rows of rows of flags. -/
def R3 (W : World) (g : Nat) (us : List Value) (xsss : List (List (List Bool))) : Prop :=
  BoxIs W g us.toArray 44 ∧ us.length = xsss.length ∧ ∀ (t : Nat) (u : Value) (xss : List (List Bool)), us[t]? = some u → xsss[t]? = some xss → ∃ vs, Q2 W g u vs xss
theorem runL_snoc (cs : List Ch) (b : Int) : ∀ (r k : Nat) (x : List Bool), runL cs b k (r + 1) x = stepL cs b ((k + r : Nat) : Int) (runL cs b k r x)
  | 0, k, x => rfl
  | r + 1, k, x => by
    rw [runL, runL_snoc cs b r (k + 1), runL, show k + 1 + r = k + (r + 1) by omega]

set_option maxRecDepth 100000 in
set_option maxHeartbeats 16000000 in
theorem rflow_any (s : ByteArray) (p : Int) (A2 : Option Addr) (n2 c2 : Nat) (A3 : Option Addr) (c3 : Nat) (l03 : List S58) (n : Int) (As : Option Addr) (cst : Nat) (start : List Bool) (Al : Option Addr) (cl : Nat) (cs : List S90) (every : Bool) (w : World)
    (hC : Kd.C k58 w A3 l03.length l03) (hf : fewB l03 = true) (hn : n ≤ 30) (hS : Kd.bool.C w As start.length start) (hCs : Kd.C k90 w Al cs.length cs) :
    Calls Try.prog 14 #[bodyV s p A2 n2 c2 A3 l03.length c3, .int .i64 n, .slice As start.length cst, .slice Al cs.length cl, .bool every] w fun e w' => ∃ (g : Nat) (us : List Value), e = .returned (.slice (some ⟨g, 0, none⟩) l03.length l03.length) ∧ R3 w' g us (flowL (bksOf l03) n.toNat start (chs90 cs) every) ∧ Below w.heap.size w w' := by
  have HC := Lib.hid hC
  have HS := Lib.hid hS
  have HCs := Lib.hid hCs
  have HF := Lib.hid hf
  have hm := (fewB_at hf).1
  have hls : start.length ≤ 9223372036854775807 := hS.2.1
  have HRL : Hid ((reachL (bksOf l03)).length = l03.length) := Lib.hid (by rw [reachL_len, bksOf_length])
  have HBL := Lib.hid (bksOf_length l03)
  have HPL : Hid (((List.range l03.length).map (predsL (bksOf l03))).length = l03.length) := Lib.hid (by simp)
  obtain ⟨N, hN⟩ : ∃ N, N = n.toNat := ⟨_, rfl⟩
  have hN30 : N ≤ 30 := by omega
  have HNN := Lib.hid hN
  clear hC hS hCs hf hN
  go_enter Try.func14, Try.ntmps14
  go_wp2_with fail
  have hbx : BoxIs (w.alloc (.cells (bodyC s p A2 n2 c2 A3 l03.length c3) 25)) w.heap.size (bodyC s p A2 n2 c2 A3 l03.length c3) 25 := heap_alloc_new w _
  have hlow := below_alloc (Below.refl w.heap.size w) (.cells (bodyC s p A2 n2 c2 A3 l03.length c3) 25)
  generalize w.alloc (.cells (bodyC s p A2 n2 c2 A3 l03.length c3) 25) = w1 at *
  refine (rreach_any s p A2 n2 c2 A3 c3 l03 w1 (Kd.C_below HC.out hlow) HF.out).mono ?_
  rintro e w2 ⟨v2, rfl, ho2, hb2⟩
  obtain ⟨Ar, cr, rfl⟩ := own_slice ho2
  rw [HRL.out]
  rw [HRL.out] at ho2
  have HO2 := Lib.hid ho2
  have HBX2 := Lib.hid (hbx.below hb2 hbx.lt)
  have HLO2 := Lib.hid (below_then hlow hlow.size hb2)
  clear ho2 hb2 hbx hlow
  have e0 := HBX2.out.cell 0 _ rfl
  have e1 := HBX2.out.cell 1 _ rfl
  have e2 := HBX2.out.cell 2 _ rfl
  have e3 := HBX2.out.cell 3 _ rfl
  go_wp2_with fail
  refine (rpreds_any s p A2 n2 c2 A3 c3 l03 w2 (Kd.C_below HC.out HLO2.out) HF.out).mono ?_
  rintro e w3 ⟨v3, vsp, rfl, hr3, hb3⟩
  obtain ⟨Ap, cp, rfl⟩ := hr3.slice
  rw [List.length_map, HPL.out]
  rw [List.length_map, HPL.out] at hr3
  have HP3 := Lib.hid hr3
  have HO3 := Lib.hid (pw_own_below HO2.out hb3)
  have HBX3 := Lib.hid (HBX2.out.below hb3 HBX2.out.lt)
  have HLO3 := Lib.hid (below_then HLO2.out HLO2.out.size hb3)
  clear hr3 hb3 HO2 HBX2 HLO2 e0 e1 e2 e3
  go_wp2_with fail
  refine (rflags_any w3 n false hn).mono ?_
  rintro e w4 ⟨v4, rfl, ho4, hb4⟩
  rw [← HNN.out] at ho4
  have hbase4 : ∀ k, v4.ownBlock = some k → w3.heap.size ≤ k := fun k hk => own_base ho4 k hk
  obtain ⟨Af, cf, rfl⟩ : ∃ A c, v4 = .slice A N c := by
    obtain ⟨A, c, h⟩ := own_slice ho4
    exact ⟨A, c, by rw [h, List.length_replicate]⟩
  have HF4 : Hid (OB w4 w3.heap.size (.slice Af N cf) (cpL N start 0)) := Lib.hid (by rw [← cpL_zero]; exact ho4)
  have HB4 := Lib.hid hb4
  clear ho4 hb4 hbase4
  go_upto_block 0 with fail
  go_cut [14] from 36 to 54 (fun u14 wx => Hid (OB wx w3.heap.size (.slice Af N cf) (firstL N start)) ∧ Hid (Below w3.heap.size w3 wx))
  case first =>
    go_wp2_with fail
    go_loopw [14] (fun u wr => ∃ i : Nat, u = .int .i64 i ∧ i ≤ N ∧ i ≤ start.length ∧ Hid (OB wr w3.heap.size (.slice Af N cf) (cpL N start i)) ∧ Hid (Below w3.heap.size w3 wr)) (fun u _ => N - (intOf u).toNat)
    case atStart => exact ⟨0, rfl, Nat.zero_le _, Nat.zero_le _, HF4, HB4⟩
    case round =>
      clear HF4 HB4
      obtain ⟨i, rfl, hi1, hi2, HO, HB⟩ := hrel
      by_cases g : i < N ∧ i < start.length
      · obtain ⟨g1, g2⟩ := g
        obtain ⟨q, hq⟩ : ∃ q, (cpL N start i)[i]? = some q := ⟨_, List.getElem?_eq_getElem (by rw [cpL_length]; exact g1)⟩
        obtain ⟨gf, rfl, _⟩ := OB.at2 HO.out hq
        have hoe : wr.ownsRow w3.heap.size 4 1 (.slice (some ⟨gf, 0, none⟩) N cf) N (encs Value.bool (cpL N start i)) := by
          have h := HO.out
          unfold OB at h
          rwa [cpL_length] at h
        obtain ⟨b, hb⟩ : ∃ b, start[i]? = some b := ⟨_, List.getElem?_eq_getElem g2⟩
        obtain ⟨as_, has, hsc⟩ := Kd.at_bool (Kd.C_below HS.out (below_then HLO3.out HLO3.out.size HB.out)) (i : Int) (by omega) (by omega)
        rw [show rdOf false start (i : Int) = b by simp [rdOf, List.getD_eq_getElem?_getD, hb], Int.toNat_natCast] at hsc
        subst has
        have hset := cpL_set (N := N) (start := start) g1
        rw [show start.getD i false = b by rw [List.getD_eq_getElem?_getD, hb]; rfl] at hset
        obtain ⟨hst, hgr⟩ := own_store_of (enc := Value.bool) hoe (i : Int) b
        obtain ⟨hcl', hfz⟩ := own_at_of (enc := Value.bool) (d := false) hoe (i : Int) (by omega) (by omega)
        rw [Int.toNat_natCast] at hst hgr hcl' hfz
        rw [hset] at hst
        have HST : Hid (OB (wr.setCell ⟨gf, i, none⟩ (.bool b)) w3.heap.size (.slice (some ⟨gf, 0, none⟩) N cf) (cpL N start (i + 1))) := Lib.hid (by
          unfold OB
          rw [cpL_length]
          exact hst)
        have HB2 := Lib.hid (HB.out.grown hgr HB.out.size (fun k hk => by injection hk with hk; have := own_base hoe gf rfl; omega))
        have g1' : (i : Int) < (N : Int) := by omega
        have g2' : (i : Int) < (start.length : Int) := by omega
        clear hset hst hgr hoe hb HO HB hq
        go_wp2_with fail
        go_roundw
        case rel => exact ⟨i + 1, by go_num, by omega, by omega, HST, HB2⟩
        case measure => first | (simp [intOf]; omega) | (simp [intOf]; done)
      · have HFI : Hid (OB wr w3.heap.size (.slice Af N cf) (firstL N start)) := Lib.hid (by
          have h := HO.out
          rwa [cpL_done (by omega)] at h)
        clear HO
        by_cases g1 : i < N <;>
        · first | (have g2' : ¬ ((i : Int) < (start.length : Int)) := by omega) | skip
          first | (have g1' : ¬ ((i : Int) < (N : Int)) := by omega) | skip
          first | (have g1'' : (i : Int) < (N : Int) := by omega) | skip
          go_wp2_with fail
          go_meet
          case rel => exact ⟨HFI, HB⟩
  case rest =>
    clear HF4 HB4
    obtain ⟨HFI, HB⟩ := hcut
    obtain ⟨Wq, rfl⟩ : ∃ x, x = wc := ⟨wc, rfl⟩
    have hbxq := HBX3.out.below HB.out HBX3.out.lt
    have e3 := hbxq.cell 3 _ rfl
    have HBXQ := Lib.hid hbxq
    have HOQ := Lib.hid (pw_own_below HO3.out HB.out)
    have HPQ := Lib.hid (HP3.out.below HB.out)
    have HLQ := Lib.hid (below_then HLO3.out HLO3.out.size HB.out)
    have e3' : ∀ o, (Wq.alloc o).cell? ⟨w.heap.size, 3, none⟩ = some (.slice A3 l03.length c3) := fun o => pw_cell_below (below_alloc (Below.refl _ _) o) e3
    have hmk : ∀ W : World, (Instr.makeSlice 44 (.int .i64 l03.length) (.int .i64 l03.length)).run Try.prog W = .ok (.slice (some ⟨W.heap.size, 0, none⟩) l03.length l03.length) (W.alloc (.cells (madeCells #[.slice none 0 0] l03.length) 26)) := fun W => run_make_row' (P := Try.prog) 44 26 (.slice none 0 0) 24 Try.underlying44 info26 rfl .i64 .i64 l03.length (by omega) (by omega) W
    have HFS : Hid (FS Wq ((Wq.alloc (.cells (madeCells #[.slice none 0 0] l03.length) 26)).alloc (.cells (madeCells #[.slice none 0 0] l03.length) 26)) l03.length _ _ (fillR (List.replicate N every) 0) (fillR (List.replicate N every) 0)) := Lib.hid (by rw [← fillR_zero]; exact FS.start Wq l03.length)
    clear HB hbxq HO3 HP3 HLO3 HBX3
    go_upto_block 2 with fail
    clear hmk e3 e3'
    generalize ((Wq.alloc (.cells (madeCells #[.slice none 0 0] l03.length) 26)).alloc (.cells (madeCells #[.slice none 0 0] l03.length) 26)) = w5 at *
    go_cut [17] from 63 to 80 (fun u17 wx => ∃ (va vo : List Value), Hid (FS Wq wx l03.length va vo (fun _ => List.replicate N every) (fun _ => List.replicate N every)))
    case first =>
      go_wp2_with fail
      go_loopw [17] (fun u wr => ∃ (t : Nat) (va vo : List Value), u = .int .i64 t ∧ t ≤ l03.length ∧ Hid (FS Wq wr l03.length va vo (fillR (List.replicate N every) t) (fillR (List.replicate N every) t))) (fun u _ => l03.length - (intOf u).toNat)
      case atStart => exact ⟨0, _, _, rfl, Nat.zero_le _, HFS⟩
      case round =>
        clear HFS
        obtain ⟨t, va, vo, rfl, ht, HFS⟩ := hrel
        by_cases hlt : t < l03.length
        · go_wp2_with fail
          refine (rflags_any wr n every hn).mono ?_
          rintro e w8 ⟨v8, rfl, ho8, hb8⟩
          rw [← HNN.out] at ho8
          obtain ⟨A8, c8, rfl⟩ : ∃ A c, v8 = .slice A N c := by
            obtain ⟨A, c, h⟩ := own_slice ho8
            exact ⟨A, c, by rw [h, List.length_replicate]⟩
          have hfs8 := HFS.out.below hb8
          obtain ⟨u8, hu8, _⟩ := hfs8.at_.get hlt
          have hcz := hfs8.at_.cell hu8
          have hfz := hfs8.at_.frozen (i := t)
          have HF9 := Lib.hid (hfs8.setA (i := t) (own_weaken ho8 HFS.out.big))
          clear ho8 hb8 hfs8 hu8 HFS
          go_wp2_with fail
          generalize w8.setCell ⟨Wq.heap.size, t, none⟩ (.slice A8 N c8) = w9 at *
          clear hcz hfz
          refine (rflags_any w9 n every hn).mono ?_
          rintro e w10 ⟨v10, rfl, ho10, hb10⟩
          rw [← HNN.out] at ho10
          obtain ⟨A10, c10, rfl⟩ : ∃ A c, v10 = .slice A N c := by
            obtain ⟨A, c, h⟩ := own_slice ho10
            exact ⟨A, c, by rw [h, List.length_replicate]⟩
          have hfs10 := HF9.out.below hb10
          obtain ⟨u10, hu10, _⟩ := hfs10.out.get hlt
          have hcz := hfs10.out.cell hu10
          have hfz := hfs10.out.frozen (i := t)
          have HF11 := Lib.hid (hfs10.setO (i := t) (own_weaken ho10 HF9.out.big))
          clear ho10 hb10 hfs10 hu10 HF9
          go_wp2_with fail
          go_roundw
          case rel => exact ⟨t + 1, _, _, by go_num, by omega, Lib.hid (by rw [← fillR_upd]; exact HF11.out)⟩
          case measure => first | (simp [intOf]; omega) | (simp [intOf]; done)
        · obtain rfl : t = l03.length := by omega
          clear hlt ht
          go_wp2_with fail
          go_meet
          case rel => exact ⟨va, vo, Lib.hid (HFS.out.congr (fun i hi => fillR_at _ hi) (fun i hi => fillR_at _ hi))⟩
    case rest =>
      clear HFS
      obtain ⟨va0, vo0, HFS⟩ := hcut
      have HQ0 : Hid (FQ (bksOf l03) (chs90 cs) N start every (fun _ => List.replicate N every) (fun _ => List.replicate N every)) := Lib.hid FQ.begin
      go_upto_block 4 with fail
      go_cut [18] from 81 to 201 (fun u18 wx => ∃ (va vo : List Value) (a o : Nat → List Bool), Hid (FS Wq wx l03.length va vo a o) ∧ Hid (∀ i, Rch (bksOf l03) i → a i = inL (bksOf l03) N start (chs90 cs) every i))
      case first =>
        go_wp2_with fail
        go_loopg [18] (potQ (bksOf l03).length every (fun _ => List.replicate N every) (fun _ => List.replicate N every) + 1) (fun gk u18 wr => ∃ (ch : Bool) (va vo : List Value) (a o : Nat → List Bool), u18 = .bool ch ∧ Hid (FS Wq wr l03.length va vo a o) ∧ Hid (FQ (bksOf l03) (chs90 cs) N start every o a) ∧ Hid (ch = true → potQ (bksOf l03).length every o a < gk) ∧ Hid (ch = false → ∀ i, Rch (bksOf l03) i → a i = inL (bksOf l03) N start (chs90 cs) every i))
        case atStart => exact ⟨true, va0, vo0, _, _, rfl, HFS, HQ0, Lib.hid (fun _ => by omega), Lib.hid (fun h => by cases h)⟩
        case round =>
          clear HFS HQ0
          obtain ⟨ch, va, vo, a, o, rfl, HFS, HQ, HP, HD⟩ := hrel
          cases ch with
          | false =>
            have HD2 := Lib.hid (HD.out rfl)
            clear HD HP
            go_wp2_with fail
            go_meet
            case rel => exact ⟨va, vo, a, o, HFS, HD2⟩
          | true =>
            have hlt := HP.out rfl
            have HR0 := Lib.hid (FR.begin HQ.out)
            obtain ⟨P, hP⟩ : ∃ P, P = potQ (bksOf l03).length every o a := ⟨_, rfl⟩
            rw [← hP] at hlt HR0
            clear hP HP HD HQ
            go_wp2_with fail
            go_loopw [18, 19] (fun u18 u19 wr => ∃ (ch : Bool) (i : Nat) (va vo : List Value) (a o : Nat → List Bool), u18 = .bool ch ∧ u19 = .int .i64 i ∧ i ≤ l03.length ∧ Hid (FS Wq wr l03.length va vo a o) ∧ Hid (FR (bksOf l03) (chs90 cs) N start every P i ch o a)) (fun _ u _ => l03.length - (intOf u).toNat)
            case atStart => exact ⟨false, 0, va, vo, a, o, rfl, rfl, Nat.zero_le _, HFS, HR0⟩
            case round =>
              clear HR0 HFS
              obtain ⟨ch, i, va, vo, a, o, rfl, rfl, hi, HFS, HR⟩ := hrel
              obtain ⟨Wi, rfl⟩ : ∃ x, x = wr := ⟨wr, rfl⟩
              by_cases hlti : i < l03.length
              · have HBQ := Lib.hid HFS.out.low
                have hor := pw_own_below HOQ.out HBQ.out
                obtain ⟨gr, rfl, hcr⟩ := OB.at2 hor (show (reachL (bksOf l03))[i]? = some (rchB (bksOf l03) i) by simp [reachL, HBL.out, hlti])
                clear hor
                cases hrb : rchB (bksOf l03) i with
                | false =>
                  rw [hrb] at hcr
                  have HR2 := Lib.hid (HR.out.skip (fun h => by rw [rchB_iff.2 h] at hrb; cases hrb))
                  clear hrb
                  go_wp2_with fail
                  go_roundw
                  case rel => exact ⟨ch, i + 1, va, vo, a, o, rfl, by go_num, by omega, HFS, HR2⟩
                  case measure => first | (simp [intOf]; omega) | (simp [intOf]; done)
                | true =>
                  rw [hrb] at hcr
                  have HRC := Lib.hid (rchB_iff.1 hrb)
                  clear hrb
                  go_wp2_with fail
                  refine (rflags_any Wi n every hn).mono ?_
                  rintro e w8 ⟨v8, rfl, ho8, hb8⟩
                  rw [← HNN.out] at ho8
                  obtain ⟨A8, c8, rfl⟩ : ∃ A c, v8 = .slice A N c := by
                    obtain ⟨A, c, h⟩ := own_slice ho8
                    exact ⟨A, c, by rw [h, List.length_replicate]⟩
                  have HO8 := Lib.hid ho8
                  have HB8 := Lib.hid hb8
                  obtain ⟨X0, hX0⟩ : ∃ X0, X0 = if i = 0 then firstL N start else List.replicate N every := ⟨_, rfl⟩
                  have HX0 := Lib.hid hX0
                  clear ho8 hb8 hcr hX0
                  go_upto_if 97 with fail
                  go_cut [20] from 97 to 99 (fun u20 wx => ∃ (A : Option Addr) (c : Nat), u20 = .slice A N c ∧ Hid (OB wx Wi.heap.size (.slice A N c) X0) ∧ Hid (Below Wi.heap.size Wi wx))
                  case first =>
                    by_cases h0 : i = 0
                    · have e0 : ((i : Int) == 0) = true := by rw [beq_iff_eq]; omega
                      have HXX : Hid (X0 = firstL N start) := Lib.hid (by rw [HX0.out, if_pos h0])
                      obtain ⟨Aff, cff, hvf, hcf, hCf⟩ := OB.reads HFI.out
                      rw [firstL_length] at hvf hcf
                      injection hvf with hv1 hv2 hv3
                      subst hv1 hv3
                      have hcp := cocoonref11_copied.calls Af cf (firstL N start) (firstL N start) w8 (Kd.C_below hCf (below_then HBQ.out HBQ.out.size HB8.out)) (by rw [firstL_length]; exact hcf) (by unfold cocoonref11_copied.f; rw [Option.bind_some, if_pos (by rw [firstL_length]; simp; omega)]; rfl)
                      rw [firstL_length] at hcp
                      have HCP := Lib.hid hcp
                      clear hv2 hcf hCf hcp h0
                      go_wp2_with fail
                      refine HCP.out.mono ?_
                      rintro e w9 ⟨v9, rfl, hr9, hb9⟩
                      have ho9 := own_weaken (Kd.own_of_R hr9) HB8.out.size
                      obtain ⟨A9, c9, rfl⟩ : ∃ A c, v9 = .slice A N c := by
                        obtain ⟨A, c, h⟩ := own_slice ho9
                        exact ⟨A, c, by rw [h, firstL_length]⟩
                      have HO9 : Hid (OB w9 Wi.heap.size (.slice A9 N c9) X0) := Lib.hid (by rw [HXX.out]; exact ho9)
                      have HB9 := Lib.hid (below_then HB8.out HB8.out.size hb9)
                      clear hr9 ho9 hb9 HCP
                      go_wp2_with fail
                      go_meet
                      case rel => exact ⟨A9, c9, rfl, HO9, HB9⟩
                    · have e0 : ((i : Int) == 0) = false := by rw [beq_eq_false_iff_ne]; omega
                      have HO9 : Hid (OB w8 Wi.heap.size (.slice A8 N c8) X0) := Lib.hid (by rw [HX0.out, if_neg h0]; exact HO8.out)
                      clear h0
                      go_wp2_with fail
                      go_meet
                      case rel => exact ⟨A8, c8, rfl, HO9, HB8⟩
                  case rest =>
                    clear HO8 HB8
                    obtain ⟨An, cn, rfl, HON, HBN⟩ := hcut
                    obtain ⟨gp, Apl, dpl, rfl, hcpl, hopl⟩ := (HPQ.out).at2 (show ((List.range l03.length).map (predsL (bksOf l03)))[i]? = some (predsL (bksOf l03) i) by simp [hlti])
                    have hxl0 : X0.length = N := by rw [HX0.out]; split <;> simp [firstL_length]
                    have hmem : ∀ x ∈ predsL (bksOf l03) i, ∃ q : Nat, x = q ∧ q < l03.length := fun x hx => by
                      obtain ⟨q, h1, h2⟩ := predsL_mem hx
                      exact ⟨q, h1, by rw [HBL.out] at h2; exact h2⟩
                    have hinto : intoL (bksOf l03) N (firstL N start) every o i = comeL (bksOf l03) every o (predsL (bksOf l03) i) X0 := by rw [HX0.out]; rfl
                    have hpll : (predsL (bksOf l03) i).length ≤ 30 := by
                      have := predsL_le (bksOf l03) i
                      rw [HBL.out] at this
                      omega
                    obtain ⟨pl, hpl⟩ : ∃ pl, pl = predsL (bksOf l03) i := ⟨_, rfl⟩
                    rw [← hpl] at hcpl hopl hmem hinto hpll
                    have HCPL := Lib.hid (pw_cell_below HBQ.out hcpl)
                    have HOPL := Lib.hid (pw_own_below hopl HBQ.out)
                    have HMEM := Lib.hid hmem
                    have HINTO := Lib.hid hinto
                    have HXL0 := Lib.hid hxl0
                    clear hcpl hopl hmem hinto hpl hxl0
                    go_upto_block 8 with fail
                    go_cut [21] from 100 to 160 (fun u21 wx => Hid (OB wx Wi.heap.size (.slice An N cn) (intoL (bksOf l03) N (firstL N start) every o i)) ∧ Hid (Below Wi.heap.size Wi wx))
                    case first =>
                      go_wp2_with fail
                      go_loopw [21] (fun u wr => ∃ k : Nat, u = .int .i64 k ∧ k ≤ pl.length ∧ Hid (OB wr Wi.heap.size (.slice An N cn) (comeL (bksOf l03) every o (pl.take k) X0)) ∧ Hid (Below Wi.heap.size Wi wr)) (fun u _ => pl.length - (intOf u).toNat)
                      case atStart => exact ⟨0, rfl, Nat.zero_le _, HON, HBN⟩
                      case round =>
                        clear HON HBN
                        obtain ⟨k, rfl, hk, HON, HBN⟩ := hrel
                        have zp := pw_cell_below HBN.out HCPL.out
                        by_cases hltk : k < pl.length
                        · obtain ⟨q, hq⟩ : ∃ q, pl[k]? = some q := ⟨_, List.getElem?_eq_getElem hltk⟩
                          obtain ⟨Q, rfl, hQ⟩ := HMEM.out q (List.mem_of_getElem? hq)
                          obtain ⟨gq, rfl, hcq⟩ := OI.at2 HOPL.out hq
                          have zq := pw_cell_below HBN.out hcq
                          have hsn := comeL_snoc (bksOf l03) every o (pl.take k) (Q : Int) X0
                          rw [← take_snoc90 hq, Int.toNat_natCast] at hsn
                          have hxl := comeL_length (bs := bksOf l03) (e := every) HR.out.q.phi.len (pl.take k) (x := X0) HXL0.out
                          have hor := pw_own_below HOQ.out HBQ.out
                          obtain ⟨gr', hgr', hcr⟩ := OB.at2 hor (show (reachL (bksOf l03))[Q]? = some (rchB (bksOf l03) Q) by simp [reachL, HBL.out, hQ])
                          injection hgr' with hgr'
                          injection hgr' with hgr'
                          subst hgr'
                          obtain ⟨uo, huo, hoo⟩ := HFS.out.out.get hQ
                          have hol : (o Q).length = N := HR.out.q.phi.len Q
                          obtain ⟨Ao, co, rfl⟩ : ∃ A c, uo = .slice A N c := by
                            obtain ⟨A, c, h⟩ := own_slice hoo
                            exact ⟨A, c, by rw [h, hol]⟩
                          have hco := HFS.out.out.cell huo
                          have p0 : ((0 : Int) ≤ (Q : Int)) = True := eq_true (by omega)
                          have p1 : ((Q : Int) < (l03.length : Int)) = True := eq_true (by omega)
                          have HSN := Lib.hid hsn
                          have HXL := Lib.hid hxl
                          have HOO := Lib.hid hoo
                          have HOL := Lib.hid hol
                          have HCR := Lib.hid hcr
                          have HCO := Lib.hid hco
                          have zr := pw_cell_below HBN.out hcr
                          have htk : comeL (bksOf l03) every o (pl.take (k + 1)) X0 = if rchB (bksOf l03) Q = true then mergeL every (comeL (bksOf l03) every o (pl.take k) X0) (o Q) else comeL (bksOf l03) every o (pl.take k) X0 := hsn
                          have HTK := Lib.hid htk
                          clear hq hcq hsn hxl hor hcr huo hoo hol hco htk HSN
                          generalize comeL (bksOf l03) every o (pl.take k) X0 = X at *
                          cases hrq : rchB (bksOf l03) Q with
                          | false =>
                            have HTK2 : Hid (comeL (bksOf l03) every o (pl.take (k + 1)) X0 = X) := Lib.hid (by rw [HTK.out, hrq]; rfl)
                            rw [hrq] at zr
                            clear hrq HTK HCR
                            go_wp2_with fail
                            go_loopw [23] (fun u wr2 => u = .int .i64 0 ∧ wr2 = wr) (fun _ _ => 0)
                            case atStart => exact ⟨rfl, rfl⟩
                            case round =>
                              obtain ⟨rfl, rfl⟩ := hrel
                              by_cases hn0 : 0 < N <;>
                              · go_wp2_with fail
                                go_roundw
                                case rel => exact ⟨k + 1, by go_num, by omega, by rw [HTK2.out]; exact HON, HBN⟩
                                case measure => first | (simp [intOf]; omega) | (simp [intOf]; done)
                          | true =>
                            have HTK2 : Hid (comeL (bksOf l03) every o (pl.take (k + 1)) X0 = mergeL every X (o Q)) := Lib.hid (by rw [HTK.out, hrq]; rfl)
                            rw [hrq] at HCR
                            have HM0 : Hid (OB wr Wi.heap.size (.slice An N cn) (mergeT every X (o Q) 0)) := Lib.hid (by rw [mergeT_zero]; exact HON.out)
                            clear hrq HTK zr HON
                            go_wp2_with fail
                            go_loopw [23] (fun u wr2 => ∃ t : Nat, u = .int .i64 t ∧ t ≤ N ∧ Hid (OB wr2 Wi.heap.size (.slice An N cn) (mergeT every X (o Q) t)) ∧ Hid (Below Wi.heap.size Wi wr2)) (fun u _ => N - (intOf u).toNat)
                            case atStart => exact ⟨0, rfl, Nat.zero_le _, HM0, HBN⟩
                            case round =>
                              clear HM0 HBN zp zq
                              obtain ⟨t, rfl, ht, HM, HBN⟩ := hrel
                              by_cases hltt : t < N
                              · obtain ⟨xa, hxa⟩ : ∃ xa, X[t]? = some xa := ⟨_, List.getElem?_eq_getElem (by rw [HXL.out]; exact hltt)⟩
                                obtain ⟨ya, hya⟩ : ∃ ya, (o Q)[t]? = some ya := ⟨_, List.getElem?_eq_getElem (by rw [HOL.out]; exact hltt)⟩
                                have hXo : X.length = (o Q).length := HXL.out.trans HOL.out.symm
                                obtain ⟨gn, rfl, hcn⟩ := OB.at2 HM.out (mergeT_at hXo hxa)
                                obtain ⟨gy, rfl, hcy⟩ := OB.at2 HOO.out hya
                                have hml : (mergeT every X (o Q) t).length = N := (mergeT_length hXo t (by rw [HXL.out]; omega)).trans HXL.out
                                have hoe : wr.ownsRow Wi.heap.size 4 1 (.slice (some ⟨gn, 0, none⟩) N cn) N (encs Value.bool (mergeT every X (o Q) t)) := by
                                  have h := HM.out
                                  unfold OB at h
                                  rwa [hml] at h
                                obtain ⟨_, hfz⟩ := own_at_of (enc := Value.bool) (d := false) hoe (t : Int) (by omega) (by omega)
                                rw [Int.toNat_natCast] at hfz
                                have hstep := mergeT_step (e := every) hXo hxa hya
                                have HFIN : Hid (∀ b, b = mergeB every xa ya → OB (wr.setCell ⟨gn, t, none⟩ (.bool b)) Wi.heap.size (.slice (some ⟨gn, 0, none⟩) N cn) (mergeT every X (o Q) (t + 1))) := Lib.hid (fun b hb => by
                                  obtain ⟨hst, _⟩ := own_store_of (enc := Value.bool) hoe (t : Int) b
                                  rw [Int.toNat_natCast, hb, hstep] at hst
                                  unfold OB
                                  rw [mergeT_length hXo _ (by rw [HXL.out]; omega), HXL.out, hb]
                                  exact hst)
                                have HBW : Hid (∀ b, Below Wi.heap.size Wi (wr.setCell ⟨gn, t, none⟩ b)) := Lib.hid (fun b => below_set HBN.out (own_base hoe gn rfl) b)
                                have zr := pw_cell_below HBN.out HCR.out
                                have zo := pw_cell_below HBN.out HCO.out
                                have zy := pw_cell_below HBN.out hcy
                                clear hxa hya hXo hml hoe hstep hcy
                                cases every <;> cases xa <;> cases ya <;>
                                · go_wp2_with fail
                                  go_roundw
                                  case rel => exact ⟨t + 1, by go_num, by omega, Lib.hid (HFIN.out _ rfl), Lib.hid (HBW.out _)⟩
                                  case measure => first | (simp [intOf]; omega) | (simp [intOf]; done)
                              · obtain rfl : N = t := by omega
                                have HON : Hid (OB wr Wi.heap.size (.slice An N cn) (mergeL every X (o Q))) := Lib.hid (by
                                  have h := HM.out
                                  rw [show N = X.length from HXL.out.symm, mergeT_all (HXL.out.trans HOL.out.symm)] at h
                                  rwa [HXL.out] at h)
                                clear hltt ht HM
                                go_wp2_with fail
                                go_roundw
                                case rel => exact ⟨k + 1, by go_num, by omega, by rw [HTK2.out]; exact HON, HBN⟩
                                case measure => first | (simp [intOf]; omega) | (simp [intOf]; done)
                        · obtain rfl : k = pl.length := by omega
                          rw [List.take_length, ← HINTO.out] at HON
                          clear hltk hk
                          go_wp2_with fail
                          go_meet
                          case rel => exact ⟨HON, HBN⟩
                    case rest =>
                      clear HON HBN
                      obtain ⟨HON, HBN⟩ := hcut
                      obtain ⟨ad, A0, d0, A16, d16, hA, hcc, _, _⟩ := bk_at HC.out i hlti
                      subst hA
                      have hI := (fewB_at HF.out).2 (rd_T58 l03 i) (by simp [rd_T58, List.getElem?_eq_getElem hlti, List.getD_eq_getElem?_getD])
                      have hlv : leaveL (bksOf l03) (chs90 cs) N start every o i = runL (chs90 cs) (i : Int) 0 ((rd_T58 l03 i).f0.length + 1) (intoL (bksOf l03) N (firstL N start) every o i) := by
                        unfold leaveL
                        rw [rd_T58_get hlti]
                        rfl
                      have hnl := into_length (bs := bksOf l03) (start := start) (e := every) HR.out.q.phi.len i
                      have hzb := pw_cell_below (below_then HLQ.out HLQ.out.size HBQ.out) hcc
                      obtain ⟨I, hIe⟩ : ∃ I, I = (rd_T58 l03 i).f0.length := ⟨_, rfl⟩
                      rw [← hIe] at hzb hlv hI
                      have hi30 : I ≤ 30 := hI.1
                      have HZB := Lib.hid hzb
                      have HLV := Lib.hid hlv
                      have HBXi := Lib.hid (HBXQ.out.below HBQ.out HBXQ.out.lt)
                      have HNL := Lib.hid hnl
                      clear hcc hI hlv hIe hzb hnl
                      have hwl : w.heap.size < Wi.heap.size := HBXi.out.lt
                      obtain ⟨now, hnow⟩ : ∃ now, now = intoL (bksOf l03) N (firstL N start) every o i := ⟨_, rfl⟩
                      rw [← hnow] at HON HLV HNL
                      have HNOW := Lib.hid hnow
                      clear hnow
                      go_upto_block 12 with fail
                      go_cut [24, 25] from 162 to 177 (fun u24 u25 wx => ∃ (A : Option Addr) (c : Nat), u24 = .slice A N c ∧ Hid (OB wx Wi.heap.size (.slice A N c) (leaveL (bksOf l03) (chs90 cs) N start every o i)) ∧ Hid (OB wx Wi.heap.size (.slice An N cn) now) ∧ Hid (Below Wi.heap.size Wi wx))
                      case first =>
                        go_wp2_with fail
                        go_loopw [24, 25] (fun u24 u25 wr => ∃ (k : Nat) (A : Option Addr) (c : Nat), u24 = .slice A N c ∧ u25 = .int .i64 k ∧ k ≤ I + 1 ∧ Hid (OB wr Wi.heap.size (.slice A N c) (runL (chs90 cs) (i : Int) 0 k now)) ∧ Hid (OB wr Wi.heap.size (.slice An N cn) now) ∧ Hid (Below Wi.heap.size Wi wr)) (fun _ u _ => I + 2 - (intOf u).toNat)
                        case atStart => exact ⟨0, An, cn, rfl, rfl, Nat.zero_le _, HON, HON, HBN⟩
                        case round =>
                          clear HON HBN
                          obtain ⟨k, A, c, rfl, rfl, hk, HOE, HON, HBN⟩ := hrel
                          have e3 := (HBXi.out.below HBN.out hwl).cell 3 _ rfl
                          have zb := pw_cell_below HBN.out HZB.out
                          by_cases hltk : k ≤ I
                          · obtain ⟨x, hx⟩ : ∃ x, x = runL (chs90 cs) (i : Int) 0 k now := ⟨_, rfl⟩
                            have hxl : x.length = N := by rw [hx, runL_length, HNL.out]
                            have hrs := runL_snoc (chs90 cs) (i : Int) k 0 now
                            rw [← hx, Nat.zero_add] at hrs
                            rw [← hx] at HOE
                            obtain ⟨Ae, ce, hve, hce, hCe⟩ := OB.reads HOE.out
                            rw [hxl] at hve hce
                            injection hve with hv1 hv2 hv3
                            subst hv1 hv3
                            have hst := rstep_any A c x Al cl cs (i : Int) (k : Int) wr hCe (by rw [hxl]; exact hce) (Kd.C_below HCs.out (below_then (below_then HLQ.out HLQ.out.size HBQ.out) (by have := HBXi.out.lt; have := (below_then HLQ.out HLQ.out.size HBQ.out).size; omega) HBN.out)) (by omega)
                            rw [hxl] at hst
                            have HST := Lib.hid hst
                            have HRS := Lib.hid hrs
                            have HXL := Lib.hid hxl
                            have hik : (k : Int) ≤ (I : Int) := by omega
                            clear hx hrs hv2 hce hCe hst hxl
                            go_wp2_with fail
                            refine HST.out.mono ?_
                            rintro e w9 ⟨v9, rfl, ho9, hb9⟩
                            obtain ⟨A9, c9, rfl⟩ : ∃ A c, v9 = .slice A N c := by
                              obtain ⟨A, c, h⟩ := own_slice ho9
                              exact ⟨A, c, by rw [h, stepL_length, HXL.out]⟩
                            have HOE9 : Hid (OB w9 Wi.heap.size (.slice A9 N c9) (runL (chs90 cs) (i : Int) 0 (k + 1) now)) := Lib.hid (by rw [HRS.out]; exact own_weaken ho9 HBN.out.size)
                            have HON9 := Lib.hid (pw_own_below HON.out hb9)
                            have HBN9 := Lib.hid (below_then HBN.out HBN.out.size hb9)
                            clear ho9 hb9 HST HOE HON HBN e3 zb
                            go_wp2_with fail
                            go_roundw
                            case rel => exact ⟨k + 1, A9, c9, rfl, by go_num, by omega, HOE9, HON9, HBN9⟩
                            case measure => first | (simp [intOf]; omega) | (simp [intOf]; done)
                          · obtain rfl : k = I + 1 := by omega
                            have hik : ¬ (((I + 1 : Nat) : Int) ≤ (I : Int)) := by omega
                            rw [← HLV.out] at HOE
                            clear hltk hk
                            go_wp2_with fail
                            go_meet
                            case rel => exact ⟨A, c, rfl, HOE, HON, HBN⟩
                      case rest =>
                        clear HON HBN
                        obtain ⟨Ae, ce, rfl, HOE, HON, HBN⟩ := hcut
                        obtain ⟨wx, rfl⟩ : ∃ x, x = wc := ⟨wc, rfl⟩
                        obtain ⟨ua, hua, hoa⟩ := HFS.out.at_.get hlti
                        obtain ⟨ub, hub, hob⟩ := HFS.out.out.get hlti
                        obtain ⟨Aa, ca, rfl⟩ : ∃ A c, ua = .slice A N c := by
                          obtain ⟨A, c, h⟩ := own_slice hoa
                          exact ⟨A, c, by rw [h, HR.out.q.alen]⟩
                        obtain ⟨Ab, cb, rfl⟩ : ∃ A c, ub = .slice A N c := by
                          obtain ⟨A, c, h⟩ := own_slice hob
                          exact ⟨A, c, by rw [h, HR.out.q.phi.len]⟩
                        have hll := leave_length (bs := bksOf l03) (cs := chs90 cs) (start := start) (e := every) HR.out.q.phi.len i
                        have za := pw_cell_below HBN.out (HFS.out.at_.cell hua)
                        have zb := pw_cell_below HBN.out (HFS.out.out.cell hub)
                        have HS1 : Hid (∀ W, Below wx.heap.size wx W → Calls Try.prog 26 #[.slice An N cn, .slice Aa N ca] W fun e w' => e = .returned (.bool (decide (now = a i))) ∧ Drawn0 W w') := Lib.hid (fun W hW => by
                          obtain ⟨A1, c1, h1, _, h1C⟩ := OB.reads (pw_own_below HON.out hW)
                          obtain ⟨A2, c2, h2, _, h2C⟩ := OB.reads (pw_own_below (pw_own_below hoa HBN.out) hW)
                          rw [HNL.out] at h1
                          rw [HR.out.q.alen] at h2
                          injection h1 with h11 _ h13
                          injection h2 with h21 _ h23
                          subst h11 h13 h21 h23
                          have h := rsame_any W An Aa cn ca now (a i) h1C h2C (by rw [HNL.out, HR.out.q.alen])
                          rwa [HNL.out, HR.out.q.alen] at h)
                        have HS2 : Hid (∀ W, Below wx.heap.size wx W → Calls Try.prog 26 #[.slice Ae N ce, .slice Ab N cb] W fun e w' => e = .returned (.bool (decide (leaveL (bksOf l03) (chs90 cs) N start every o i = o i))) ∧ Drawn0 W w') := Lib.hid (fun W hW => by
                          obtain ⟨A1, c1, h1, _, h1C⟩ := OB.reads (pw_own_below HOE.out hW)
                          obtain ⟨A2, c2, h2, _, h2C⟩ := OB.reads (pw_own_below (pw_own_below hob HBN.out) hW)
                          rw [hll] at h1
                          rw [HR.out.q.phi.len] at h2
                          injection h1 with h11 _ h13
                          injection h2 with h21 _ h23
                          subst h11 h13 h21 h23
                          have h := rsame_any W Ae Ab ce cb (leaveL (bksOf l03) (chs90 cs) N start every o i) (o i) h1C h2C (by rw [hll, HR.out.q.phi.len])
                          rwa [hll, HR.out.q.phi.len] at h)
                        have HMV : Hid (∀ W, Below wx.heap.size wx W → FS Wq ((W.setCell ⟨Wq.heap.size, i, none⟩ (.slice An N cn)).setCell ⟨Wq.heap.size + 1, i, none⟩ (.slice Ae N ce)) l03.length (va.set i (.slice An N cn)) (vo.set i (.slice Ae N ce)) (upd a i now) (upd o i (leaveL (bksOf l03) (chs90 cs) N start every o i)) ∧ W.cell? ⟨Wq.heap.size, i, none⟩ = some (.slice Aa N ca) ∧ W.frozen? ⟨Wq.heap.size, i, none⟩ = false ∧ (W.setCell ⟨Wq.heap.size, i, none⟩ (.slice An N cn)).cell? ⟨Wq.heap.size + 1, i, none⟩ = some (.slice Ab N cb) ∧ (W.setCell ⟨Wq.heap.size, i, none⟩ (.slice An N cn)).frozen? ⟨Wq.heap.size + 1, i, none⟩ = false) := Lib.hid (fun W hW => by
                          have f0 := (HFS.out.below HBN.out).below hW
                          have on := own_weaken' (pw_own_below HON.out hW) HFS.out.big
                          have oe := own_weaken' (pw_own_below HOE.out hW) HFS.out.big
                          have f1 := f0.setA (i := i) on
                          have oe1 := oe.far (i := i) (show Wq.heap.size < Wq.heap.size + 2 by omega) (.slice An N cn)
                          exact ⟨f1.setO (i := i) oe1, f0.at_.cell hua, f0.at_.frozen, f1.out.cell hub, f1.out.frozen⟩)
                        by_cases h1 : now = a i
                        · rw [show decide (now = a i) = true from decide_eq_true h1] at HS1
                          by_cases h2 : leaveL (bksOf l03) (chs90 cs) N start every o i = o i
                          · rw [show decide (leaveL (bksOf l03) (chs90 cs) N start every o i = o i) = true from decide_eq_true h2] at HS2
                            have HR2 := Lib.hid (HR.out.same (by rw [← HNOW.out]; exact h1) h2)
                            have HE1 := Lib.hid h1
                            have HE2 := Lib.hid h2
                            clear h1 h2
                            go_wp2_with fail
                            refine (HS1.out wx (Below.refl _ _)).mono ?_
                            rintro e w9 ⟨rfl, hd9⟩
                            replace zb := pw_cell_below hd9.below zb
                            have HB9 := Lib.hid hd9.below
                            clear hd9 za
                            go_wp2_with fail
                            refine (HS2.out w9 HB9.out).mono ?_
                            rintro e Wy ⟨rfl, hd10⟩
                            obtain ⟨hf, hcz, hfz, hcz2, hfz2⟩ := HMV.out Wy (below_then HB9.out HB9.out.size hd10.below)
                            have HFN := Lib.hid hf
                            clear hf HMV HS1 HS2 zb hd10
                            go_wp2_with fail
                            go_roundw
                            case rel => exact ⟨ch, i + 1, _, _, a, o, rfl, by go_num, by omega, Lib.hid (by have h := HFN.out; rw [HE1.out, HE2.out, upd_same, upd_same] at h; exact h), HR2⟩
                            case measure => first | (simp [intOf]; omega) | (simp [intOf]; done)
                          · rw [show decide (leaveL (bksOf l03) (chs90 cs) N start every o i = o i) = false from decide_eq_false h2] at HS2
                            have HR2 := Lib.hid (HR.out.other HRC.out (fun h => h2 h.2))
                            rw [← HNOW.out] at HR2
                            clear h1 h2
                            go_wp2_with fail
                            refine (HS1.out wx (Below.refl _ _)).mono ?_
                            rintro e w9 ⟨rfl, hd9⟩
                            replace zb := pw_cell_below hd9.below zb
                            have HB9 := Lib.hid hd9.below
                            clear hd9 za
                            go_wp2_with fail
                            refine (HS2.out w9 HB9.out).mono ?_
                            rintro e Wy ⟨rfl, hd10⟩
                            obtain ⟨hf, hcz, hfz, hcz2, hfz2⟩ := HMV.out Wy (below_then HB9.out HB9.out.size hd10.below)
                            have HFN := Lib.hid hf
                            clear hf HMV HS1 HS2 zb hd10
                            go_wp2_with fail
                            go_roundw
                            case rel => exact ⟨true, i + 1, _, _, _, _, rfl, by go_num, by omega, HFN, HR2⟩
                            case measure => first | (simp [intOf]; omega) | (simp [intOf]; done)
                        · rw [show decide (now = a i) = false from decide_eq_false h1] at HS1
                          have HR2 := Lib.hid (HR.out.other HRC.out (fun h => h1 (by rw [HNOW.out]; exact h.1)))
                          rw [← HNOW.out] at HR2
                          clear h1
                          go_wp2_with fail
                          refine (HS1.out wx (Below.refl _ _)).mono ?_
                          rintro e Wy ⟨rfl, hd10⟩
                          obtain ⟨hf, hcz, hfz, hcz2, hfz2⟩ := HMV.out Wy hd10.below
                          have HFN := Lib.hid hf
                          clear hf HMV HS1 HS2 zb za hd10
                          go_wp2_with fail
                          go_roundw
                          case rel => exact ⟨true, i + 1, _, _, _, _, rfl, by go_num, by omega, HFN, HR2⟩
                          case measure => first | (simp [intOf]; omega) | (simp [intOf]; done)
              · obtain rfl : i = l03.length := by omega
                clear hlti hi
                go_wp2_with fail
                go_roundg P
                case measure => exact hlt
                case rel => exact ⟨ch, va, vo, a, o, rfl, HFS, Lib.hid HR.out.q, Lib.hid (fun h => HR.out.less h), Lib.hid (fun h k hk => by subst h; have h2 := HR.out; rw [← HBL.out] at h2; exact h2.done hk)⟩
      case rest =>
        clear HFS HQ0
        obtain ⟨va, vo, a, o, HFS, HA⟩ := hcut
        obtain ⟨W8, rfl⟩ : ∃ x, x = wc := ⟨wc, rfl⟩
        have HBQ := Lib.hid HFS.out.low
        have HBX8 := Lib.hid (HBXQ.out.below HBQ.out HBXQ.out.lt)
        have HL8 := Lib.hid (below_then HLQ.out HLQ.out.size HBQ.out)
        have e3 := HBX8.out.cell 3 _ rfl
        have hwl : w.heap.size < W8.heap.size := HBX8.out.lt
        have hmk : ∀ W : World, (Instr.makeSlice 31 (.int .i64 l03.length) (.int .i64 l03.length)).run Try.prog W = .ok (.slice (some ⟨W.heap.size, 0, none⟩) l03.length l03.length) (W.alloc (.cells (madeCells #[.slice none 0 0] l03.length) 44)) := fun W => run_make_row' (P := Try.prog) 31 44 (.slice none 0 0) 24 Try.underlying31 info44 rfl .i64 .i64 l03.length (by omega) (by omega) W
        have HG0 : Hid (BoxIs (W8.alloc (.cells (madeCells #[.slice none 0 0] l03.length) 44)) W8.heap.size (List.replicate l03.length (Value.slice none 0 0)).toArray 44) := Lib.hid (by
          have h := heap_alloc_new W8 (.cells (madeCells #[.slice none 0 0] l03.length) 44)
          unfold BoxIs
          rw [h]
          congr 2
          refine Array.ext (by simp [madeCells]) (fun i h1 h2 => by simp [madeCells, Nat.mod_one]))
        have HB0 : Hid (Below W8.heap.size W8 (W8.alloc (.cells (madeCells #[.slice none 0 0] l03.length) 44))) := Lib.hid (below_alloc (Below.refl _ _) _)
        go_wp2_with fail
        clear hmk e3
        generalize W8.alloc (.cells (madeCells #[.slice none 0 0] l03.length) 44) = w9 at *
        go_loopw [27] (fun u27 wr => ∃ (i : Nat) (us : List Value), u27 = .int .i64 i ∧ i ≤ l03.length ∧ us.length = l03.length ∧ Hid (BoxIs wr W8.heap.size us.toArray 44) ∧ Hid (Below W8.heap.size W8 wr) ∧ Hid (∀ (t : Nat) (u : Value) (xss : List (List Bool)), t < i → us[t]? = some u → (flowL (bksOf l03) N start (chs90 cs) every)[t]? = some xss → ∃ vs, Q2 wr W8.heap.size u vs xss) ∧ Hid (∀ t, i ≤ t → t < l03.length → us[t]? = some (.slice none 0 0))) (fun u _ => l03.length - (intOf u).toNat)
        case atStart => exact ⟨0, _, rfl, Nat.zero_le _, by simp, HG0, HB0, Lib.hid (fun t u xss h => by omega), Lib.hid (fun t _ h => by simp [h])⟩
        case round =>
          clear HG0 HB0
          obtain ⟨i, us, rfl, hi, hul, HG, HBr, HQ2, HNI⟩ := hrel
          obtain ⟨Wi, rfl⟩ : ∃ x, x = wr := ⟨wr, rfl⟩
          by_cases hlti : i < l03.length
          · have hor := pw_own_below HOQ.out (below_then HBQ.out HBQ.out.size HBr.out)
            obtain ⟨gr, rfl, hcr⟩ := OB.at2 hor (show (reachL (bksOf l03))[i]? = some (rchB (bksOf l03) i) by simp [reachL, HBL.out, hlti])
            clear hor
            cases hrb : rchB (bksOf l03) i with
            | false =>
              rw [hrb] at hcr
              have HQ3 : Hid (∀ (t : Nat) (u : Value) (xss : List (List Bool)), t < i + 1 → us[t]? = some u → (flowL (bksOf l03) N start (chs90 cs) every)[t]? = some xss → ∃ vs, Q2 Wi W8.heap.size u vs xss) := Lib.hid (fun t u xss h1 h2 h3 => by
                by_cases e1 : t = i
                · subst e1
                  rw [HNI.out t (Nat.le_refl _) hlti] at h2
                  obtain rfl := Option.some.inj h2
                  obtain ⟨_, rfl⟩ := flowL_get h3
                  rw [if_neg (by rw [hrb]; decide)]
                  exact ⟨[], Q2.nil _ _⟩
                · exact HQ2.out t u xss (by omega) h2 h3)
              clear hrb HQ2
              go_wp2_with fail
              go_roundw
              case rel => exact ⟨i + 1, us, by go_num, by omega, hul, HG, HBr, HQ3, Lib.hid (fun t h1 h2 => HNI.out t (by omega) h2)⟩
              case measure => first | (simp [intOf]; omega) | (simp [intOf]; done)
            | true =>
              rw [hrb] at hcr
              obtain ⟨ua, hua, hoa⟩ := HFS.out.at_.get hlti
              have hai : a i = inL (bksOf l03) N start (chs90 cs) every i := HA.out i (rchB_iff.1 hrb)
              obtain ⟨now, hnow⟩ : ∃ now, now = inL (bksOf l03) N start (chs90 cs) every i := ⟨_, rfl⟩
              rw [hai, ← hnow] at hoa
              have hnl : now.length = N := by rw [hnow, inL_length]
              obtain ⟨An, cn, rfl⟩ : ∃ A c, ua = .slice A N c := by
                obtain ⟨A, c, h⟩ := own_slice hoa
                exact ⟨A, c, by rw [h, hnl]⟩
              have za := pw_cell_below HBr.out (HFS.out.at_.cell hua)
              have HON : Hid (OB Wi 0 (.slice An N cn) now) := Lib.hid (own_weaken (pw_own_below hoa HBr.out) (Nat.zero_le _))
              have HNG : Hid (∀ b, (Value.slice An N cn).ownBlock = some b → b ≠ W8.heap.size) := Lib.hid (fun b hb => by have := own_lt hoa b hb; omega)
              have hgi : W8.heap.size < Wi.heap.size := HG.out.lt
              have HQI : Hid (QI Wi Wi W8.heap.size i us (.slice none 0 0) [] []) := Lib.hid ⟨KeepBut.refl _ _ _, by
                have h := HNI.out i (Nat.le_refl _) hlti
                rw [show us.set i (.slice none 0 0) = us from by
                  apply List.ext_getElem?
                  intro j
                  by_cases e1 : i = j
                  · subst e1
                    rw [List.getElem?_set_self (by omega), h]
                  · rw [List.getElem?_set_ne e1]]
                exact HG.out, Q2.nil _ _, fun b hb => by simp [Value.ownBlock] at hb⟩
              have hzu := HQI.out.cell (by omega)
              obtain ⟨ad, A0, d0, A16, d16, hA, hcc, _, _⟩ := bk_at HC.out i hlti
              subst hA
              have hI := (fewB_at HF.out).2 (rd_T58 l03 i) (by simp [rd_T58, List.getElem?_eq_getElem hlti, List.getD_eq_getElem?_getD])
              have hzb := pw_cell_below HL8.out hcc
              have HFL : Hid (∀ xss, (flowL (bksOf l03) N start (chs90 cs) every)[i]? = some xss → xss = statesL (chs90 cs) (i : Int) 0 ((rd_T58 l03 i).f0.length + 1) now) := Lib.hid (fun xss h => by
                obtain ⟨_, rfl⟩ := flowL_get h
                rw [if_pos hrb, hnow, insN, rd_T58_get hlti]
                rfl)
              obtain ⟨I, hIe⟩ : ∃ I, I = (rd_T58 l03 i).f0.length := ⟨_, rfl⟩
              rw [← hIe] at hzb hI HFL
              have hi30 : I ≤ 30 := hI.1
              have HZB := Lib.hid hzb
              have HNL := Lib.hid hnl
              have hiu : i < us.length := by omega
              have h8i : W8.heap.size ≤ Wi.heap.size := Nat.le_of_lt hgi
              clear hrb hai hnow hoa hnl hua hcc hI hIe hzb
              go_wp2_with (first | (at_builtin; refine print_append (w0 := Wi) (W8.heap.size + 1) rfl (.tmp 226) (.tmp 228) 44 26 (.slice none 0 0) 24 rfl Try.underlying44 info26 rfl (by decide) (.slice none 0 0) ([] : List Value) (.slice An N cn) rfl rfl rfl HQI.out.q.1 (Below.refl _ _) (by omega) (by simp) ?_; intro v5 w5 ho5 hb5 hg5 hat5; obtain ⟨A5, c5, rfl⟩ : ∃ A c, v5 = .slice A 1 c := (by obtain ⟨A, c, h⟩ := own_slice ho5; exact ⟨A, c, by rw [h]; simp⟩); obtain ⟨hcz, hfz⟩ := HQI.out.after hiu hb5; have HQ5 := Lib.hid (HQI.out.append HON.out HNG.out ho5 hb5 hg5 hat5); have HB5 := Lib.hid (below_set (j := i) (HBr.out.grown hg5 HBr.out.size (fun b hb => Nat.le_trans h8i (HQI.out.new b hb))) (Nat.le_refl _) (.slice A5 1 c5)); have HON5 := Lib.hid (HQI.out.moved HON.out HNG.out hg5 (.slice A5 1 c5)); clear ho5 hb5 hg5 hat5 HQI HBr HON))
              clear hcz hfz hzu za hcr
              generalize w5.setCell ⟨W8.heap.size, i, none⟩ (.slice A5 1 c5) = w6 at *
              go_loopw [28, 29] (fun u28 u29 wr => ∃ (k : Nat) (A : Option Addr) (c : Nat) (A5 : Option Addr) (c5 : Nat) (vs : List Value), u28 = .slice A N c ∧ u29 = .int .i64 k ∧ k ≤ I + 1 ∧ vs.length = k + 1 ∧ Hid (OB wr 0 (.slice A N c) (runL (chs90 cs) (i : Int) 0 k now)) ∧ Hid (∀ b, (Value.slice A N c).ownBlock = some b → b ≠ W8.heap.size) ∧ Hid (Below W8.heap.size W8 wr) ∧ Hid (QI Wi wr W8.heap.size i us (.slice A5 (k + 1) c5) vs (statesL (chs90 cs) (i : Int) 0 k now))) (fun _ u _ => I + 2 - (intOf u).toNat)
              case atStart => exact ⟨0, An, cn, A5, c5, _, rfl, rfl, Nat.zero_le _, rfl, HON5, HNG, HB5, HQ5⟩
              case round =>
                clear HON5 HNG HB5 HQ5
                obtain ⟨k, A, c, A5, c5, vs, rfl, rfl, hk, hvl, HON, HNG, HBr, HQI⟩ := hrel
                have e3 := (HBX8.out.below HBr.out hwl).cell 3 _ rfl
                have zb := pw_cell_below HBr.out HZB.out
                by_cases hltk : k ≤ I
                · obtain ⟨x, hx⟩ : ∃ x, x = runL (chs90 cs) (i : Int) 0 k now := ⟨_, rfl⟩
                  have hxl : x.length = N := by rw [hx, runL_length, HNL.out]
                  have hrs := runL_snoc (chs90 cs) (i : Int) k 0 now
                  rw [← hx, Nat.zero_add] at hrs
                  have hss := statesL_snoc (chs90 cs) (i : Int) k 0 now
                  rw [hrs] at hss
                  rw [← hx] at HON
                  obtain ⟨Ae, ce, hve, hce, hCe⟩ := OB.reads HON.out
                  rw [hxl] at hve hce
                  injection hve with hv1 hv2 hv3
                  subst hv1 hv3
                  have hst := rstep_any A c x Al cl cs (i : Int) (k : Int) wr hCe (by rw [hxl]; exact hce) (Kd.C_below HCs.out (below_then HL8.out HL8.out.size HBr.out)) (by omega)
                  rw [hxl] at hst
                  have HST := Lib.hid hst
                  have HRS := Lib.hid hrs
                  have HSS := Lib.hid hss
                  have HXL := Lib.hid hxl
                  have hik : (k : Int) ≤ (I : Int) := by omega
                  clear hx hrs hss hv2 hce hCe hst hxl HON HNG
                  go_wp2_with fail
                  refine HST.out.mono ?_
                  rintro e w9 ⟨v9, rfl, ho9, hb9⟩
                  obtain ⟨A9, c9, rfl⟩ : ∃ A c, v9 = .slice A N c := by
                    obtain ⟨A, c, h⟩ := own_slice ho9
                    exact ⟨A, c, by rw [h, stepL_length, HXL.out]⟩
                  have HON : Hid (OB w9 0 (.slice A9 N c9) (stepL (chs90 cs) (i : Int) (k : Int) x)) := Lib.hid (own_weaken ho9 (Nat.zero_le _))
                  have hgw : W8.heap.size < wr.heap.size := HQI.out.box.lt
                  have HNG : Hid (∀ b, (Value.slice A9 N c9).ownBlock = some b → b ≠ W8.heap.size) := Lib.hid (fun b hb => by have := own_base ho9 b hb; omega)
                  have HBr9 := Lib.hid (below_then HBr.out HBr.out.size hb9)
                  have HQI9 := Lib.hid (HQI.out.below hb9)
                  have hg9 : W8.heap.size < w9.heap.size := Nat.lt_of_lt_of_le hgw hb9.size
                  clear ho9 hb9 HST HQI HBr e3 zb
                  have HQI := HQI9
                  have HBr := HBr9
                  clear HQI9 HBr9
                  have hzu := HQI.out.cell hiu
                  go_wp2_with (first | (at_builtin; refine print_append (w0 := w9) (W8.heap.size + 1) rfl (.tmp 252) (.tmp 254) 44 26 (.slice none 0 0) 24 rfl Try.underlying44 info26 rfl (by decide) (.slice A5 (k + 1) c5) vs (.slice A9 N c9) rfl rfl rfl HQI.out.q.1 (Below.refl _ _) (by omega) (by omega) ?_; intro v5 w5 ho5 hb5 hg5 hat5; obtain ⟨A5, c5, rfl⟩ : ∃ A c, v5 = .slice A (k + 1 + 1) c := (by obtain ⟨A, c, h⟩ := own_slice ho5; exact ⟨A, c, by rw [h]; simp [hvl]⟩); obtain ⟨hcz, hfz⟩ := HQI.out.after hiu hb5; have HQ5 := Lib.hid (HQI.out.append HON.out HNG.out ho5 hb5 hg5 hat5); have HB5 := Lib.hid (below_set (j := i) (HBr.out.grown hg5 HBr.out.size (fun b hb => Nat.le_trans h8i (HQI.out.new b hb))) (Nat.le_refl _) (.slice A5 (k + 1 + 1) c5)); have HON5 := Lib.hid (HQI.out.moved HON.out HNG.out hg5 (.slice A5 (k + 1 + 1) c5)); clear ho5 hb5 hg5 hat5 HQI HBr HON))
                  go_roundw
                  case rel => exact ⟨k + 1, A9, c9, A5, c5, vs ++ [.slice A9 N c9], rfl, by go_num, by omega, by simp [hvl], Lib.hid (by rw [HRS.out]; exact HON5.out), HNG, HB5, Lib.hid (by rw [HSS.out]; exact HQ5.out)⟩
                  case measure => first | (simp [intOf]; omega) | (simp [intOf]; done)
                · obtain rfl : k = I + 1 := by omega
                  have hik : ¬ (((I + 1 : Nat) : Int) ≤ (I : Int)) := by omega
                  have HQ3 : Hid (∀ (t : Nat) (u : Value) (xss : List (List Bool)), t < i + 1 → (us.set i (.slice A5 (I + 1 + 1) c5))[t]? = some u → (flowL (bksOf l03) N start (chs90 cs) every)[t]? = some xss → ∃ vs, Q2 wr W8.heap.size u vs xss) := Lib.hid (fun t u xss h1 h2 h3 => by
                    by_cases e1 : i = t
                    · subst e1
                      rw [List.getElem?_set_self hiu] at h2
                      obtain rfl := Option.some.inj h2
                      rw [HFL.out xss h3]
                      exact ⟨vs, HQI.out.q⟩
                    · rw [List.getElem?_set_ne e1] at h2
                      obtain ⟨ws, hw⟩ := HQ2.out t u xss (by omega) h2 h3
                      exact ⟨ws, hw.keep HQI.out.keep⟩)
                  have HG3 := Lib.hid HQI.out.box
                  clear hltk hk HQI HQ2
                  go_wp2_with fail
                  go_roundw
                  case rel => exact ⟨i + 1, us.set i (.slice A5 (I + 1 + 1) c5), by go_num, by omega, by rw [List.length_set]; exact hul, HG3, HBr, HQ3, Lib.hid (fun t h1 h2 => by rw [List.getElem?_set_ne (by omega)]; exact HNI.out t (by omega) h2)⟩
                  case measure => first | (simp [intOf]; omega) | (simp [intOf]; done)
          · obtain rfl : i = l03.length := by omega
            clear hlti hi
            go_wp2_with fail
            go_ret
            refine ⟨_, us, rfl, ⟨HG.out, by rw [hul, flowL_length, HBL.out], fun t u xss h1 h2 => ?_⟩, below_then HL8.out HL8.out.size HBr.out⟩
            rw [← HNN.out] at h2
            exact HQ2.out t u xss (by have := (List.getElem?_eq_some_iff.1 h1).1; omega) h1 h2
end Go.Proofs.Ythgnbeeobhfeaaa.T
end
