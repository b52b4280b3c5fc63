/- Walks: words are copied. -/
import Derived.Test.YtkgiddpeaebdfaaW10
namespace Go.Proofs.Ytkgiddpeaebdfaa
open Go.RowKit

theorem copyW (w : World) (ty : TypeId) (b o dLen dCap : Nat) (a : Addr) (sLen sCap k : Nat) (cs : List Value) (hk : k = Nat.min sLen dLen) (hl : cs.length = k * 3)
    (hsrc : ∀ j v, cs[j]? = some v → w.cell? (a.add j) = some v) (hc : ∀ j, j < cs.length → (w.cell? ⟨b, o + j, none⟩).isSome = true) (hf : ∀ j, j < cs.length → w.frozen? ⟨b, o + j, none⟩ = false) (h1 : ∀ v ∈ cs, v.oneCell' = true) :
    (Builtin.copy_ #[29, 29] ty #[.slice (some ⟨b, o, none⟩) dLen dCap, .slice (some a) sLen sCap]).run Try.prog w = .ok (goInt k) (w.setCells b o cs) := by
  have hl' := run_loadCells_list (P := Try.prog) w a cs hsrc
  have hst := run_storeCells_cells (P := Try.prog) b o cs 0 w (by simpa using hc) (by simpa using hf) h1
  obtain ⟨i, hi, hz, hs, hb⟩ := info_parts Try.info23
  rw [hl] at hl'
  simp [Builtin.copy_, run_underlying Try.underlying29, Builtin.lenOf, Builtin.firstCells, sizeOf, typeInfo, hi, hs, ← hk, hl', hst]

theorem copyNone (w : World) (t e ty : TypeId) (d a : Option Addr) (dLen dCap sLen sCap : Nat) (s : Nat) (z : Value) (by' : Nat) (hu : Try.prog.underlying t = some (.slice e)) (hinfo : (Try.prog.info? e).map (fun i => (i.zero, i.size, i.bytes)) = some (some z, s, by'))
    (hn : sLen = 0) :
    (Builtin.copy_ #[t, t] ty #[.slice d dLen dCap, .slice a sLen sCap]).run Try.prog w = .ok (goInt 0) w := by
  subst hn
  obtain ⟨i, hi, hz, hs, hb⟩ := info_parts hinfo
  have hl : ∀ (x : Addr), (loadCells x 0).run Try.prog w = .ok #[] w := fun x => by simpa using run_loadCells_list (P := Try.prog) w x [] (by simp)
  cases d <;> cases a <;> simp [Builtin.copy_, run_underlying hu, Builtin.lenOf, Builtin.firstCells, sizeOf, typeInfo, hi, storeCells, hl]

section
variable {S : Me} {b : Bool} {a n : Int}
theorem loads_succ (t : Nat) : S.loads b a n (t + 1) = S.loads b a n t ++ [S.loadW b a (n + t)] := by simp [Me.loads, List.range_succ]
theorem loads_length (t : Nat) : (S.loads b a n t).length = t := by simp [Me.loads]

theorem loadsE_pre (t r : Nat) (h : ∀ i : Nat, i < t → S.loadE b a (n + i) = 0) : S.loadsE b a n (t + r) = S.loadsE b a (n + t) r := by
  induction t generalizing n with
  | zero => simp
  | succ t ih =>
    have h0 := h 0 (by omega)
    have := ih (n := n + 1) (fun i hi => by have := h (i + 1) (by omega); rw [← this]; congr 1; omega)
    rw [show t + 1 + r = (t + r) + 1 by omega, Me.loadsE, if_neg (by simpa using h0), this]
    congr 1
    omega
theorem loadsE_bad {t k : Nat} (h : ∀ i : Nat, i < t → S.loadE b a (n + i) = 0) (ht : t < k) (he : S.loadE b a (n + t) ≠ 0) : S.loadsE b a n k = S.loadE b a (n + t) := by
  obtain ⟨r, rfl⟩ : ∃ r, k = t + (r + 1) := ⟨k - t - 1, by omega⟩
  rw [loadsE_pre t (r + 1) h, Me.loadsE, if_pos he]
theorem loadsE_ok {k : Nat} (h : ∀ i : Nat, i < k → S.loadE b a (n + i) = 0) : S.loadsE b a n k = 0 := by
  have := loadsE_pre k 0 h
  simpa [Me.loadsE] using this

theorem loadE_zero (h : S.loadE b a n = 0) : S.pieceE b a n 1 = 0 := by
  unfold Me.loadE at h
  split at h
  · rename_i h1; exact absurd h h1
  · rename_i h1; simpa using h1
end

/-- What a round of Copy's loop keeps. -/
structure Cp (W wr : World) (S : Me) (tb : Bool) (ta tn : Int) (fb : Bool) (fa fn : Int) (t : Nat) (lv : Value) : Prop where
  ok : ∀ i : Nat, i < t → S.loadE fb fa (fn + i) = 0
  row : wr.ownsRow (W.heap.size + 2) 23 3 lv t (wcells (S.loads fb fa fn t))
  bto : wr.heap[W.heap.size]? = some (.cells #[.bool tb, .int .i64 ta, .int .i64 tn] 23 (0, 0))
  bfr : wr.heap[W.heap.size + 1]? = some (.cells #[.bool fb, .int .i64 fa, .int .i64 (fn + t)] 23 (0, 0))
  old : Below W.heap.size W wr

theorem ow_lt {w : World} {base : Nat} {e : TypeId} {size n : Nat} {v : Value} {xs : List Value} (h : w.ownsRow base e size v n xs) (k : Nat) (hk : v.ownBlock = some k) : base ≤ k ∧ ∃ cells, w.heap[k]? = some (.cells cells e (0, 0)) := by
  obtain ⟨_, ⟨rfl, _⟩ | ⟨g, cap, cur, hv, hb, hh, _⟩⟩ := h
  · simp [Value.ownBlock] at hk
  · rw [hv] at hk
    simp [Value.ownBlock] at hk
    exact hk ▸ ⟨hb, _, hh⟩
theorem ow_below {w w1 : World} {base : Nat} {e : TypeId} {size n : Nat} {v : Value} {xs : List Value} (h : w.ownsRow base e size v n xs) (hb : Below w.heap.size w w1) : w1.ownsRow base e size v n xs :=
  own_move h (fun k hk => hb.block k (blk_lt (ow_lt h k hk).2.choose_spec))
theorem ow_slice {w : World} {base : Nat} {e : TypeId} {size n : Nat} {v : Value} {xs : List Value} (h : w.ownsRow base e size v n xs) : ∃ A c, v = .slice A n c := by
  obtain ⟨_, ⟨rfl, rfl⟩ | ⟨g, cap, cur, hv, _⟩⟩ := h
  · exact ⟨_, _, rfl⟩
  · exact ⟨_, _, hv⟩
theorem ow_at {w : World} {base : Nat} {e : TypeId} {size n : Nat} {A : Option Addr} {c : Nat} {xs : List Value} (h : w.ownsRow base e size (.slice A n c) n xs) (h0 : 0 < n) :
    ∃ g, A = some ⟨g, 0, none⟩ ∧ base ≤ g ∧ g < w.heap.size ∧ ∀ j u, xs[j]? = some u → w.cell? ⟨g, j, none⟩ = some u := by
  obtain ⟨hl, ⟨_, rfl⟩ | ⟨g, cap, cur, hv, hb, hh, _, _, _, ht⟩⟩ := h
  · omega
  · injection hv with hv
    refine ⟨g, hv, hb, blk_lt hh, fun j u hj => ?_⟩
    rw [blk_cell hh, ← Array.getElem?_toList]
    rw [← ht] at hj
    rw [List.getElem?_take] at hj
    split at hj
    · exact hj
    · cases hj

section
variable {W wr w' : World} {S : Me} {tb : Bool} {ta tn : Int} {fb : Bool} {fa fn : Int} {t : Nat} {lv : Value}
theorem Cp.below (h : Cp W wr S tb ta tn fb fa fn t lv) (hb : Below wr.heap.size wr w') : Cp W w' S tb ta tn fb fa fn t lv :=
  ⟨h.ok, ow_below h.row hb, (hb.block _ (blk_lt h.bto)).trans h.bto, (hb.block _ (blk_lt h.bfr)).trans h.bfr, h.old.trans (hb.mono h.old.size)⟩
theorem Cp.see (h : Cp W wr S tb ta tn fb fa fn t lv) : W.heap.size + 1 < wr.heap.size ∧ (∀ i, wr.cell? ⟨W.heap.size, i, none⟩ = (#[.bool tb, .int .i64 ta, .int .i64 tn] : Array Value)[i]?) ∧
    (∀ i, wr.cell? ⟨W.heap.size + 1, i, none⟩ = (#[.bool fb, .int .i64 fa, .int .i64 (fn + t)] : Array Value)[i]?) ∧ (∀ i, wr.frozen? ⟨W.heap.size, i, none⟩ = false) ∧ (∀ i, wr.frozen? ⟨W.heap.size + 1, i, none⟩ = false) :=
  ⟨blk_lt h.bfr, fun i => blk_cell h.bto i, fun i => blk_cell h.bfr i, fun i => blk_frozen h.bto i, fun i => blk_frozen h.bfr i⟩
theorem Cp.start {w : World} (hw : w = ((W.alloc (.cells #[.bool tb, .int .i64 ta, .int .i64 tn] 23)).alloc (.cells #[.bool fb, .int .i64 fa, .int .i64 fn] 23))) : Cp W w S tb ta tn fb fa fn 0 (.slice none 0 0) := by
  subst hw
  have h1 := heap_alloc_new W (.cells #[.bool tb, .int .i64 ta, .int .i64 tn] 23)
  have h2 := heap_alloc_new (W.alloc (.cells #[.bool tb, .int .i64 ta, .int .i64 tn] 23)) (.cells #[.bool fb, .int .i64 fa, .int .i64 fn] 23)
  refine ⟨fun i hi => absurd hi (Nat.not_lt_zero _), World.ownsRow_nil _ _ _ _, blk_alloc h1 _, ?_, ((below_alloc (Below.refl _ W) _).alloc (by simp) _)⟩
  simpa using h2

theorem Cp.frow {w1 : World} (h : Cp W wr S tb ta tn fb fa fn t lv) (grow : wr.grownBy w1 lv.ownBlock) : w1.heap[W.heap.size + 1]? = some (.cells #[.bool fb, .int .i64 fa, .int .i64 (fn + t)] 23 (0, 0)) :=
  (grow.block _ (blk_lt h.bfr) (fun e => by have := (ow_lt h.row _ e.symm).1; omega)).trans h.bfr

theorem Cp.push {w1 : World} {v : Value} (h : Cp W wr S tb ta tn fb fa fn t lv) (he : S.loadE fb fa (fn + t) = 0)
    (own : w1.ownsRow (W.heap.size + 2) 23 3 v (t + 1) (wcells (S.loads fb fa fn t) ++ [.bool (S.loadW fb fa (fn + t)).p, .int .i64 (S.loadW fb fa (fn + t)).a, .int .i64 (S.loadW fb fa (fn + t)).n]))
    (grow : wr.grownBy w1 lv.ownBlock) (hw' : w' = w1.setCell ⟨W.heap.size + 1, 2, none⟩ (.int .i64 (fn + t + 1))) : Cp W w' S tb ta tn fb fa fn (t + 1) v := by
  subst hw'
  have hne : ∀ k, k < W.heap.size + 2 → some k ≠ lv.ownBlock := fun k hk e => by have := (ow_lt h.row k e.symm).1; omega
  have b1 : w1.heap[W.heap.size]? = _ := (grow.block _ (blk_lt h.bto) (hne _ (by omega))).trans h.bto
  have b2 : w1.heap[W.heap.size + 1]? = _ := (grow.block _ (blk_lt h.bfr) (hne _ (by omega))).trans h.bfr
  refine ⟨?_, ?_, ?_, ?_, ?_⟩
  · intro i hi
    by_cases e : i = t
    · subst e; exact he
    · exact h.ok i (by omega)
  · rw [loads_succ, wcells_append]
    refine own_move own (fun k hk => Below.heap_setCell _ _ _ _ ?_)
    have := (ow_lt own k hk).1
    show k ≠ W.heap.size + 1
    omega
  · exact blk_far b1 (show W.heap.size ≠ W.heap.size + 1 by omega) _
  · have := blk_set b2 2 (.int .i64 (fn + t + 1))
    simpa [Int.add_assoc] using this
  · exact (h.old.grown grow (Nat.le_trans (Nat.le_refl _) h.old.size) (fun k hk => by have := (ow_lt h.row k hk).1; omega)).setCell (show W.heap.size ≤ W.heap.size + 1 by omega) _
end

theorem copy_neg {W : World} (g : Nat) (tb : Bool) (ta tn : Int) (fb : Bool) (fa fn n : Int) (hn : n < 0) :
    Calls Try.prog 22 #[.pointer (some ⟨g, 0, none⟩), .agg #[.bool tb, .int .i64 ta, .int .i64 tn], .agg #[.bool fb, .int .i64 fa, .int .i64 fn], .int .i64 n] W fun e W' =>
      e = .returned (.int .i64 1) ∧ Below W.heap.size W W' := by
  go_enter Try.func22, Try.ntmps22
  go_wp2
  go_ret
  exact ⟨rfl, by repeat (first | exact Below.refl _ _ | apply below_alloc | apply below_drewN)⟩

theorem setCells_size (b : Nat) : ∀ (vs : List Value) (o : Nat) (w : World), (w.setCells b o vs).heap.size = w.heap.size
  | [], _, _ => rfl
  | v :: r, o, w => by rw [World.setCells, setCells_size b r]; simp [World.setCell]

theorem wcells_one (l : List Wd) : ∀ v ∈ wcells l, v.oneCell' = true := by
  intro v hv
  simp [wcells] at hv
  obtain ⟨_, _, rfl | rfl | rfl⟩ := hv <;> rfl

theorem wcells_splice (l m : List Wd) (i : Nat) : splice (wcells l) (i * 3) (wcells m) = wcells (splice l i m) := by
  have t : ∀ (l : List Wd) (i : Nat), (wcells l).take (i * 3) = wcells (l.take i) ∧ (wcells l).drop (i * 3) = wcells (l.drop i) := by
    intro l
    induction l with
    | nil => simp [wcells]
    | cons x l ih =>
      intro i
      cases i with
      | zero => simp [wcells]
      | succ i =>
        have := ih i
        have e : (i + 1) * 3 = i * 3 + 3 := by omega
        simp [wcells, e] at this ⊢
        exact this
  rw [splice, splice, wcells_append, wcells_append, (t l i).1, wcells_length, ← Nat.add_mul, (t l (i + m.length)).2]

theorem copy_words {W w2 : World} {g : Nat} {L : Lay} {F : Nat → Prop} {S : Me} {tb : Bool} {ta : Int} {tn : Nat} {fb : Bool} {fa fn : Int} {n : Nat} {A : Option Addr} {c : Nat}
    (hc : Cp W w2 S tb ta tn fb fa fn n (.slice A n c)) (hm : MemAt w2 g L F S) (hI : S.Inv) (he : S.pieceE tb ta tn n = 0) (hn : 0 < n) :
    ∃ X, (∀ ty, (Builtin.copy_ #[29, 29] ty #[.slice (some ⟨L.I (ta.toNat - 1), tn * 3, none⟩) ((S.at ta).ws.length - tn) ((S.at ta).ws.length - tn), .slice A n c]).run Try.prog w2.drew = .ok (.int .i64 n) X) ∧
      X.heap[L.I (ta.toNat - 1)]? = some (.cells (wcells (splice (S.at ta).ws tn (S.loads fb fa fn n))).toArray 23 (0, 0)) ∧ (∀ k, k ≠ L.I (ta.toNat - 1) → X.heap[k]? = w2.heap[k]?) ∧ X.heap.size = w2.heap.size ∧ X.os = w2.os ∧ X.tape = w2.tape ∧ X.output = w2.output := by
  obtain ⟨rfl, h1, h2, h3, g1, g2, g3, hs, hlen, d1, d3, d4, q1, q2, r1, r2, hne⟩ := hm.grip hI he
  obtain ⟨gl, rfl, hb, hlt, hcells⟩ := ow_at hc.row hn
  have hll := loads_length (S := S) (b := fb) (a := fa) (n := fn) n
  have hwl := wcells_length (S.loads fb fa fn n)
  have q2' : w2.drew.heap[L.I (ta.toNat - 1)]? = _ := q2
  refine ⟨w2.drew.setCells (L.I (ta.toNat - 1)) (tn * 3) (wcells (S.loads fb fa fn n)), fun ty => ?_, ?_, ?_, ?_, ?_⟩
  · have := copyW w2.drew ty (L.I (ta.toNat - 1)) (tn * 3) ((S.at ta).ws.length - tn) ((S.at ta).ws.length - tn) ⟨gl, 0, none⟩ n c n (wcells (S.loads fb fa fn n)) (by simp [Nat.min_def]; omega) (by omega)
      (fun j v hj => by
        have e : (⟨gl, 0, none⟩ : Addr).add j = ⟨gl, j, none⟩ := by unfold Addr.add; split <;> simp_all
        rw [e]; exact hcells j v hj)
      (fun j hj => by
        have := wcells_length (S.at ta).ws
        rw [blk_cell q2']; simp; omega) (fun j _ => blk_frozen q2' _) (wcells_one _)
    simpa [goInt] using this
  · have := setCells_heap (L.I (ta.toNat - 1)) 23 (wcells (S.loads fb fa fn n)) (tn * 3) (wcells (S.at ta).ws) w2.drew q2 (by have := wcells_length (S.at ta).ws; omega)
    rw [wcells_splice] at this
    exact this
  · intro k hk
    exact setCells_o _ _ hk _ _ _
  · exact setCells_size _ _ _ _
  · have := setCells_kept (F := fun k => k = L.I (ta.toNat - 1)) (L.I (ta.toNat - 1)) rfl (wcells (S.loads fb fa fn n)) (tn * 3) (Kept.refl _ w2.drew)
    exact ⟨this.os, this.tape, this.output⟩

structure Copied (W w' : World) (L : Lay) (F : Nat → Prop) (S : Me) (ta : Int) (tn : Nat) (ws : List Wd) (n : Nat) : Prop where
  words : w'.heap[L.I (ta.toNat - 1)]? = some (.cells (wcells (splice (S.at ta).ws tn ws)).toArray 23 (0, 0))
  flags : w'.heap[L.J (ta.toNat - 1)]? = some (.cells (bcells (splice (S.at ta).st tn (List.replicate n true))).toArray 4 (0, 0))
  rest : ∀ k, k < W.heap.size → k ≠ L.I (ta.toNat - 1) → k ≠ L.J (ta.toNat - 1) → w'.heap[k]? = W.heap[k]?
  kept : Kept F W w'

theorem copied {W w2 X w5 : World} {L : Lay} {F : Nat → Prop} {S : Me} {ta : Int} {tn n : Nat} {ws : List Wd} (b2 : Below W.heap.size W w2) (x2 : ∀ k, k ≠ L.I (ta.toNat - 1) → X.heap[k]? = w2.heap[k]?)
    (x1 : X.heap[L.I (ta.toNat - 1)]? = some (.cells (wcells (splice (S.at ta).ws tn ws)).toArray 23 (0, 0))) (x3 : X.heap.size = w2.heap.size ∧ X.os = w2.os ∧ X.tape = w2.tape ∧ X.output = w2.output)
    (b6 : Below X.heap.size X w5) (eI : L.I (ta.toNat - 1) < W.heap.size) (hne : L.I (ta.toNat - 1) ≠ L.J (ta.toNat - 1)) (fI : F (L.I (ta.toNat - 1))) (fJ : F (L.J (ta.toNat - 1)))
    (rJ : w5.heap[L.J (ta.toNat - 1)]? = some (.cells (bcells (S.at ta).st).toArray 4 (0, 0))) (hl : tn + n ≤ (S.at ta).st.length) :
    Copied W (w5.setCells (L.J (ta.toNat - 1)) tn (List.replicate n (.bool true))) L F S ta tn ws n := by
  have hb := b2.size
  refine ⟨?_, ?_, ?_, ?_⟩
  · rw [setCells_o _ _ hne]
    exact (b6.block _ (by omega)).trans x1
  · rw [setCells_heap _ 4 _ _ (bcells (S.at ta).st) w5 rJ (by simp [bcells]; omega)]
    simp [splice, bcells]
  · intro k hk h1 h2
    rw [setCells_o _ _ h2, b6.block _ (by omega), x2 k h1, b2.block k hk]
  · refine setCells_kept _ fJ _ _ ⟨?_, ?_, ?_, ?_, ?_⟩
    · rw [b6.os, x3.2.1, b2.os]
    · rw [b6.tape, x3.2.2.1, b2.tape]
    · rw [b6.output, x3.2.2.2, b2.output]
    · have := b6.size; omega
    · intro k hk hf
      rw [b6.block _ (by omega), x2 k (fun e => hf (e ▸ fI)), b2.block k hk]

theorem rep_after {X Y w5 : World} {A bb q J t tn len : Nat} {V : Value} {cs : Array Value} {st : List Bool} (bY : Below X.heap.size X Y) (hY : Y.heap.size = X.heap.size + 1)
    (row5 : w5.heap[Y.heap.size]? = some (.cells (bcells (List.replicate t true)).toArray 4 (0, 0))) (b5 : Below Y.heap.size Y w5) (e5 : X.cell? ⟨bb, q, none⟩ = some V) (hB : X.heap[A]? = some (.cells cs 23 (0, 0)))
    (hJ : X.heap[J]? = some (.cells (bcells st).toArray 4 (0, 0))) (hS : tn + t ≤ st.length) (hL : len = st.length) :
    w5.cell? ⟨bb, q, none⟩ = some V ∧ (∀ i, w5.cell? ⟨A, i, none⟩ = cs[i]?) ∧
      (Builtin.copy_ #[43, 43] 3 #[.slice (some ⟨J, tn, none⟩) (len - tn) (len - tn), .slice (some ⟨X.heap.size + 1, 0, none⟩) t t]).run Try.prog w5 = .ok (.int .i64 t) (w5.setCells J tn (List.replicate t (.bool true))) ∧ Below X.heap.size X w5 := by
  have b6 : Below X.heap.size X w5 := bY.trans (b5.mono bY.size)
  rw [hY] at row5
  have rJ := (b6.block J (blk_lt hJ)).trans hJ
  have rB := (b6.block A (blk_lt hB)).trans hB
  have zb : bb < X.heap.size := by
    unfold World.cell? at e5
    cases e : X.heap[bb]? with
    | none => simp [e] at e5
    | some o => exact blk_lt e
  refine ⟨(b6.cell (p := ⟨bb, q, none⟩) zb).trans e5, fun i => blk_cell rB i, ?_, b6⟩
  have := copyB w5 3 J tn (len - tn) (len - tn) ⟨X.heap.size + 1, 0, none⟩ t t t (by simp [Nat.min_def]; omega)
    (fun j hj => by
      have e : (⟨X.heap.size + 1, 0, none⟩ : Addr).add j = ⟨X.heap.size + 1, j, none⟩ := by unfold Addr.add; split <;> simp_all
      rw [e, blk_cell row5]
      simp [bcells, hj]) (fun j hj => by rw [blk_cell rJ]; simp [bcells]; omega) (fun j _ => blk_frozen rJ _)
  simpa [goInt] using this

theorem rep_zero {X Y w5 : World} {A bb q : Nat} {V : Value} {cs : Array Value} (bY : Below X.heap.size X Y) (b5 : Below Y.heap.size Y w5) (e5 : X.cell? ⟨bb, q, none⟩ = some V) (hB : X.heap[A]? = some (.cells cs 23 (0, 0))) :
    w5.cell? ⟨bb, q, none⟩ = some V ∧ (∀ i, w5.cell? ⟨A, i, none⟩ = cs[i]?) ∧ (∀ i, w5.frozen? ⟨A, i, none⟩ = false) ∧ Below X.heap.size X w5 := by
  have b6 : Below X.heap.size X w5 := bY.trans (b5.mono bY.size)
  have rB := (b6.block A (blk_lt hB)).trans hB
  have zb : bb < X.heap.size := by
    unfold World.cell? at e5
    cases e : X.heap[bb]? with
    | none => simp [e] at e5
    | some o => exact blk_lt e
  exact ⟨(b6.cell (p := ⟨bb, q, none⟩) zb).trans e5, fun i => blk_cell rB i, fun i => blk_frozen rB i, b6⟩

set_option maxHeartbeats 16000000 in
theorem copy_in {W : World} {g : Nat} {L : Lay} {F : Nat → Prop} {S : Me} (h : MemAt W g L F S) (hI : S.Inv) (hl : S.bs.length ≤ 1000000000) (tb : Bool) (ta tn : Int) (fb : Bool) (fa fn : Int) (n : Nat) (R : Ending → World → Prop)
    (hbad : ∀ w', Below W.heap.size W w' → S.loadsE fb fa fn n ≠ 0 → R (.returned (.int .i64 (S.loadsE fb fa fn n))) w')
    (hpc : ∀ w', Below W.heap.size W w' → S.loadsE fb fa fn n = 0 → S.pieceE tb ta tn n ≠ 0 → R (.returned (.int .i64 (S.pieceE tb ta tn n))) w')
    (hz : ∀ w', Below W.heap.size W w' → n = 0 → S.pieceE tb ta tn n = 0 → R (.returned (.int .i64 0)) w')
    (hok : ∀ w', S.loadsE fb fa fn n = 0 → S.pieceE tb ta tn n = 0 → Copied W w' L F S ta tn.toNat (S.loads fb fa fn n) n → R (.returned (.int .i64 0)) w') :
    Calls Try.prog 22 #[.pointer (some ⟨g, 0, none⟩), .agg #[.bool tb, .int .i64 ta, .int .i64 tn], .agg #[.bool fb, .int .i64 fa, .int .i64 fn], .int .i64 n] W R := by
  have H1 := Lib.hid hbad
  have H2 := Lib.hid hpc
  have H3 := Lib.hid hz
  have H4 := Lib.hid hok
  have HM := Lib.hid h
  have HI := Lib.hid (info_parts Try.info23)
  have HV := Lib.hid hI
  clear hbad hpc hz hok h hI
  go_enter Try.func22, Try.ntmps22
  go_wp2_with fail
  have C0 := Lib.hid (Cp.start (W := W) (S := S) (tb := tb) (ta := ta) (tn := tn) (fb := fb) (fa := fa) (fn := fn) rfl)
  go_loopw [9, 17] (fun lv i wr => ∃ t : Nat, t ≤ n ∧ i = .int .i64 t ∧ Cp W wr S tb ta tn fb fa fn t lv) (fun _ i _ => n - (intOf i).toNat)
  case atStart => exact ⟨0, Nat.zero_le _, rfl, C0.out⟩
  case round =>
    obtain ⟨t, ht, rfl, r⟩ := hrel
    clear C0
    obtain ⟨lA, lc, rfl⟩ := ow_slice r.row
    obtain ⟨z1, z2, z3, z4, z5⟩ := r.see
    have R0 := Lib.hid r
    clear r
    by_cases hlt : t < n
    · have hti : (t : Int) < (n : Int) := by omega
      have hld := load_any (HM.out.below R0.out.old) HV.out hl fb fa (fn + t)
      by_cases he : S.loadE fb fa (fn + t) = 0
      · obtain ⟨hb0, hb1, hb2, hb3⟩ := pieceE_zero (loadE_zero he)
        obtain ⟨hb8, hb4, hb5, hb9⟩ := blockE_zero hb0
        have hb6 := HV.out.len_le (at_mem hb4 hb5)
        have hb7 : fn + t ≤ 1048576 := by omega
        have ht2 : t ≤ 1048576 := by
          rcases Nat.eq_zero_or_pos t with h | h
          · omega
          · have := (pieceE_zero (loadE_zero (R0.out.ok 0 h))).2.1
            omega
        clear hb0 hb2 hb3 hb4 hb5 hb6 hb8 hb9
        rw [he] at hld
        have HE := Lib.hid he
        have HL := Lib.hid hld
        clear hld he
        go_wp2_with fail
        refine HL.out.mono ?_
        rintro e w2 ⟨rfl, b2⟩
        have R2 := Lib.hid (R0.out.below b2)
        clear b2 HL z1 z2 z3 z4 z5 R0
        obtain ⟨z1, z2, z3, z4, z5⟩ := R2.out.see
        obtain ⟨i0, hi0, hz0, hz1, hz2⟩ := HI.out
        go_wp2_with (first
          | (at_builtin; refine wpList_append_own_at _ rfl (.tmp 28) (.tmp 30) 29 rfl (W.heap.size + 2) 23 i0 _ 3 24 Try.underlying29 hi0 hz0 hz1 hz2 rfl (by decide) _ t (wcells (S.loads fb fa fn t)) rfl ?_ _ 1 1 [.bool (S.loadW fb fa (fn + t)).p, .int .i64 (S.loadW fb fa (fn + t)).a, .int .i64 (S.loadW fb fa (fn + t)).n] rfl rfl ?_ ?_ ?_ ?_ ?_ ?_
             (exact ow_below R2.out.row (by repeat (first | exact Below.refl _ _ | apply below_alloc | apply below_drew | (refine below_drewN ?_ _))))
             (exact cell_row (by simp) _ _)
             (intro u hu; simp at hu; rcases hu with rfl | rfl | rfl <;> rfl)
             (have := HV.out; simp only [maxLen]; omega)
             omega
             (have := z1; simp; omega)
             (intro v4 w4 own4 grow4 nil4 at4
              clear nil4 at4
              have P4 := fun w' hw' => Cp.push (w' := w') (R2.out.below (by repeat (first | exact Below.refl _ _ | apply below_alloc | apply below_drew | (refine below_drewN ?_ _)))) HE.out own4 grow4 hw'
              have hfr := Cp.frow (R2.out.below (by repeat (first | exact Below.refl _ _ | apply below_alloc | apply below_drew | (refine below_drewN ?_ _)))) grow4
              have y1 : ∀ i, w4.cell? ⟨W.heap.size + 1, i, none⟩ = _ := fun i => blk_cell hfr i
              have y2 : ∀ i, w4.frozen? ⟨W.heap.size + 1, i, none⟩ = _ := fun i => blk_frozen hfr i
              have P4 := Lib.hid P4
              clear own4 grow4 hfr)))
        go_roundw
        case rel => exact ⟨t + 1, by omega, by go_num, P4.out _ rfl⟩
        case measure => simp [intOf]; omega
      · have hld2 := hld
        have H0 : S.loadsE fb fa fn n = S.loadE fb fa (fn + t) := loadsE_bad R0.out.ok hlt he
        have K1 := fun w' hb => H1.out w' hb (by rw [H0]; exact he)
        rw [H0] at K1
        have hx : (S.loadE fb fa (fn + t) == 0) = false := by simpa using he
        have K := Lib.hid K1
        clear K1 H0 hld2 he H1
        generalize S.loadE fb fa (fn + t) = x at *
        have HL := Lib.hid hld
        clear hld
        go_wp2_with fail
        refine HL.out.mono ?_
        rintro e w2 ⟨rfl, b2⟩
        have R2 := Lib.hid (R0.out.below b2)
        clear b2 HL z1 z2 z3 z4 z5 R0
        go_wp2
        exact K.out _ (by repeat (first | exact R2.out.old | (refine below_set ?_ (by simp) _) | apply below_alloc | apply below_drewN))
    · obtain rfl : t = n := by omega
      have hE : S.loadsE fb fa fn t = 0 := loadsE_ok R0.out.ok
      have hp := piece_any (HM.out.below R0.out.old) HV.out hl tb ta tn t (by omega)
      by_cases he : S.pieceE tb ta tn t = 0
      · rw [he, PosP, if_pos he] at hp
        have HP := Lib.hid hp
        clear hp
        go_wp2_with fail
        refine HP.out.mono ?_
        rintro e w2 ⟨rfl, b2⟩
        have R2 := Lib.hid (R0.out.below b2)
        clear b2 HP z1 z2 z3 z4 z5 R0
        obtain ⟨rfl, h1, h2, h3, g1, g2, g3, hs, hlen, d1, d3, d4, q1, q2, r1, r2, hne⟩ := (HM.out.below R2.out.old).grip HV.out he
        obtain ⟨tn, rfl⟩ := Int.eq_ofNat_of_zero_le g1
        have y1 : ∀ i, w2.cell? ⟨W.heap.size, i, none⟩ = _ := fun i => blk_cell R2.out.bto i
        have y2 : ∀ i, w2.frozen? ⟨W.heap.size, i, none⟩ = _ := fun i => blk_frozen R2.out.bto i
        by_cases hn : t = 0
        · have K := Lib.hid (fun w' hb => H3.out w' hb hn he)
          have hcw : ∀ ty d dl dc w, (Builtin.copy_ #[29, 29] ty #[.slice d dl dc, .slice lA t lc]).run Try.prog w = .ok (.int .i64 0) w := fun ty d dl dc w => by
            have := copyNone w 29 23 ty d lA dl dc t lc 3 _ 24 Try.underlying29 Try.info23 hn
            simpa [goInt] using this
          have hcf : ∀ ty d dl dc a sc w, (Builtin.copy_ #[43, 43] ty #[.slice d dl dc, .slice a t sc]).run Try.prog w = .ok (.int .i64 0) w := fun ty d dl dc a sc w => by
            have := copyNone w 43 4 ty d a dl dc t sc 1 _ 1 Try.underlying43 Try.info4 hn
            simpa [goInt] using this
          have ht20 : t ≤ 1048576 := by omega
          have htn2 : tn ≤ (S.at ta).ws.length := by omega
          have z1 : W.heap.size < w2.heap.size := by have := R2.out.see.1; omega
          have z2 : L.bb < w2.heap.size := d1
          clear h1 h2 h3 hs q1 q2 r1 r2 hne he hE hn
          rcases Nat.lt_or_ge tn (S.at ta).ws.length with htn | htn
          · skip
            go_wp2_with fail
            go_region
            all_goals go_wp2_with fail
            go_region_with (
              go_at_call 35
              refine (repeat_any _ _ t (blk_cell (heap_alloc_new _ _) 0) ht20).mono ?_
              rintro e w5 ⟨rfl, row5, b5⟩
              obtain ⟨v1, v2, v3, b6⟩ := rep_zero (by repeat (first | exact Below.refl _ _ | apply below_alloc | apply below_drew | (refine below_drewN ?_ _))) b5 d4 R2.out.bto
              clear row5 b5)
            all_goals go_wp2
            all_goals exact K.out _ (R2.out.old.trans (b6.mono R2.out.old.size))
          · obtain rfl : tn = (S.at ta).ws.length := by omega
            go_wp2_with fail
            go_region
            all_goals go_wp2_with fail
            go_region_with (
              go_at_call 35
              refine (repeat_any _ _ t (blk_cell (heap_alloc_new _ _) 0) ht20).mono ?_
              rintro e w5 ⟨rfl, row5, b5⟩
              obtain ⟨v1, v2, v3, b6⟩ := rep_zero (by repeat (first | exact Below.refl _ _ | apply below_alloc | apply below_drew | (refine below_drewN ?_ _))) b5 d4 R2.out.bto
              clear row5 b5)
            all_goals go_wp2
            all_goals exact K.out _ (R2.out.old.trans (b6.mono R2.out.old.size))
        · obtain ⟨X, hcp, x1, x2, x3, x4, x5, x6⟩ := copy_words R2.out (HM.out.below R2.out.old) HV.out he (by omega)
          have eb : L.bb ≠ L.I (ta.toNat - 1) := by
            obtain ⟨_, _, cur, r3, _⟩ := (HM.out.below R2.out.old).row (by omega)
            exact blk_ne r3 q2 (by decide)
          have ⟨eI, eJ, eB⟩ : L.I (ta.toNat - 1) < W.heap.size ∧ L.J (ta.toNat - 1) < W.heap.size ∧ L.bb < W.heap.size := by
            obtain ⟨_, _, _, _, _, _, _, _, _, d1W, d3W, d4W, _, q2W, _, r2W, _⟩ := HM.out.grip HV.out he
            exact ⟨blk_lt q2W, blk_lt r2W, d1W⟩
          have e5 : X.cell? ⟨L.bb, (ta.toNat - 1) * 3 + 1, none⟩ = some (.slice (some ⟨L.J (ta.toNat - 1), 0, none⟩) (S.at ta).ws.length (S.at ta).ws.length) := by
            have := x2 L.bb eb
            rw [← d4]
            simp [World.cell?, this]
          have bX : X.heap[W.heap.size]? = _ := (x2 W.heap.size (by omega)).trans R2.out.bto
          have y3 : ∀ i, X.cell? ⟨W.heap.size, i, none⟩ = _ := fun i => blk_cell bX i
          have y4 : ∀ i, X.frozen? ⟨W.heap.size, i, none⟩ = _ := fun i => blk_frozen bX i
          have z1 : W.heap.size < X.heap.size := blk_lt bX
          have z2 : L.bb < X.heap.size := by omega
          have ht20 : t ≤ 1048576 := by omega
          have hXJ : X.heap[L.J (ta.toNat - 1)]? = some (.cells (bcells (S.at ta).st).toArray 4 (0, 0)) := (x2 _ (Ne.symm hne)).trans r2
          have eX : L.J (ta.toNat - 1) < X.heap.size := blk_lt hXJ
          have hst : tn + t ≤ (S.at ta).st.length := by omega
          have hC := fun (w5 : World) (b6 : Below X.heap.size X w5) => H4.out (w5.setCells (L.J (ta.toNat - 1)) tn (List.replicate t (.bool true))) hE he (copied R2.out.old x2 x1 ⟨x3, x4, x5, x6⟩ b6 eI hne q1 r1 ((b6.block _ eX).trans hXJ) hst)
          have HC := Lib.hid hC
          have HJ := Lib.hid hXJ
          have HB := Lib.hid bX
          have HS := Lib.hid hst
          have HL := Lib.hid hs
          clear h1 h2 h3 hs q1 q2 r1 r2 hne he hE eb bX eI eJ hXJ hst hC
          clear x1 x2 x3 x4 x5 x6
          have hti : 0 < t := by omega
          have htn : tn < (S.at ta).ws.length := by omega
          have htn2 : tn ≤ (S.at ta).ws.length := by omega
          go_wp2_with fail
          go_region
          all_goals go_wp2_with fail
          go_region_with (
            go_at_call 35
            refine (repeat_any _ _ t (blk_cell (heap_alloc_new _ _) 0) ht20).mono ?_
            rintro e w5 ⟨rfl, row5, b5⟩
            obtain ⟨v1, v2, hc5, b6⟩ := rep_after (by repeat (first | exact Below.refl _ _ | apply below_alloc | apply below_drew | (refine below_drewN ?_ _))) (by simp) row5 b5 e5 HB.out HJ.out HS.out HL.out
            clear row5 b5)
          all_goals go_wp2
          all_goals exact HC.out _ b6
      · have K := Lib.hid (fun w' hb => H2.out w' hb hE he)
        have hx : (S.pieceE tb ta tn t == 0) = false := by simpa using he
        rw [PosP, if_neg he] at hp
        clear he H2 hE
        generalize S.pieceE tb ta tn t = x at *
        have HP := Lib.hid hp
        clear hp
        go_wp2_with fail
        refine HP.out.mono ?_
        rintro e w2 ⟨rfl, b2⟩
        have R2 := Lib.hid (R0.out.below b2)
        clear b2 HP z1 z2 z3 z4 z5 R0
        go_wp2
        exact K.out _ R2.out.old
end Go.Proofs.Ytkgiddpeaebdfaa
