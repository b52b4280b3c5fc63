/- Texts of this claim in one file: H40, H41. -/
import Derived.Test.YthgnbeeobhfeaaaK11
set_option linter.all false
section
/- Walks: which blocks go to each (the document's). -/
namespace Go.Proofs.Ythgnbeeobhfeaaa.T
open Go.RowKit Go.Shelf Go.Proofs.YthgnbeeobhfeaaaW.PrintWords Go.Proofs.YthgnbeeobhfeaaaW.PrintLast
attribute [local go_sem] Oper.semAt_some

theorem RR.after {W W1 : World} {B e1 e2 i g n cap : Nat} {ok : Nat → Prop} {u : Value} {vs : List Value} {xss : List (List Value)} (h : RR W B e1 e2 ok (.slice (some ⟨g, 0, none⟩) n cap) vs xss) (hne : e1 ≠ e2) (hu : vs[i]? = some u) (hg : W.grownBy W1 u.ownBlock) :
    W1.cell? ⟨g, i, none⟩ = some u ∧ W1.frozen? ⟨g, i, none⟩ = false := by
  obtain ⟨c', hc'⟩ := own_typed h.own g rfl
  have hrow : ∀ k, u.ownBlock = some k → k ≠ g := fun k e hk => by
    obtain ⟨cc, hcc⟩ := h.typed (List.mem_of_getElem? hu) k e
    rw [hk, hc'] at hcc
    injection hcc with hcc
    injection hcc with _ hcc
    exact hne hcc.symm
  refine ⟨hg.cell (h.cell hu) (fun e => hrow _ e.symm rfl), ?_⟩
  have h6 : W1.heap[g]? = some (.cells c' e2 (0, 0)) := (hg.block _ (own_lt h.own g rfl) (fun e => hrow _ e.symm rfl)).trans hc'
  simp [World.frozen?, h6]

theorem RR.slice {W : World} {B e1 e2 : Nat} {ok : Nat → Prop} {v : Value} {vs : List Value} {xss : List (List Value)} (h : RR W B e1 e2 ok v vs xss) : ∃ A c, v = .slice A xss.length c := by
  obtain ⟨A, c, e⟩ := own_slice h.own
  exact ⟨A, c, by rw [e, h.len]⟩
theorem RR.at2 {W : World} {B : Nat} {ok : Nat → Prop} {A0 : Option Addr} {n c i : Nat} {vs : List Value} {xss : List (List Int)} {xs : List Int} (h : RR W B 3 42 ok (.slice A0 n c) vs (xss.map (encs (Value.int .i64)))) (hi : xss[i]? = some xs) :
    ∃ g A d, A0 = some ⟨g, 0, none⟩ ∧ W.cell? ⟨g, i, none⟩ = some (.slice A xs.length d) ∧ OI W B (.slice A xs.length d) xs := by
  have hlt : i < vs.length := by
    have := (List.getElem?_eq_some_iff.1 hi).1
    rw [h.len, List.length_map]
    exact this
  obtain ⟨u, hu⟩ : ∃ u, vs[i]? = some u := ⟨_, List.getElem?_eq_getElem hlt⟩
  obtain ⟨ys, hys, hown⟩ := h.elt hu
  rw [encs_at, hi] at hys
  obtain rfl := Option.some.inj hys
  rw [encs_length] at hown
  obtain ⟨A, d, rfl⟩ := own_slice hown
  obtain ⟨g, cap, hv, _, _⟩ := h.form (by omega)
  injection hv with hv1 hv2 hv3
  subst hv1
  exact ⟨g, A, d, rfl, h.cell hu, hown⟩
/-- What a world of the inner loop holds. -/
structure RPk (w w8 : World) (hc m : Nat) (vs : List Value) (xss : List (List Int)) (W : World) : Prop where
  rr : RR W w.heap.size 3 42 (fun k => w.heap.size < k ∧ (k < hc ∨ w8.heap.size ≤ k)) (.slice (some ⟨w.heap.size + 1, 0, none⟩) m m) vs (xss.map (encs (Value.int .i64)))
  low : Below w.heap.size w W
  far : ∀ q, q < w8.heap.size → (q ≤ w.heap.size ∨ hc ≤ q) → W.heap[q]? = w8.heap[q]?
  big : w8.heap.size ≤ W.heap.size
theorem RPk.below {w w8 W W' : World} {hc m : Nat} {vs : List Value} {xss : List (List Int)} (h : RPk w w8 hc m vs xss W) (hb : Below W.heap.size W W') : RPk w w8 hc m vs xss W' :=
  ⟨h.rr.below hb, below_then h.low h.low.size hb, fun q h1 h2 => (hb.block q (Nat.lt_of_lt_of_le h1 h.big)).trans (h.far q h1 h2), Nat.le_trans h.big hb.size⟩
theorem RPk.put {w w8 W W1 : World} {hc m Q c1 : Nat} {vs : List Value} {xss : List (List Int)} {u : Value} {A1 : Option Addr} {ys : List Int} (h : RPk w w8 hc m vs xss W) (hlow : w.heap.size < w8.heap.size) (hu : vs[Q]? = some u)
    (ho : W1.ownsRow w.heap.size 3 1 (.slice A1 ys.length c1) ys.length (encs (Value.int .i64) ys)) (hg : W.grownBy W1 u.ownBlock) (hat : (Value.slice A1 ys.length c1).ownBlock = u.ownBlock ∨ ∃ b, (Value.slice A1 ys.length c1).ownBlock = some b ∧ W.heap.size ≤ b) :
    RPk w w8 hc m (vs.set Q (.slice A1 ys.length c1)) (xss.set Q ys) (W1.setCell ⟨w.heap.size + 1, Q, none⟩ (.slice A1 ys.length c1)) := by
  obtain ⟨hfar, hbel, _⟩ := h.rr.put_out (u1 := .slice A1 ys.length c1) hu hg
  have hbig := h.big
  have hs : W.heap.size ≤ (W1.setCell ⟨w.heap.size + 1, Q, none⟩ (.slice A1 ys.length c1)).heap.size := by rw [World.size_setCell]; exact hg.size
  refine ⟨?_, ?_, fun q h1 h2 => (hfar q (Nat.lt_of_lt_of_le h1 hbig) (fun hk => ?_)).trans (h.far q h1 h2), Nat.le_trans hbig hs⟩
  · rw [List.map_set]
    exact h.rr.put (by decide) hu (by rw [encs_length]; exact ho) hg hat (fun k hk => ⟨by omega, .inr (by omega)⟩)
  · exact h.low.trans (hbel w.heap.size (by have := h.low.size; omega) (fun k hk => by omega))
  · obtain ⟨h3, h4⟩ := hk
    omega
end Go.Proofs.Ythgnbeeobhfeaaa.T
end

section
/- Walks: which blocks are reached (the document's). -/
namespace Go.Proofs.Ythgnbeeobhfeaaa.T
open Go.RowKit Go.Shelf Go.Proofs.YthgnbeeobhfeaaaW.PrintWords Go.Proofs.YthgnbeeobhfeaaaW.PrintLast

/-! ### Plainly -/
structure RI (bs : List Bk) (out : List Bool) : Prop where
  len : out.length = bs.length
  zero : 0 < bs.length → out[0]? = some true
  sound : ∀ j, out[j]? = some true → Rch bs j
def RDone (bs : List Bk) (out : List Bool) : Prop := ∀ j, Rch bs j → out[j]? = some true
def RMore (a b : List Bool) : Prop := ∀ j : Nat, a[j]? = some true → b[j]? = some true
/-- In a round, behind i blocks, and k places of the block i. -/
structure RJ (bs : List Bk) (out0 : List Bool) (i : Nat) (pre : List Int) (out : List Bool) : Prop where
  ri : RI bs out
  more : RMore out0 out
  old : ∀ i', i' < i → out0[i']? = some true → ∀ m, edge bs i' m = true → out[m]? = some true
  now : ∀ m : Nat, (m : Int) ∈ pre → out[m]? = some true
theorem RJ.start {bs : List Bk} {out : List Bool} (h : RI bs out) : RJ bs out 0 [] out := ⟨h, fun _ h => h, fun i' h => by omega, fun m h => by cases h⟩
theorem RJ.skip {bs : List Bk} {out0 out : List Bool} {i : Nat} (h : RJ bs out0 i [] out) (hi : out[i]? = some false) : RJ bs out0 (i + 1) [] out :=
  ⟨h.ri, h.more, fun i' h1 h2 m he => by
    by_cases e : i' = i
    · subst e
      have := h.more i' h2
      rw [hi] at this
      cases this
    · exact h.old i' (by omega) h2 m he, h.now⟩
theorem RJ.next {bs : List Bk} {out0 out : List Bool} {i : Nat} (h : RJ bs out0 i (succI bs i) out) : RJ bs out0 (i + 1) [] out :=
  ⟨h.ri, h.more, fun i' h1 h2 m he => by
    by_cases e : i' = i
    · subst e
      exact h.now m (edge_iff.1 he)
    · exact h.old i' (by omega) h2 m he, fun m h => by cases h⟩
theorem RJ.set {bs : List Bk} {out0 out : List Bool} {i Q : Nat} {pre : List Int} (h : RJ bs out0 i pre out) (hQ : Q < out.length) (hr : Rch bs Q) : RJ bs out0 i (pre ++ [(Q : Int)]) (out.set Q true) := by
  have hm : RMore out (out.set Q true) := fun j hj => by
    by_cases e : Q = j
    · subst e
      rw [List.getElem?_set_self hQ]
    · rwa [List.getElem?_set_ne e]
  refine ⟨⟨by rw [List.length_set]; exact h.ri.len, fun h0 => hm 0 (h.ri.zero h0), fun j hj => ?_⟩, fun j hj => hm j (h.more j hj), fun i' h1 h2 m he => hm m (h.old i' h1 h2 m he), fun m hm' => ?_⟩
  · by_cases e : Q = j
    · subst e; exact hr
    · rw [List.getElem?_set_ne e] at hj
      exact h.ri.sound j hj
  · rcases List.mem_append.1 hm' with h1 | h1
    · exact hm m (h.now m h1)
    · rw [List.mem_singleton] at h1
      have e : m = Q := by omega
      subst e
      rw [List.getElem?_set_self hQ]
theorem count_more : ∀ (a b : List Bool), a.length = b.length → RMore a b → (a = b ∨ a.count true + 1 ≤ b.count true) ∧ a.count true ≤ b.count true
  | [], [], _, _ => ⟨.inl rfl, Nat.le_refl _⟩
  | x :: a, [], h, _ => by cases h
  | [], y :: b, h, _ => by cases h
  | x :: a, y :: b, h, hm => by
    have h' : a.length = b.length := by simpa using h
    obtain ⟨h1, h2⟩ := count_more a b h' (fun j hj => by simpa using hm (j + 1) (by simpa using hj))
    have h0 := hm 0
    simp only [List.getElem?_cons_zero, Option.some.injEq] at h0
    cases x <;> cases y
    · rw [List.count_cons_of_ne (by decide), List.count_cons_of_ne (by decide)]
      exact ⟨h1.imp (fun e => by rw [e]) id, h2⟩
    · rw [List.count_cons_of_ne (by decide), List.count_cons_self]
      exact ⟨.inr (by omega), by omega⟩
    · exact absurd (h0 rfl) (by decide)
    · rw [List.count_cons_self, List.count_cons_self]
      exact ⟨h1.imp (fun e => by rw [e]) (fun e => by omega), by omega⟩
/-- Behind r rounds: all is done, or more than r are marked. -/
def RR_ (bs : List Bk) (r : Nat) (out : List Bool) : Prop := RI bs out ∧ (RDone bs out ∨ r + 1 ≤ out.count true)
theorem RR_.start {bs : List Bk} {out : List Bool} (h : RI bs out) : RR_ bs 0 out := by
  refine ⟨h, ?_⟩
  by_cases h0 : 0 < bs.length
  · refine .inr ?_
    have h1 := h.zero h0
    have : true ∈ out := List.mem_of_getElem? h1
    have := List.count_pos_iff.2 this
    omega
  · exact .inl (fun j hj => absurd hj.lt (by omega))
theorem RR_.next {bs : List Bk} {out0 out : List Bool} {r : Nat} (h0 : RR_ bs r out0) (h : RJ bs out0 bs.length [] out) : RR_ bs (r + 1) out := by
  refine ⟨h.ri, ?_⟩
  rcases h0.2 with hd | hc
  · exact .inl (fun j hj => h.more j (hd j hj))
  · rcases (count_more out0 out (h0.1.len.trans h.ri.len.symm) h.more).1 with e | e
    · refine .inl (fun j hj => ?_)
      subst e
      induction hj with
      | zero hb => exact h.ri.zero hb
      | step hi he ih => exact h.old _ hi.lt ih _ he
    · exact .inr (by omega)
theorem RR_.all {bs : List Bk} {out : List Bool} (h : RR_ bs bs.length out) : out = reachL bs := by
  have hd : RDone bs out := by
    rcases h.2 with hd | hc
    · exact hd
    · have := List.count_le_length (a := true) (l := out)
      have := h.1.len
      omega
  apply List.ext_getElem?
  intro j
  by_cases hj : j < bs.length
  · have hl := h.1.len
    obtain ⟨x, hx⟩ : ∃ x, out[j]? = some x := ⟨_, List.getElem?_eq_getElem (by omega)⟩
    rw [hx]
    simp only [reachL, List.getElem?_map, List.getElem?_range hj, Option.map_some, Option.some.injEq]
    cases x with
    | true => exact (rchB_iff.2 (h.1.sound j hx)).symm
    | false =>
      cases hr : rchB bs j with
      | false => rfl
      | true =>
        have := hd j (rchB_iff.1 hr)
        rw [hx] at this
        cases this
  · have hl := h.1.len
    rw [List.getElem?_eq_none (by omega), List.getElem?_eq_none (by simp [reachL]; omega)]
theorem RI.start {bs : List Bk} {n : Nat} (hn : bs.length = n) (h0 : 0 < n) : RI bs ((List.replicate n false).set 0 true) := by
  refine ⟨by simp [hn], fun _ => by rw [List.getElem?_set_self (by simpa using h0)], fun j hj => ?_⟩
  by_cases e : 0 = j
  · subst e
    exact .zero (by omega)
  · rw [List.getElem?_set_ne e] at hj
    have := List.mem_of_getElem? hj
    simp at this
/-! ### The walk -/
end Go.Proofs.Ythgnbeeobhfeaaa.T
end
