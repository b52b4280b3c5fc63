/- Texts of this claim in one file: H49, H50, H51. -/
import Derived.Test.YthgnbeeobhfeaaaK7
import Derived.Test.YthgnbeeobhfeaaaK19
set_option linter.all false
section
/- Plain laws: what is needed, over and over, till nothing changes. -/
namespace Go.Proofs.Ythgnbeeobhfeaaa.T

/-- What is so in the one is in the other. -/
def UpL (x y : List Bool) : Prop := x.length = y.length ∧ ∀ j : Nat, x[j]? = some true → y[j]? = some true
def UpR (xs ys : List (List Bool)) : Prop := xs.length = ys.length ∧ ∀ (k : Nat) (x y : List Bool), xs[k]? = some x → ys[k]? = some y → UpL x y
theorem UpL.refl (x : List Bool) : UpL x x := ⟨rfl, fun _ h => h⟩
theorem UpL.trans {x y z : List Bool} (h : UpL x y) (k : UpL y z) : UpL x z := ⟨h.1.trans k.1, fun j hj => k.2 j (h.2 j hj)⟩
theorem UpR.refl (xs : List (List Bool)) : UpR xs xs := ⟨rfl, fun k x y h1 h2 => by rw [h1] at h2; obtain rfl := Option.some.inj h2; exact .refl _⟩
theorem UpR.trans {x y z : List (List Bool)} (h : UpR x y) (k : UpR y z) : UpR x z := ⟨h.1.trans k.1, fun i a c ha hc => by
  obtain ⟨b, hb⟩ : ∃ b, y[i]? = some b := ⟨_, List.getElem?_eq_getElem (by have := (List.getElem?_eq_some_iff.1 ha).1; have := h.1; omega)⟩
  exact (h.2 i a b ha hb).trans (k.2 i b c hb hc)⟩
theorem stepL_up {cs : List Ch} {b k : Int} {x y : List Bool} (h : UpL x y) : UpL (stepL cs b k x) (stepL cs b k y) := by
  refine ⟨by rw [stepL_length, stepL_length]; exact h.1, fun j hj => ?_⟩
  have hlt : j < x.length := by have := (List.getElem?_eq_some_iff.1 hj).1; rwa [stepL_length] at this
  obtain ⟨a, ha⟩ : ∃ a, x[j]? = some a := ⟨_, List.getElem?_eq_getElem hlt⟩
  obtain ⟨c, hc⟩ : ∃ c, y[j]? = some c := ⟨_, List.getElem?_eq_getElem (by rw [← h.1]; exact hlt)⟩
  rw [stepL_get ha, Option.some.injEq] at hj
  rw [stepL_get hc, Option.some.injEq]
  refine stepB_mono (fun q => ?_) hj
  have := h.2 j (by rw [ha, q])
  rw [hc] at this
  exact Option.some.inj this
theorem backStates_up {cs : List Ch} {b : Int} : ∀ (r : Nat) {x y : List Bool}, UpL x y → UpR (backStates cs b r x) (backStates cs b r y)
  | 0, x, y, h => ⟨rfl, fun k u v h1 h2 => by
    have hk : k = 0 := by
      have := (List.getElem?_eq_some_iff.1 h1).1
      simp [backStates] at this
      omega
    subst hk
    simp only [backStates, List.getElem?_cons_zero, Option.some.injEq] at h1 h2
    subst h1 h2
    exact h⟩
  | r + 1, x, y, h => by
    have ih := backStates_up (cs := cs) (b := b) r (stepL_up (cs := cs) (b := b) (k := r) h)
    refine ⟨by simp only [backStates, List.length_append, List.length_singleton]; rw [ih.1], fun k u v h1 h2 => ?_⟩
    simp only [backStates] at h1 h2
    by_cases hk : k < (backStates cs b r (stepL cs b r x)).length
    · rw [List.getElem?_append_left hk] at h1
      rw [List.getElem?_append_left (by rw [← ih.1]; exact hk)] at h2
      exact ih.2 k u v h1 h2
    · have hke : k = (backStates cs b r (stepL cs b r x)).length := by
        have := (List.getElem?_eq_some_iff.1 h1).1
        simp at this
        omega
      rw [hke, List.getElem?_append_right (Nat.le_refl _), Nat.sub_self] at h1
      rw [hke, ih.1, List.getElem?_append_right (Nat.le_refl _), Nat.sub_self] at h2
      simp only [List.getElem?_cons_zero, Option.some.injEq] at h1 h2
      subst h1 h2
      exact h
/-- How many flags are not so. -/
def falseR (xs : List (List Bool)) : Nat := (xs.map fun x => x.count false).sum
theorem falseR_less : ∀ {xs ys : List (List Bool)}, UpR xs ys → falseR ys ≤ falseR xs ∧ (xs ≠ ys → falseR ys < falseR xs)
  | [], [], _ => by simp
  | [], y :: ys, h => by have := h.1; simp at this
  | x :: xs, [], h => by have := h.1; simp at this
  | x :: xs, y :: ys, h => by
    have h0 : UpL x y := h.2 0 x y (by simp) (by simp)
    have h1 : UpR xs ys := ⟨by have := h.1; simpa using this, fun k u v hu hv => h.2 (k + 1) u v (by simpa using hu) (by simpa using hv)⟩
    have hc := count_less (e := false) (x := x) (y := y) h0.1 (fun j hj hne => by
      obtain ⟨a, ha⟩ : ∃ a, x[j]? = some a := ⟨_, List.getElem?_eq_getElem hj⟩
      rw [ha] at hne
      have hat : a = true := by cases a <;> simp_all
      rw [h0.2 j (by rw [ha, hat])]
      decide)
    have ih := falseR_less h1
    have e1 : falseR (x :: xs) = x.count false + falseR xs := rfl
    have e2 : falseR (y :: ys) = y.count false + falseR ys := rfl
    rw [e1, e2]
    refine ⟨Nat.add_le_add hc.1 ih.1, fun hne => ?_⟩
    by_cases e : x = y
    · have := ih.2 (fun q => hne (by rw [e, q]))
      have := hc.1
      omega
    · have := hc.2 e
      have := ih.1
      omega
/-- What is known between two blocks. -/
structure BQ (bs : List Bk) (cs : List Ch) (N : Nat) (o : Nat → List (List Bool)) : Prop where
  rows : ∀ i, i < bs.length → (o i).length = insN bs i + 2 ∧ ∀ r ∈ o i, r.length = N
  out : ∀ i, bs.length ≤ i → o i = [List.replicate N false]
  snd : ∀ i j, (hd0 (o i))[j]? = some true → blockU bs cs j i (endV bs cs j i) = true
  grow : ∀ i, i < bs.length → UpR (o i) (backG bs cs N o i)
/-- All flags of m blocks are not so. -/
def startR (bs : List Bk) (N : Nat) (i : Nat) : List (List Bool) := if i < bs.length then List.replicate (insN bs i + 2) (List.replicate N false) else [List.replicate N false]
section
variable {bs : List Bk} {cs : List Ch} {N : Nat} {o : Nat → List (List Bool)}
theorem BQ.shp (h : BQ bs cs N o) (i : Nat) : Shp N (o i) := by
  by_cases hi : i < bs.length
  · obtain ⟨h1, h2⟩ := h.rows i hi
    exact ⟨fun e => by rw [e] at h1; simp at h1, h2⟩
  · rw [h.out i (by omega)]
    exact ⟨by simp, fun r hr => by rw [List.mem_singleton] at hr; rw [hr]; simp⟩
theorem hd0_all {N : Nat} {x : List (List Bool)} (h : ∀ r ∈ x, r = List.replicate N false) (hne : x ≠ []) (j : Nat) : (hd0 x)[j]? ≠ some true := by
  cases x with
  | nil => exact absurd rfl hne
  | cons a r =>
    rw [show hd0 (a :: r) = a from rfl, h a (by simp), List.getElem?_replicate]
    split <;> simp
theorem startR_all (i : Nat) : (∀ r ∈ startR bs N i, r = List.replicate N false) ∧ startR bs N i ≠ [] := by
  unfold startR
  split
  · exact ⟨fun r hr => (List.mem_replicate.1 hr).2, by simp⟩
  · exact ⟨fun r hr => List.mem_singleton.1 hr, by simp⟩
theorem BQ.begin : BQ bs cs N (startR bs N) := by
  have hsh : ∀ i, Shp N (startR bs N i) := fun i => ⟨(startR_all i).2, fun r hr => by rw [(startR_all i).1 r hr]; simp⟩
  refine ⟨fun i hi => ⟨by unfold startR; rw [if_pos hi]; simp, (hsh i).2⟩, fun i hi => by unfold startR; rw [if_neg (by omega)], fun i j hj => absurd hj (hd0_all (startR_all i).1 (startR_all i).2 j), fun i hi => ?_⟩
  refine ⟨by unfold startR backG; rw [if_pos hi, backStates_length]; simp [insN], fun k x y hx hy => ?_⟩
  have hxx := (startR_all (bs := bs) (N := N) i).1 x (List.mem_of_getElem? hx)
  have hyl : y.length = N := (backG_shp hsh i).2 y (List.mem_of_getElem? hy)
  subst hxx
  refine ⟨by simp [hyl], fun j hj => ?_⟩
  rw [List.getElem?_replicate] at hj
  split at hj <;> simp at hj
theorem head_up {x y : List (List Bool)} (h : UpR x y) (hx : x ≠ []) (hy : y ≠ []) : UpL (hd0 x) (hd0 y) := by
  cases x with
  | nil => exact absurd rfl hx
  | cons a r => cases y with
    | nil => exact absurd rfl hy
    | cons b t => exact h.2 0 a b (by simp) (by simp)
theorem upd_rows (h : BQ bs cs N o) {n : Nat} (hn : n < bs.length) (i : Nat) : Shp N (upd o n (backG bs cs N o n) i) := by
  unfold upd
  split
  · exact backG_shp h.shp n
  · exact h.shp i
theorem backG_up {o' : Nat → List (List Bool)} (hsh : ∀ i, Shp N (o i)) (hsh' : ∀ i, Shp N (o' i)) (h : ∀ i, UpL (hd0 (o i)) (hd0 (o' i))) (n : Nat) : UpR (backG bs cs N o n) (backG bs cs N o' n) :=
  backStates_up _ ⟨by rw [backIn_length hsh, backIn_length hsh'], fun j hj => backIn_mono hsh hsh' (fun i j hj => (h i).2 j hj) n j hj⟩
theorem BQ.step (h : BQ bs cs N o) {n : Nat} (hn : n < bs.length) : BQ bs cs N (upd o n (backG bs cs N o n)) := by
  have hsh := h.shp
  have hsh' := upd_rows h hn
  have hup : ∀ i, UpL (hd0 (o i)) (hd0 (upd o n (backG bs cs N o n) i)) := fun i => by
    unfold upd
    split
    · rename_i e1
      rw [e1]
      exact head_up (h.grow n hn) (hsh n).1 (backG_shp hsh n).1
    · exact .refl _
  refine ⟨fun i hi => ?_, fun i hi => ?_, fun i j hj => ?_, fun i hi => ?_⟩
  · unfold upd
    split
    · rename_i e1
      subst e1
      refine ⟨by rw [backG, backStates_length]; rfl, (backG_shp hsh i).2⟩
    · exact h.rows i hi
  · unfold upd
    rw [if_neg (by omega)]
    exact h.out i hi
  · unfold upd at hj
    split at hj
    · rename_i e1
      subst e1
      have hlt : j < N := by
        have := (List.getElem?_eq_some_iff.1 hj).1
        rwa [backG_head, backRun_length, backIn_length hsh] at this
      obtain ⟨b, hb⟩ : ∃ b, (backIn bs N o i)[j]? = some b := ⟨_, List.getElem?_eq_getElem (by rw [backIn_length hsh]; exact hlt)⟩
      rw [backG_get i hb, Option.some.injEq] at hj
      cases b with
      | false =>
        cases he : endV bs cs j i with
        | false => exact hj
        | true => exact blockU_mono bs cs j i hj
      | true =>
        obtain ⟨k, h1, h2⟩ := (backIn_true hsh i hlt).1 hb
        have he : endV bs cs j i = true := by
          have hm : Mv false (fun _ => False) (blockU bs cs j) (fun p m => edge bs m p = true) i := Mv.edge (p := k) h1 (by
            show blockU bs cs j k (endV bs cs j k) ≠ false
            rw [h.snd k j h2]; decide)
          have := mvV_ne.2 hm
          unfold endV
          simpa using this
        rw [he]
        exact hj
    · exact h.snd i j hj
  · have hb := backG_up (bs := bs) (cs := cs) hsh hsh' hup i
    by_cases e1 : i = n
    · subst e1
      rw [show upd o i (backG bs cs N o i) i = backG bs cs N o i from if_pos rfl]
      exact hb
    · rw [show upd o n (backG bs cs N o n) i = o i from if_neg e1]
      exact (h.grow i hi).trans hb
def potC (m : Nat) (o : Nat → List (List Bool)) : Nat := ((List.range m).map fun i => falseR (o i)).sum
theorem BQ.pot (h : BQ bs cs N o) {n : Nat} (hn : n < bs.length) : potC bs.length (upd o n (backG bs cs N o n)) ≤ potC bs.length o ∧ (backG bs cs N o n ≠ o n → potC bs.length (upd o n (backG bs cs N o n)) < potC bs.length o) := by
  have hf := falseR_less (h.grow n hn)
  have hs := sum_less (fun i => falseR (o i)) (fun i => falseR (upd o n (backG bs cs N o n) i)) (List.range bs.length) (fun i _ => by
    simp only [upd]
    split
    · rename_i e1
      rw [e1]
      exact hf.1
    · exact Nat.le_refl _)
  refine ⟨hs.1, fun hne => hs.2 n (List.mem_range.2 hn) ?_⟩
  simp only [upd, if_true]
  exact hf.2 (fun q => hne q.symm)
theorem BQ.done (h : BQ bs cs N o) (hs : ∀ i, i < bs.length → backG bs cs N o i = o i) {n : Nat} (hn : n < bs.length) : o n = backStates cs n (insN bs n + 1) (endL bs N cs n) := by
  have h1 : BPhi bs cs N [] o := ⟨(fun x hx => by cases hx), fun i => by
    by_cases hi : i < bs.length
    · exact .inr ⟨backIn bs N o i, backIn_length h.shp i, (hs i hi).symm, fun j hj => hj⟩
    · exact .inl (h.out i (by omega)), h.snd, fun i hi _ => hs i hi⟩
  exact h1.done hn
end
/-- Behind i blocks of a round. -/
structure BR (bs : List Bk) (cs : List Ch) (N P i : Nat) (ch : Bool) (o : Nat → List (List Bool)) : Prop where
  q : BQ bs cs N o
  pot : potC bs.length o ≤ P
  less : ch = true → potC bs.length o < P
  stay : ch = false → ∀ i', i' < i → backG bs cs N o i' = o i'
section
variable {bs : List Bk} {cs : List Ch} {N P i : Nat} {ch : Bool} {o : Nat → List (List Bool)}
theorem BR.begin (h : BQ bs cs N o) : BR bs cs N (potC bs.length o) 0 false o := ⟨h, Nat.le_refl _, (fun h => by cases h), fun _ i' h => by omega⟩
theorem BR.same (h : BR bs cs N P i ch o) (h1 : backG bs cs N o i = o i) : BR bs cs N P (i + 1) ch o :=
  ⟨h.q, h.pot, h.less, fun hc i' h3 => by
    by_cases e1 : i' = i
    · subst e1; exact h1
    · exact h.stay hc i' (by omega)⟩
theorem BR.other (h : BR bs cs N P i ch o) (hi : i < bs.length) (hne : backG bs cs N o i ≠ o i) : BR bs cs N P (i + 1) true (upd o i (backG bs cs N o i)) := by
  have hp := (h.q.pot hi).2 hne
  have := h.pot
  exact ⟨h.q.step hi, by omega, (fun _ => by omega), (fun hc => by cases hc)⟩
theorem BR.done (h : BR bs cs N P bs.length false o) {n : Nat} (hn : n < bs.length) : o n = backStates cs n (insN bs n + 1) (endL bs N cs n) := h.q.done (fun i hi => h.stay rfl i hi) hn
end
end Go.Proofs.Ythgnbeeobhfeaaa.T
end

section
/- Walks: rows of rows of rows of flags that are written, and read: what the document's answer of what is needed holds. -/
namespace Go.Proofs.Ythgnbeeobhfeaaa.T
open Go.RowKit Go.Shelf Go.Proofs.YthgnbeeobhfeaaaW.PrintWords Go.Proofs.YthgnbeeobhfeaaaW.PrintLast

/-! ### Plainly -/
theorem rows_end (cs : List Ch) (b : Int) : ∀ (r : Nat) (e : List Bool), (backStates cs b r e)[r]? = some e
  | 0, e => rfl
  | r + 1, e => by rw [backStates, List.getElem?_append_right (by rw [backStates_length]; omega), backStates_length]; simp
theorem rows_step (cs : List Ch) (b : Int) : ∀ (r : Nat) (e : List Bool) (k : Nat), k < r → ∃ y, (backStates cs b r e)[k + 1]? = some y ∧ (backStates cs b r e)[k]? = some (stepL cs b k y)
  | 0, e, k, h => by omega
  | r + 1, e, k, h => by
    rw [backStates]
    by_cases hk : k < r
    · obtain ⟨y, h1, h2⟩ := rows_step cs b r (stepL cs b r e) k hk
      refine ⟨y, ?_, ?_⟩
      · rw [List.getElem?_append_left (by rw [backStates_length]; omega), h1]
      · rw [List.getElem?_append_left (by rw [backStates_length]; omega), h2]
    · obtain rfl : k = r := by omega
      refine ⟨e, ?_, ?_⟩
      · rw [List.getElem?_append_right (by rw [backStates_length]; omega), backStates_length]; simp
      · rw [List.getElem?_append_left (by rw [backStates_length]; omega), rows_end]
theorem rows_many (bs : List Bk) (N : Nat) (cs : List Ch) : (backL bs N cs).length = bs.length := by simp [backL]
/-- The rows from k on are new. -/
def mixR (x y : List (List Bool)) (k : Nat) : List (List Bool) := x.take k ++ y.drop k
section
variable {x y : List (List Bool)} {k : Nat}
theorem mixR_length (h : x.length = y.length) : (mixR x y k).length = y.length := by
  simp only [mixR, List.length_append, List.length_take, List.length_drop]
  omega
theorem mixR_all (h : x.length = y.length) : mixR x y y.length = x := by simp [mixR, ← h]
theorem mixR_zero : mixR x y 0 = y := by simp [mixR]
theorem mixR_low (h : x.length = y.length) (hk : k < x.length) : (mixR x y (k + 1))[k]? = x[k]? := by
  rw [mixR, List.getElem?_append_left (by simp; omega), List.getElem?_take, if_pos (by omega)]
theorem mixR_set (h : x.length = y.length) {z : List Bool} (hz : y[k]? = some z) : (mixR x y (k + 1)).set k z = mixR x y k := by
  have hk : k < y.length := (List.getElem?_eq_some_iff.1 hz).1
  apply List.ext_getElem?
  intro j
  simp only [mixR, List.getElem?_set, List.getElem?_append, List.length_append, List.length_take, List.length_drop, List.getElem?_take, List.getElem?_drop]
  by_cases e : k = j
  · subst e
    rw [if_pos rfl, if_pos (by omega), if_neg (by omega), show k + (k - min k x.length) = k by omega, hz]
  · rw [if_neg e]
    by_cases hj : j < k
    · rw [if_pos (by omega), if_pos (by omega), if_pos (by omega), if_pos (by omega)]
    · rw [if_neg (by omega), if_neg (by omega), show k + 1 + (j - min (k + 1) x.length) = j by omega, show k + (j - min k x.length) = j by omega]
/-- Has a row from k on changed? -/
def chR (x y : List (List Bool)) (k : Nat) : Bool := decide (x.drop k ≠ y.drop k)
theorem chR_end (h : x.length = y.length) : chR x y y.length = false := by
  simp [chR, ← h]
theorem chR_zero : chR x y 0 = decide (x ≠ y) := by simp [chR]
theorem chR_step {a b : List Bool} (ha : x[k]? = some a) (hb : y[k]? = some b) : chR x y k = (chR x y (k + 1) || !decide (b = a)) := by
  obtain ⟨h1, h1'⟩ := List.getElem?_eq_some_iff.1 ha
  obtain ⟨h2, h2'⟩ := List.getElem?_eq_some_iff.1 hb
  unfold chR
  rw [List.drop_eq_getElem_cons h1, List.drop_eq_getElem_cons h2, h1', h2', Bool.eq_iff_iff]
  simp only [ne_eq, List.cons.injEq, decide_eq_true_eq, Bool.or_eq_true, Bool.not_eq_true', decide_eq_false_iff_not]
  by_cases e : a = b
  · subst e; simp
  · have : ¬ b = a := fun q => e q.symm
    simp [e, this]
end
theorem upd_eq {X : Type} {o : Nat → X} {n : Nat} {x : X} (h : x = o n) : upd o n x = o := by
  funext i
  unfold upd
  split
  · rename_i e1
    rw [e1, h]
  · rfl
theorem upd_upd {X : Type} (o : Nat → X) (n : Nat) (x y : X) : upd (upd o n x) n y = upd o n y := by
  funext i
  unfold upd
  split <;> rfl
theorem upd_at {X : Type} (o : Nat → X) (n : Nat) (x : X) : upd o n x n = x := if_pos rfl

/-! ### In memory -/
/-- m rows of rows of flags; the row is at block g; no block is of two rows. -/
structure All (W : World) (g m : Nat) (us : List Value) (o : Nat → List (List Bool)) : Prop where
  blk : BoxIs W g us.toArray 44
  len : us.length = m
  row : ∀ (t : Nat) (u : Value), us[t]? = some u → ∃ vs, Q2 W g u vs (o t)
  apart : ∀ (t t' : Nat) (u u' : Value) (b : Nat), us[t]? = some u → us[t']? = some u' → u.ownBlock = some b → u'.ownBlock = some b → t = t'
section
variable {W W' : World} {g m i : Nat} {us : List Value} {o : Nat → List (List Bool)} {u : Value}
theorem All.below (h : All W g m us o) (hb : Below W.heap.size W W') : All W' g m us o :=
  ⟨h.blk.below hb h.blk.lt, h.len, fun t u hu => by
    obtain ⟨vs, hq⟩ := h.row t u hu
    exact ⟨vs, hq.keep (KeepBut.of_below hb g none)⟩, h.apart⟩
theorem All.cell (h : All W g m us o) (hu : us[i]? = some u) : W.cell? ⟨g, i, none⟩ = some u := h.blk.cell i u (by simpa using hu)
theorem All.frozen (h : All W g m us o) : W.frozen? ⟨g, i, none⟩ = false := frozen_box h.blk i
theorem All.get (h : All W g m us o) (hi : i < m) : ∃ u vs, us[i]? = some u ∧ Q2 W g u vs (o i) := by
  obtain ⟨u, hu⟩ : ∃ u, us[i]? = some u := ⟨_, List.getElem?_eq_getElem (by have := h.len; omega)⟩
  obtain ⟨vs, hq⟩ := h.row i u hu
  exact ⟨u, vs, hu, hq⟩
/-- One row of a row of rows is read. -/
theorem Q2.at_ {xss : List (List Bool)} {vs : List Value} {k : Nat} {x : List Bool} (h : Q2 W g u vs xss) (hx : xss[k]? = some x) :
    ∃ b c v, u = .slice (some ⟨b, 0, none⟩) xss.length c ∧ b ≠ g ∧ vs[k]? = some v ∧ W.cell? ⟨b, k, none⟩ = some v ∧ W.frozen? ⟨b, k, none⟩ = false ∧ OB W 0 v x ∧ v.ownBlock ≠ some b ∧ v.ownBlock ≠ some g := by
  have hlt := (List.getElem?_eq_some_iff.1 hx).1
  obtain ⟨v, hv⟩ : ∃ v, vs[k]? = some v := ⟨_, List.getElem?_eq_getElem (by have := h.2.1; omega)⟩
  obtain ⟨b, c, e, h1, _⟩ := own_form1 h.1 (by have := h.2.1; omega)
  subst e
  obtain ⟨h2, h3⟩ := h.2.2 k v x hv hx
  refine ⟨b, c, v, by rw [h.2.1], by omega, hv, ?_, h.1.frozenAt k, h2, ?_, fun e => h3 g e rfl⟩
  · rw [h.1.cellAt k (by have := h.2.1; omega), hv]
  · intro e
    rcases own_type_ne h2 h.1 (by decide) with h4 | h4
    · rw [h4] at e; cases e
    · exact h4 e
theorem Q2.far {xss : List (List Bool)} {vs : List Value} (h : Q2 W g u vs xss) {b k : Nat} {w0 : Value} {ys : List Value} {n0 : Nat} {B : Nat} (hb : W.ownsRow B 26 1 w0 n0 ys) (hbb : w0.ownBlock = some b) (hne : u.ownBlock ≠ some b) (v : Value) :
    Q2 (W.setCell ⟨b, k, none⟩ v) g u vs xss :=
  ⟨own_move h.1 (fun j e => Below.heap_setCell W ⟨b, k, none⟩ v j (fun q => hne (by rw [e, q]))), h.2.1, fun j w1 x h1 h2 => by
    obtain ⟨h3, h4⟩ := h.2.2 j w1 x h1 h2
    refine ⟨own_move h3 (fun j' e => Below.heap_setCell W ⟨b, k, none⟩ v j' (fun q => ?_)), h4⟩
    rcases own_type_ne h3 hb (by decide) with h5 | h5
    · rw [h5] at e; cases e
    · exact h5 (by rw [e, hbb]; simp only at q; rw [q])⟩
/-- One row of a row of rows is written. -/
theorem Q2.set {xss : List (List Bool)} {vs : List Value} {b c k : Nat} {v : Value} {x : List Bool} (h : Q2 W g (.slice (some ⟨b, 0, none⟩) xss.length c) vs xss) (hv : OB W 0 v x) (hvg : v.ownBlock ≠ some g) :
    Q2 (W.setCell ⟨b, k, none⟩ v) g (.slice (some ⟨b, 0, none⟩) xss.length c) (vs.set k v) (xss.set k x) := by
  have hmove : ∀ (v' : Value) (x' : List Bool), OB W 0 v' x' → OB (W.setCell ⟨b, k, none⟩ v) 0 v' x' := fun v' x' h3 =>
    own_move h3 (fun j' e => Below.heap_setCell W ⟨b, k, none⟩ v j' (fun q => by
      rcases own_type_ne h3 h.1 (by decide) with h5 | h5
      · rw [h5] at e; cases e
      · exact h5 (by rw [e]; simp only at q; rw [q]; rfl)))
  have h1 := h.1
  rw [h.2.1] at h1
  refine ⟨?_, by simp [h.2.1], fun j w1 x1 e1 e2 => ?_⟩
  · rw [List.length_set, h.2.1]
    exact (h1.stored k v).1
  · by_cases e : k = j
    · subst e
      have l1 := (List.getElem?_eq_some_iff.1 e1).1
      have l2 := (List.getElem?_eq_some_iff.1 e2).1
      rw [List.length_set] at l1 l2
      rw [List.getElem?_set_self l1] at e1
      rw [List.getElem?_set_self l2] at e2
      obtain rfl := Option.some.inj e1
      obtain rfl := Option.some.inj e2
      exact ⟨hmove _ _ hv, fun b' hb' e' => hvg (by rw [hb', e'])⟩
    · rw [List.getElem?_set_ne e] at e1 e2
      obtain ⟨h3, h4⟩ := h.2.2 j w1 x1 e1 e2
      exact ⟨hmove _ _ h3, h4⟩
theorem All.set {b c k : Nat} {xss : List (List Bool)} {v : Value} {x : List Bool} (h : All W g m us o) (hu : us[i]? = some (.slice (some ⟨b, 0, none⟩) xss.length c)) (ho : o i = xss) (hv : OB W 0 v x) (hvg : v.ownBlock ≠ some g) (hbg : b ≠ g) :
    All (W.setCell ⟨b, k, none⟩ v) g m us (upd o i (xss.set k x)) := by
  obtain ⟨vs, hq⟩ := h.row i _ hu
  rw [ho] at hq
  refine ⟨(Below.heap_setCell W ⟨b, k, none⟩ v g (fun e => hbg e.symm)).trans h.blk, h.len, fun t u ht => ?_, h.apart⟩
  unfold upd
  by_cases e : t = i
  · subst e
    rw [hu] at ht
    obtain rfl := Option.some.inj ht
    rw [if_pos rfl]
    have hs := hq.set (k := k) hv hvg
    have hl : (xss.set k x).length = xss.length := List.length_set
    exact ⟨vs.set k v, hs⟩
  · rw [if_neg e]
    obtain ⟨ws, hw⟩ := h.row t u ht
    exact ⟨ws, hw.far hq.1 rfl (fun q => e (h.apart t i u _ b ht hu q rfl)) v⟩
theorem All.congr {o' : Nat → List (List Bool)} (h : All W g m us o) (ho : ∀ t, t < m → o t = o' t) : All W g m us o' :=
  ⟨h.blk, h.len, fun t u hu => by
    rw [← ho t (by have := (List.getElem?_eq_some_iff.1 hu).1; have := h.len; omega)]
    exact h.row t u hu, h.apart⟩
theorem All.r3 (h : All W g m us o) {xsss : List (List (List Bool))} (hl : xsss.length = m) (hx : ∀ t xss, xsss[t]? = some xss → o t = xss) : R3 W g us xsss :=
  ⟨h.blk, by rw [h.len, hl], fun t u xss h1 h2 => by
    obtain ⟨vs, hq⟩ := h.row t u h1
    rw [hx t xss h2] at hq
    exact ⟨vs, hq⟩⟩
end
/-- The first i rows are laid. -/
def layR (bs : List Bk) (N i : Nat) (t : Nat) : List (List Bool) := if t < i then startR bs N t else []
theorem All.start (W : World) (m : Nat) (bs : List Bk) (N : Nat) : All (W.alloc (.cells (madeCells #[.slice none 0 0] m) 44)) W.heap.size m (List.replicate m (.slice none 0 0)) (layR bs N 0) := by
  refine ⟨?_, by simp, fun i u hu => ?_, fun t t' u u' b hu _ hb _ => ?_⟩
  · have h := heap_alloc_new W (.cells (madeCells #[.slice none 0 0] m) 44)
    unfold BoxIs
    rw [h]
    congr 2
    refine Array.ext (by simp [madeCells]) (fun i h1 h2 => by simp [madeCells, Nat.mod_one])
  · have := List.mem_of_getElem? hu
    rw [List.mem_replicate] at this
    rw [this.2]
    exact ⟨[], Q2.nil _ _⟩
  · have := List.mem_of_getElem? hu
    rw [List.mem_replicate] at this
    rw [this.2] at hb
    cases hb
/-- A row has been laid. -/
theorem All.laid {Wi W : World} {g m i : Nat} {us : List Value} {uu : Value} {vs : List Value} {bs : List Bk} {N : Nat} (h : All Wi g m us (layR bs N i)) (hq : QI Wi W g i us uu vs (startR bs N i)) (hi : i < m) : All W g m (us.set i uu) (layR bs N (i + 1)) := by
  have hil : i < us.length := by rw [h.len]; exact hi
  refine ⟨hq.box, by rw [List.length_set]; exact h.len, fun t u ht => ?_, fun t t' u u' b h1 h2 h3 h4 => ?_⟩
  · by_cases e : i = t
    · subst e
      rw [List.getElem?_set_self hil] at ht
      obtain rfl := Option.some.inj ht
      rw [layR, if_pos (by omega)]
      exact ⟨vs, hq.q⟩
    · rw [List.getElem?_set_ne e] at ht
      obtain ⟨ws, hw⟩ := h.row t u ht
      have he : layR bs N (i + 1) t = layR bs N i t := by
        unfold layR
        by_cases ht : t < i
        · rw [if_pos ht, if_pos (by omega)]
        · rw [if_neg ht, if_neg (by omega)]
      rw [he]
      exact ⟨ws, hw.keep hq.keep⟩
  · have hold : ∀ (t : Nat) (u : Value), us[t]? = some u → ∀ b, u.ownBlock = some b → b < Wi.heap.size := fun t u hu b hb => by
      obtain ⟨ws, hw⟩ := h.row t u hu
      exact own_lt hw.1 b hb
    by_cases e : i = t
    · subst e
      rw [List.getElem?_set_self hil] at h1
      obtain rfl := Option.some.inj h1
      by_cases e' : i = t'
      · exact e'
      · rw [List.getElem?_set_ne e'] at h2
        have := hold t' u' h2 b h4
        have := hq.new b h3
        omega
    · rw [List.getElem?_set_ne e] at h1
      by_cases e' : i = t'
      · subst e'
        rw [List.getElem?_set_self hil] at h2
        obtain rfl := Option.some.inj h2
        have := hold t u h1 b h3
        have := hq.new b h4
        omega
      · rw [List.getElem?_set_ne e'] at h2
        exact h.apart t t' u u' b h1 h2 h3 h4
/-! ### A row that grows in a region that draws -/
section
variable {P : Program} {ops : Array Oper} {o : Oper} {a : Act} {Q' : Exit → Act → World → Prop} {Kc : Act → World → Prop}
theorem own_append_step {W : World} (base : Nat) (hw : Region.wanted o (yielded ops a.tmps) = true) (s x : Operand) (t e : TypeId) (z : Value) (bytes : Nat)
    (ho : o.op = .call { callee := .builtin .append, args := #[s, x], argTypes := #[t, t] })
    (ht : P.underlying t = some (.slice e)) (hinfo : (P.info? e).map (fun i => (i.zero, i.size, i.bytes)) = some (some z, 1, bytes)) (hz : z.cells.size = 1) (hb0 : 0 < bytes)
    (v : Value) (xs : List Value) (y : Value) (hs : a.eval s = v) (hx : a.eval x = .slice (some ⟨W.heap.size, 0, none⟩) 1 1) (h1 : y.oneCell' = true)
    (HO : W.ownsRow base e 1 v xs.length xs) (hbase : base ≤ W.heap.size) (hl : (xs.length + 1) * bytes ≤ 140737488355328)
    (h : ∀ v1 w1, w1.ownsRow base e 1 v1 (xs ++ [y]).length (xs ++ [y]) → W.grownBy w1 v.ownBlock → (v1.ownBlock = v.ownBlock ∨ ∃ b, v1.ownBlock = some b ∧ W.heap.size ≤ b) → Kc (a.put o.dst v1) w1) :
    if Region.wanted o (yielded ops a.tmps) = true then Oper.wp P o a (W.alloc (.cells #[y] e)) Kc Q' else Kc (a.put o.dst undef) (W.alloc (.cells #[y] e)) := by
  obtain ⟨i0, hi, hzz⟩ := Option.map_eq_some_iff.1 hinfo
  simp only [Prod.mk.injEq] at hzz
  obtain ⟨hz0, hz1, hz2⟩ := hzz
  have hlen : xs.length + 1 ≤ 140737488355328 := Nat.le_trans (Nat.le_mul_of_pos_right _ hb0) hl
  obtain ⟨v1, w1, hr, hown, hg, _, hat⟩ := run_append_own_at (P := P) (W.alloc (.cells #[y] e)) base t o.type e i0 z 1 bytes ht hi hz0 hz1 hz2 hz (by omega) v xs.length xs (HO.alloc _) ⟨W.heap.size, 0, none⟩ 1 1 [y] rfl
    (World.news_of_block (cs := #[y]) (t := e) (fr := (0, 0)) (heap_alloc_new W _)) (by simpa using h1) (by simp only [maxLen]; omega) hl (by simp; omega)
  rw [if_pos hw]
  unfold Oper.wp execOp
  simp only [ho, resolve, invoke, builtin, Sem.run_bind, Sem.run_pure, Result.andThen_ok, List.map_toArray, List.map_cons, List.map_nil, hs, hx, hr]
  refine h v1 w1 (by simpa using hown) (World.grownBy.trans (World.grownBy_alloc W _ _) hg) ?_
  rcases hat with hat | hat
  · exact .inl hat
  · exact .inr ⟨_, hat, by simp⟩
end
theorem QI.init {W : World} {g m i : Nat} {us : List Value} {o : Nat → List (List Bool)} (h : All W g m us o) (hi : us[i]? = some (.slice none 0 0)) : QI W W g i us (.slice none 0 0) [] [] :=
  ⟨KeepBut.refl _ _ _, by
    have hlt := (List.getElem?_eq_some_iff.1 hi).1
    rw [show us.set i (.slice none 0 0) = us from by
      apply List.ext_getElem?
      intro j
      by_cases e1 : i = j
      · subst e1
        rw [List.getElem?_set_self hlt, hi]
      · rw [List.getElem?_set_ne e1]]
    exact h.blk, Q2.nil _ _, fun b hb => by simp [Value.ownBlock] at hb⟩
end Go.Proofs.Ythgnbeeobhfeaaa.T
end

section
/- Walks: what is needed (the document's). -/
namespace Go.Proofs.Ythgnbeeobhfeaaa.T
open Go.RowKit Go.Shelf Go.Proofs.YthgnbeeobhfeaaaW.PrintWords Go.Proofs.YthgnbeeobhfeaaaW.PrintLast
attribute [local go_sem] Oper.semAt_some

set_option maxRecDepth 100000 in
set_option maxHeartbeats 16000000 in
theorem rback_any (s : ByteArray) (p : Int) (A2 : Option Addr) (n2 c2 : Nat) (A3 : Option Addr) (c3 : Nat) (l03 : List S58) (n : Int) (Al : Option Addr) (cl : Nat) (cs : List S90) (w : World)
    (hC : Kd.C k58 w A3 l03.length l03) (hf : fewB l03 = true) (hn : n ≤ 30) (hCs : Kd.C k90 w Al cs.length cs) :
    Calls Try.prog 17 #[bodyV s p A2 n2 c2 A3 l03.length c3, .int .i64 n, .slice Al cs.length cl] w fun e w' => ∃ (g : Nat) (us : List Value), e = .returned (.slice (some ⟨g, 0, none⟩) l03.length l03.length) ∧ R3 w' g us (backL (bksOf l03) n.toNat (chs90 cs)) ∧ Below w.heap.size w w' := by
  have HC := Lib.hid hC
  have HCs := Lib.hid hCs
  have HF := Lib.hid hf
  have hm := (fewB_at hf).1
  have HBL := Lib.hid (bksOf_length l03)
  obtain ⟨N, hN⟩ : ∃ N, N = n.toNat := ⟨_, rfl⟩
  have hN30 : N ≤ 30 := by omega
  have HNN := Lib.hid hN
  have hmk := run_make_row' (P := Try.prog) 31 44 (.slice none 0 0) 24 Try.underlying31 info44 rfl .i64 .i64 l03.length (by omega) (by omega)
  have hp0 : Below w.heap.size w ((w.alloc (.cells (bodyC s p A2 n2 c2 A3 l03.length c3) 25)).alloc (.cells (madeCells #[.slice none 0 0] l03.length) 44)) := below_alloc (below_alloc (Below.refl _ _) _) _
  have hp1 : BoxIs ((w.alloc (.cells (bodyC s p A2 n2 c2 A3 l03.length c3) 25)).alloc (.cells (madeCells #[.slice none 0 0] l03.length) 44)) w.heap.size (bodyC s p A2 n2 c2 A3 l03.length c3) 25 := by
    have h1 : BoxIs (w.alloc (.cells (bodyC s p A2 n2 c2 A3 l03.length c3) 25)) w.heap.size (bodyC s p A2 n2 c2 A3 l03.length c3) 25 := heap_alloc_new w _
    exact h1.below (below_alloc (Below.refl _ _) _) h1.lt
  have hp2 : All ((w.alloc (.cells (bodyC s p A2 n2 c2 A3 l03.length c3) 25)).alloc (.cells (madeCells #[.slice none 0 0] l03.length) 44)) (w.heap.size + 1) l03.length (List.replicate l03.length (.slice none 0 0)) (layR (bksOf l03) N 0) := by
    have h := All.start (w.alloc (.cells (bodyC s p A2 n2 c2 A3 l03.length c3) 25)) l03.length (bksOf l03) N
    rwa [World.size_alloc] at h
  have HP0 := Lib.hid hp0
  have HP1 := Lib.hid hp1
  have HP2 := Lib.hid hp2
  clear hC hCs hf hN hp0 hp1 hp2
  go_enter Try.func17, Try.ntmps17
  go_upto_block 0 with fail
  clear hmk
  generalize ((w.alloc (.cells (bodyC s p A2 n2 c2 A3 l03.length c3) 25)).alloc (.cells (madeCells #[.slice none 0 0] l03.length) 44)) = w1 at *
  go_cut [8] from 21 to 49 (fun u8 wx => ∃ (us : List Value), Hid (All wx (w.heap.size + 1) l03.length us (startR (bksOf l03) N)) ∧ Hid (Below w.heap.size w wx) ∧ Hid (BoxIs wx w.heap.size (bodyC s p A2 n2 c2 A3 l03.length c3) 25))
  case first =>
    go_wp2_with fail
    go_loopw [8] (fun u8 wr => ∃ (i : Nat) (us : List Value), u8 = .int .i64 i ∧ i ≤ l03.length ∧ Hid (All wr (w.heap.size + 1) l03.length us (layR (bksOf l03) N i)) ∧ Hid (∀ t, i ≤ t → t < l03.length → us[t]? = some (.slice none 0 0)) ∧ Hid (Below w.heap.size w wr) ∧ Hid (BoxIs wr w.heap.size (bodyC s p A2 n2 c2 A3 l03.length c3) 25)) (fun u _ => l03.length - (intOf u).toNat)
    case atStart => exact ⟨0, _, rfl, Nat.zero_le _, HP2, Lib.hid (fun t _ h => by simp [h]), HP0, HP1⟩
    case round =>
      clear HP0 HP1 HP2
      obtain ⟨i, us, rfl, hi, HA, HNI, HB, HBX⟩ := hrel
      obtain ⟨Wi, rfl⟩ : ∃ x, x = wr := ⟨wr, rfl⟩
      by_cases hlti : i < l03.length
      · have HQI := Lib.hid (QI.init HA.out (HNI.out i (Nat.le_refl _) hlti))
        obtain ⟨ad, A0, d0, A16, d16, hA, hcc, _, _⟩ := bk_at HC.out i hlti
        have HA3 := Lib.hid hA
        have hI := (fewB_at HF.out).2 (rd_T58 l03 i) (by simp [rd_T58, List.getElem?_eq_getElem hlti, List.getD_eq_getElem?_getD])
        have hst : startR (bksOf l03) N i = List.replicate ((rd_T58 l03 i).f0.length + 2) (List.replicate N false) := by
          unfold startR
          rw [if_pos (by rw [HBL.out]; exact hlti), insN, rd_T58_get hlti]
          rfl
        have hzb := pw_cell_below HB.out hcc
        obtain ⟨I, hIe⟩ : ∃ I, I = (rd_T58 l03 i).f0.length := ⟨_, rfl⟩
        rw [← hIe] at hzb hI hst
        have hi30 : I ≤ 30 := hI.1
        have hcb := hcc
        rw [← hIe] at hcb
        have HZB := Lib.hid hcb
        have HST := Lib.hid hst
        have hiu : i < us.length := by rw [HA.out.len]; exact hlti
        have hwi : w.heap.size + 1 < Wi.heap.size := HA.out.blk.lt
        clear hcc hI hIe hzb hst hcb hA
        have HB0 := HB
        clear HB
        go_wp2_with fail
        go_loopw [9] (fun u9 wr => ∃ (k : Nat) (A5 : Option Addr) (c5 : Nat) (vs : List Value), u9 = .int .i64 k ∧ k ≤ I + 2 ∧ vs.length = k ∧ Hid (QI Wi wr (w.heap.size + 1) i us (.slice A5 k c5) vs (List.replicate k (List.replicate N false))) ∧ Hid (Below w.heap.size w wr) ∧ Hid (BoxIs wr w.heap.size (bodyC s p A2 n2 c2 A3 l03.length c3) 25)) (fun u _ => I + 3 - (intOf u).toNat)
        case atStart => exact ⟨0, none, 0, [], rfl, Nat.zero_le _, rfl, HQI, HB0, HBX⟩
        case round =>
          clear HQI HB0 HBX
          obtain ⟨k, A5, c5, vs, rfl, hk, hvl, HQI, HB, HBX⟩ := hrel
          obtain ⟨Wk, rfl⟩ : ∃ x, x = wr := ⟨wr, rfl⟩
          have e3 := HBX.out.cell 3 _ rfl
          rw [HA3.out] at e3
          have zb := pw_cell_below HB.out HZB.out
          by_cases hltk : k < I + 2
          · have hlt' : (k : Int) < (I : Int) + 2 := by omega
            have hgk : w.heap.size + 1 < Wk.heap.size := HQI.out.box.lt
            go_wp2_with fail
            refine start_ (n := 12) (S := fun w' => w'.cell? ⟨w.heap.size + 1, i, none⟩ = some (.slice A5 k c5)) (ds := [11]) #[false, false, false, false, false, false, false, false, false, false, false, false] (by kernel_rfl) rfl rfl ((HQI.out.below (below_drew (Below.refl _ _))).cell hiu) (fun hHeld => ?_)
            refine pure_ (i := 0) (N := some 39) (v := ?_) (a' := ?_) #[true, false, false, false, false, false, false, false, false, false, false, false] rfl rfl (by kernel_rfl) (fun _ _ _ h => h) (Or.inl ⟨by rfl, ?_⟩) ?_ ?_
            rotate_left
            · intro w'
              go_simp
              with_reducible rfl
            rotate_left
            · simp only [Act.put, List.setIfInBounds_toArray, List.set_cons_zero, List.set_cons_succ, i64_w, i32_w]
              rfl
            refine pure_ (i := 1) (N := some 40) (v := ?_) (a' := ?_) #[true, true, false, false, false, false, false, false, false, false, false, false] rfl rfl (by kernel_rfl) (fun _ _ _ h => h) (Or.inl ⟨by rfl, ?_⟩) ?_ ?_
            rotate_left
            · intro w'
              go_simp
              with_reducible rfl
            rotate_left
            · simp only [Act.put, List.setIfInBounds_toArray, List.set_cons_zero, List.set_cons_succ, i64_w, i32_w]
              rfl
            refine pure_ (i := 2) (N := some 41) (v := ?_) (a' := ?_) #[true, true, true, false, false, false, false, false, false, false, false, false] rfl rfl (by kernel_rfl) (fun _ _ _ h => h) (Or.inl ⟨by rfl, ?_⟩) ?_ ?_
            rotate_left
            · intro w'
              go_simp
              with_reducible rfl
            rotate_left
            · simp only [Act.put, List.setIfInBounds_toArray, List.set_cons_zero, List.set_cons_succ, i64_w, i32_w]
              rfl
            refine pure_ (i := 3) (N := some 42) (v := ?_) (a' := ?_) #[true, true, true, true, false, false, false, false, false, false, false, false] rfl rfl (by kernel_rfl) (fun _ _ _ h => h) (Or.inl ⟨by rfl, ?_⟩) ?_ ?_
            rotate_left
            · intro w'
              go_simp
              with_reducible rfl
            rotate_left
            · simp only [Act.put, List.setIfInBounds_toArray, List.set_cons_zero, List.set_cons_succ, i64_w, i32_w]
              rfl
            refine pure_ (i := 4) (N := some 43) (v := ?_) (a' := ?_) #[true, true, true, true, true, false, false, false, false, false, false, false] rfl rfl (by kernel_rfl) (fun _ _ _ h => h) (Or.inl ⟨by rfl, ?_⟩) ?_ ?_
            rotate_left
            · intro w'
              go_simp
              with_reducible rfl
            rotate_left
            · simp only [Act.put, List.setIfInBounds_toArray, List.set_cons_zero, List.set_cons_succ, i64_w, i32_w]
              rfl
            refine pure_ (i := 6) (N := some 45) (v := ?_) (a' := ?_) #[true, true, true, true, true, false, true, false, false, false, false, false] rfl rfl (by kernel_rfl) (fun _ _ _ h => h) (Or.inl ⟨by rfl, ?_⟩) ?_ ?_
            rotate_left
            · intro w'
              go_simp
              with_reducible rfl
            rotate_left
            · simp only [Act.put, List.setIfInBounds_toArray, List.set_cons_zero, List.set_cons_succ, i64_w, i32_w]
              rfl
            refine take_ (i := 5) (N := some 44) (v := ?_) (a' := ?_) #[true, true, true, true, true, true, true, false, false, false, false, false] rfl rfl (by kernel_rfl) (fun _ _ _ h => h) (Or.inl ⟨by rfl, ?_⟩) hHeld ?_ ?_
            rotate_left
            · intro w' s0
              go_simp
              with_reducible rfl
            rotate_left
            · simp only [Act.put, List.setIfInBounds_toArray, List.set_cons_zero, List.set_cons_succ, i64_w, i32_w]
              rfl
            refine one_ (i := 7) (N := some 46) #[true, true, true, true, true, true, true, true, false, false, false, false] rfl rfl (by kernel_rfl) (by decide) (fun K hK => ?_)
            refine goes_ Try.func35 (by kernel_rfl) rfl #[.int .i64 n, .bool false] (by rfl) rfl rfl (by simp only [List.map_toArray, List.map_cons, List.map_nil]; rfl) ?_
            with_reducible refine (rflags_any Wk.drew n false hn).mono ?_
            rintro e w5 ⟨v5, rfl, ho5, hb5⟩
            rw [← HNN.out] at ho5
            obtain ⟨Ax, cx, rfl⟩ : ∃ A c, v5 = .slice A N c := (by obtain ⟨A, c, h⟩ := own_slice ho5; exact ⟨A, c, by rw [h, List.length_replicate]⟩)
            refine ⟨_, rfl, ?_⟩
            have HO5 := Lib.hid ho5
            have HB5 := Lib.hid (below_then (below_drew (Below.refl Wk.heap.size Wk)) (Nat.le_refl _) hb5)
            have HQ5 := Lib.hid (HQI.out.below HB5.out)
            clear ho5 hb5
            refine hK.out _ _ (HQ5.out.cell hiu) (fun hHeld => ?_)
            clear hK K
            refine norm_ (a' := ?_) ?_ ?_
            rotate_left
            · show Act.put _ (some 46) _ = _
              simp only [Act.put, List.setIfInBounds_toArray, List.set_cons_zero, List.set_cons_succ, i64_w, i32_w]
              rfl
            refine one_ (i := 8) (N := some 47) #[true, true, true, true, true, true, true, true, true, false, false, false] rfl rfl (by kernel_rfl) (by decide) (fun K hK => ?_)
            refine value_ (w1 := ?_) (v := ?_) (by rfl) rfl ?_ ?_
            rotate_left 2
            · go_simp
              constructor
              · rfl
              · rfl
            refine hK.out _ _ ((HQ5.out.below (below_alloc (Below.refl _ _) _)).cell hiu) (fun hHeld => ?_)
            clear hK K
            refine norm_ (a' := ?_) ?_ ?_
            rotate_left
            · show Act.put _ (some 47) _ = _
              simp only [Act.put, List.setIfInBounds_toArray, List.set_cons_zero, List.set_cons_succ, i64_w, i32_w]
              rfl
            refine one_ (i := 9) (N := some 48) #[true, true, true, true, true, true, true, true, true, true, false, false] rfl rfl (by kernel_rfl) (by decide) (fun K hK => ?_)
            refine own_append_step (W := w5) (w.heap.size + 2) (by rfl) (.tmp 44) (.tmp 47) 44 26 (.slice none 0 0) 24 rfl Try.underlying44 info26 rfl (by decide) (.slice A5 k c5) vs (.slice Ax N cx) rfl rfl rfl HQ5.out.q.1 (by have := HQ5.out.box.lt; omega) (by omega) ?_
            intro v6 w6 ho6 hg6 hat6
            obtain ⟨A6, c6, rfl⟩ : ∃ A c, v6 = .slice A (k + 1) c := (by obtain ⟨A, c, h⟩ := own_slice ho6; exact ⟨A, c, by rw [h]; simp [hvl]⟩)
            have hb6 : Below (w.heap.size + 2) w5 w6 := (Below.refl _ _).grown hg6 (by have := HQ5.out.box.lt; omega) (fun b hb => own_base HQ5.out.q.1 b hb)
            obtain ⟨hcz, hfz⟩ := HQ5.out.after hiu hb6
            have HQ6 := Lib.hid (HQ5.out.append (own_weaken HO5.out (Nat.zero_le _)) (fun b hb => by have := own_base HO5.out b hb; simp at this; omega) ho6 hb6 hg6 hat6)
            have HB6 := Lib.hid ((below_then HB.out HB.out.size HB5.out).grown hg6 (by have := HB.out.size; have := HB5.out.size; omega) (fun b hb => by have := own_base HQ5.out.q.1 b hb; omega))
            have HBX6 := Lib.hid ((HBX.out.below HB5.out HBX.out.lt).grown hg6 (fun e => by have := own_base HQ5.out.q.1 _ e; omega))
            have HB7 := Lib.hid (below_set (j := i) HB6.out (Nat.le_succ _) (.slice A6 (k + 1) c6))
            have HBX7 : Hid (BoxIs (w6.setCell ⟨w.heap.size + 1, i, none⟩ (.slice A6 (k + 1) c6)) w.heap.size (bodyC s p A2 n2 c2 A3 l03.length c3) 25) := Lib.hid ((Below.heap_setCell w6 ⟨w.heap.size + 1, i, none⟩ (.slice A6 (k + 1) c6) w.heap.size (fun e => by simp only at e; omega)).trans HBX6.out)
            clear ho6 hb6 hg6 hat6
            refine hK.out _ _ (hcz) (fun hHeld => ?_)
            clear hK K
            refine norm_ (a' := ?_) ?_ ?_
            rotate_left
            · show Act.put _ (some 48) _ = _
              simp only [Act.put, List.setIfInBounds_toArray, List.set_cons_zero, List.set_cons_succ, i64_w, i32_w]
              rfl
            refine pure_ (i := 10) (N := some 49) (v := ?_) (a' := ?_) #[true, true, true, true, true, true, true, true, true, true, true, false] rfl rfl (by kernel_rfl) (fun _ _ _ h => h) (Or.inl ⟨by rfl, ?_⟩) ?_ ?_
            rotate_left
            · intro w'
              go_simp
              with_reducible rfl
            rotate_left
            · simp only [Act.put, List.setIfInBounds_toArray, List.set_cons_zero, List.set_cons_succ, i64_w, i32_w]
              rfl
            refine last_ (i := 11) (N := none) #[true, true, true, true, true, true, true, true, true, true, true, true] rfl rfl (by kernel_rfl) (by decide) (fun K hK => ?_)
            refine skip_ (w1 := ?_) (by rfl) rfl ?_ ?_
            rotate_left
            · go_simp
              rfl
            refine hK.out _ _ ?_
            clear hK K
            refine done_ (by kernel_rfl) ?_
            clear hHeld
            go_wp2_with fail
            go_roundw
            case rel => exact ⟨k + 1, A6, c6, vs ++ [.slice Ax N cx], by go_num, by omega, by simp [hvl], Lib.hid (by rw [List.replicate_succ']; exact HQ6.out), HB7, HBX7⟩
            case measure => first | (simp [intOf]; omega) | (simp [intOf]; done)
          · obtain rfl : k = I + 2 := by omega
            have hlt' : ¬ (((I + 2 : Nat) : Int) < (I : Int) + 2) := by omega
            have HA2 : Hid (All Wk (w.heap.size + 1) l03.length (us.set i (.slice A5 (I + 2) c5)) (layR (bksOf l03) N (i + 1))) := Lib.hid (All.laid HA.out (by rw [HST.out]; exact HQI.out) hlti)
            clear hltk hk HQI HA
            go_wp2_with fail
            go_roundw
            case rel => exact ⟨i + 1, us.set i (.slice A5 (I + 2) c5), by go_num, by omega, HA2, Lib.hid (fun t h1 h2 => by rw [List.getElem?_set_ne (by omega)]; exact HNI.out t (by omega) h2), HB, HBX⟩
            case measure => first | (simp [intOf]; omega) | (simp [intOf]; done)
      · obtain rfl : i = l03.length := by omega
        clear hlti hi
        go_wp2_with fail
        go_meet
        case rel => exact ⟨us, Lib.hid (HA.out.congr (fun t ht => by simp [layR, ht])), HB, HBX⟩
  case rest =>
    clear HP0 HP1 HP2
    obtain ⟨us, HA, HB, HBX⟩ := hcut
    have HQ0 : Hid (BQ (bksOf l03) (chs90 cs) N (startR (bksOf l03) N)) := Lib.hid BQ.begin
    go_upto_block 4 with fail
    go_cut [10] from 50 to 134 (fun u10 wx => ∃ (o : Nat → List (List Bool)), Hid (All wx (w.heap.size + 1) l03.length us o) ∧ Hid (∀ i, i < l03.length → o i = backStates (chs90 cs) i (insN (bksOf l03) i + 1) (endL (bksOf l03) N (chs90 cs) i)) ∧ Hid (Below w.heap.size w wx))
    case first =>
      go_wp2_with fail
      go_loopg [10] (potC (bksOf l03).length (startR (bksOf l03) N) + 1) (fun gk u10 wr => ∃ (ch : Bool) (o : Nat → List (List Bool)), u10 = .bool ch ∧ Hid (All wr (w.heap.size + 1) l03.length us o) ∧ Hid (BQ (bksOf l03) (chs90 cs) N o) ∧ Hid (ch = true → potC (bksOf l03).length o < gk) ∧ Hid (ch = false → ∀ i, i < l03.length → o i = backStates (chs90 cs) i (insN (bksOf l03) i + 1) (endL (bksOf l03) N (chs90 cs) i)) ∧ Hid (Below w.heap.size w wr) ∧ Hid (BoxIs wr w.heap.size (bodyC s p A2 n2 c2 A3 l03.length c3) 25))
      case atStart => exact ⟨true, _, rfl, HA, HQ0, Lib.hid (fun _ => by omega), Lib.hid (fun h => by cases h), HB, HBX⟩
      case round =>
        clear HA HQ0 HB HBX
        obtain ⟨ch, o, rfl, HA, HQ, HP, HD, HB, HBX⟩ := hrel
        cases ch with
        | false =>
          have HD2 := Lib.hid (HD.out rfl)
          clear HD HP
          go_wp2_with fail
          go_meet
          case rel => exact ⟨o, HA, HD2, HB⟩
        | true =>
          have hlt := HP.out rfl
          have HR0 := Lib.hid (BR.begin HQ.out)
          obtain ⟨P, hP⟩ : ∃ P, P = potC (bksOf l03).length o := ⟨_, rfl⟩
          rw [← hP] at hlt HR0
          clear hP HP HD HQ
          go_wp2_with fail
          go_loopw [10, 11] (fun u10 u11 wr => ∃ (ch : Bool) (i : Nat) (o : Nat → List (List Bool)), u10 = .bool ch ∧ u11 = .int .i64 i ∧ i ≤ l03.length ∧ Hid (All wr (w.heap.size + 1) l03.length us o) ∧ Hid (BR (bksOf l03) (chs90 cs) N P i ch o) ∧ Hid (Below w.heap.size w wr) ∧ Hid (BoxIs wr w.heap.size (bodyC s p A2 n2 c2 A3 l03.length c3) 25)) (fun _ u _ => l03.length - (intOf u).toNat)
          case atStart => exact ⟨false, 0, o, rfl, rfl, Nat.zero_le _, HA, HR0, HB, HBX⟩
          case round =>
            clear HR0 HA HB HBX
            obtain ⟨ch, i, o, rfl, rfl, hi, HA, HR, HB, HBX⟩ := hrel
            obtain ⟨Wi, rfl⟩ : ∃ x, x = wr := ⟨wr, rfl⟩
            by_cases hlti : i < l03.length
            · have hlb : i < (bksOf l03).length := by rw [HBL.out]; exact hlti
              have HSH := Lib.hid HR.out.q.shp
              have HGW : Hid (w.heap.size + 1 < Wi.heap.size) := Lib.hid HA.out.blk.lt
              go_wp2_with fail
              refine (rflags_any Wi n false hn).mono ?_
              rintro e w8 ⟨v8, rfl, ho8, hb8⟩
              rw [← HNN.out] at ho8
              obtain ⟨A8, c8, rfl⟩ : ∃ A c, v8 = .slice A N c := by
                obtain ⟨A, c, h⟩ := own_slice ho8
                exact ⟨A, c, by rw [h, List.length_replicate]⟩
              have HBX8 := Lib.hid (HBX.out.below hb8 HBX.out.lt)
              have HO8 := Lib.hid ho8
              have HB8 := Lib.hid hb8
              have e0 := HBX8.out.cell 0 _ rfl
              have e1 := HBX8.out.cell 1 _ rfl
              have e2 := HBX8.out.cell 2 _ rfl
              have e3 := HBX8.out.cell 3 _ rfl
              clear ho8 hb8
              go_wp2_with fail
              refine (rto_any s p A2 n2 c2 A3 c3 l03 i w8 (Kd.C_below HC.out (below_then HB.out HB.out.size HB8.out)) hlti HF.out).mono ?_
              rintro e w9 ⟨v9, rfl, ho9, hb9⟩
              have hmem : ∀ x ∈ succI (bksOf l03) i, ∃ q : Nat, x = q ∧ q < l03.length := fun x hx => by
                have h1 := mem_succI hx
                rw [HBL.out] at h1
                obtain ⟨q, rfl⟩ := Int.eq_ofNat_of_zero_le h1.1
                exact ⟨q, rfl, by omega⟩
              have htl : (succI (bksOf l03) i).length ≤ 30 := by
                have h1 := okTo_le (bksOf l03).length (((bksOf l03)[i]?.map Bk.to).getD [])
                rw [rd_T58_get hlti] at h1
                have h2 := ((fewB_at HF.out).2 (rd_T58 l03 i) (by simp [rd_T58, List.getElem?_eq_getElem hlti, List.getD_eq_getElem?_getD])).2
                have h3 : succI (bksOf l03) i = okTo (bksOf l03).length (((bksOf l03)[i]?.map Bk.to).getD []) := rfl
                rw [h3, rd_T58_get hlti]
                exact Nat.le_trans h1 h2
              have hin : backIn (bksOf l03) N o i = joinL o (succI (bksOf l03) i) (List.replicate N false) := rfl
              obtain ⟨pl, hpl⟩ : ∃ pl, pl = succI (bksOf l03) i := ⟨_, rfl⟩
              rw [← hpl] at ho9 hmem htl hin
              obtain ⟨A9, c9, rfl⟩ : ∃ A c, v9 = .slice A pl.length c := own_slice ho9
              have HO9 := Lib.hid ho9
              have HB9 := Lib.hid (below_then HB8.out HB8.out.size hb9)
              have HN9 : Hid (OB w9 Wi.heap.size (.slice A8 N c8) (List.replicate N false)) := Lib.hid (pw_own_below HO8.out hb9)
              have HMEM := Lib.hid hmem
              have HIN := Lib.hid hin
              clear ho9 hb9 hmem hin hpl HO8 HBX8 e0 e1 e2 e3 HB8
              have HOI0 : Hid (OI w9 0 (.slice A9 pl.length c9) pl) := Lib.hid (own_weaken HO9.out (Nat.zero_le _))
              clear HO9
              go_upto_block 8 with fail
              go_cut [14] from 62 to 94 (fun u14 wx => Hid (OB wx Wi.heap.size (.slice A8 N c8) (backIn (bksOf l03) N o i)) ∧ Hid (Below Wi.heap.size Wi wx))
              case first =>
                go_wp2_with fail
                go_loopw [14] (fun u wr => ∃ k : Nat, u = .int .i64 k ∧ k ≤ pl.length ∧ Hid (OB wr Wi.heap.size (.slice A8 N c8) (joinL o (pl.take k) (List.replicate N false))) ∧ Hid (OI wr 0 (.slice A9 pl.length c9) pl) ∧ Hid (Below Wi.heap.size Wi wr)) (fun u _ => pl.length - (intOf u).toNat)
                case atStart => exact ⟨0, rfl, Nat.zero_le _, HN9, HOI0, HB9⟩
                case round =>
                  clear HN9 HOI0 HB9
                  obtain ⟨k, rfl, hk, HON, HOI, HBN⟩ := hrel
                  obtain ⟨Wk, rfl⟩ : ∃ x, x = wr := ⟨wr, rfl⟩
                  by_cases hltk : k < pl.length
                  · obtain ⟨q, hq⟩ : ∃ q, pl[k]? = some q := ⟨_, List.getElem?_eq_getElem hltk⟩
                    obtain ⟨Q, rfl, hQ⟩ := HMEM.out q (List.mem_of_getElem? hq)
                    have hsn := joinL_snoc o (pl.take k) (Q : Int) (List.replicate N false)
                    rw [← take_snoc90 hq, Int.toNat_natCast] at hsn
                    have hxl := joinL_length HSH.out (pl.take k) (x := List.replicate N false) (by simp)
                    obtain ⟨hhl, hh0⟩ := (HSH.out Q).head
                    obtain ⟨uq, vq, huq, hqq⟩ := HA.out.get hQ
                    obtain ⟨bq, cq, vo, rfl, _, _, hc0, _, hoo, _, _⟩ := hqq.at_ hh0
                    obtain ⟨Ao, co, rfl⟩ : ∃ A c, vo = .slice A N c := by
                      obtain ⟨A, c, h⟩ := own_slice hoo
                      exact ⟨A, c, by rw [h, hhl]⟩
                    have hcq := HA.out.cell huq
                    have hlq : 0 < (o Q).length := (List.getElem?_eq_some_iff.1 hh0).1
                    obtain ⟨LQ, hLQ⟩ : ∃ LQ, LQ = (o Q).length := ⟨_, rfl⟩
                    rw [← hLQ] at hcq hlq
                    have p0 : ((0 : Int) ≤ (Q : Int)) = True := eq_true (by omega)
                    have p1 : ((Q : Int) < (l03.length : Int)) = True := eq_true (by omega)
                    have p2 : ((0 : Int) < (LQ : Int)) = True := eq_true (by omega)
                    have HXL := Lib.hid hxl
                    have HHL := Lib.hid hhl
                    have HSN := Lib.hid hsn
                    have HC0 := Lib.hid hc0
                    have HCQ := Lib.hid hcq
                    have HOO := Lib.hid hoo
                    have HQ := Lib.hid hq
                    clear hq hsn hxl hhl hh0 huq hqq hc0 hoo hcq hLQ
                    obtain ⟨X, hX⟩ : ∃ X, X = joinL o (pl.take k) (List.replicate N false) := ⟨_, rfl⟩
                    rw [← hX] at HXL HSN HON
                    obtain ⟨Z, hZ⟩ : ∃ Z, Z = hd0 (o Q) := ⟨_, rfl⟩
                    rw [← hZ] at HHL HSN HOO
                    have HM0 : Hid (OB Wk Wi.heap.size (.slice A8 N c8) (mergeT false X Z 0)) := Lib.hid (by rw [mergeT_zero]; exact HON.out)
                    clear hX hZ HON
                    go_wp2_with fail
                    go_loopw [15] (fun u wr2 => ∃ t : Nat, u = .int .i64 t ∧ t ≤ N ∧ Hid (OB wr2 Wi.heap.size (.slice A8 N c8) (mergeT false X Z t)) ∧ Hid (OI wr2 0 (.slice A9 pl.length c9) pl) ∧ Hid (Below Wi.heap.size Wi wr2)) (fun u _ => N - (intOf u).toNat)
                    case atStart => exact ⟨0, rfl, Nat.zero_le _, HM0, HOI, HBN⟩
                    case round =>
                      clear HM0 HBN HOI
                      obtain ⟨t, rfl, ht, HM, HOI, HBN⟩ := hrel
                      by_cases hltt : t < N
                      · obtain ⟨xa, hxa⟩ : ∃ xa, X[t]? = some xa := ⟨_, List.getElem?_eq_getElem (by rw [HXL.out]; exact hltt)⟩
                        obtain ⟨ya, hya⟩ : ∃ ya, Z[t]? = some ya := ⟨_, List.getElem?_eq_getElem (by rw [HHL.out]; exact hltt)⟩
                        have hXo : X.length = Z.length := HXL.out.trans HHL.out.symm
                        obtain ⟨gn, rfl, hcn⟩ := OB.at2 HM.out (mergeT_at hXo hxa)
                        obtain ⟨gy, rfl, hcy⟩ := OB.at2 HOO.out hya
                        obtain ⟨gt, rfl, hct⟩ := OI.at2 HOI.out HQ.out
                        have hml : (mergeT false X Z t).length = N := (mergeT_length hXo t (by rw [HXL.out]; omega)).trans HXL.out
                        have hoe : wr.ownsRow Wi.heap.size 4 1 (.slice (some ⟨gn, 0, none⟩) N c8) N (encs Value.bool (mergeT false X Z t)) := by
                          have h := HM.out
                          unfold OB at h
                          rwa [hml] at h
                        obtain ⟨_, hfz⟩ := own_at_of (enc := Value.bool) (d := false) hoe (t : Int) (by omega) (by omega)
                        rw [Int.toNat_natCast] at hfz
                        have hstep := mergeT_step (e := false) hXo hxa hya
                        have HFIN : Hid (∀ b, b = mergeB false xa ya → OB (wr.setCell ⟨gn, t, none⟩ (.bool b)) Wi.heap.size (.slice (some ⟨gn, 0, none⟩) N c8) (mergeT false X Z (t + 1))) := Lib.hid (fun b hb => by
                          obtain ⟨hst, _⟩ := own_store_of (enc := Value.bool) hoe (t : Int) b
                          rw [Int.toNat_natCast, hb, hstep] at hst
                          unfold OB
                          rw [mergeT_length hXo _ (by rw [HXL.out]; omega), HXL.out, hb]
                          exact hst)
                        have HBW : Hid (∀ b, Below Wi.heap.size Wi (wr.setCell ⟨gn, t, none⟩ b)) := Lib.hid (fun b => below_set HBN.out (own_base hoe gn rfl) b)
                        have HOW : Hid (∀ b, OI (wr.setCell ⟨gn, t, none⟩ b) 0 (.slice (some ⟨gt, 0, none⟩) pl.length c9) pl) := Lib.hid (fun b => own_move HOI.out (fun j e => Below.heap_setCell wr ⟨gn, t, none⟩ b j (fun q => by
                          rcases own_type_ne HOI.out hoe (by decide) with h5 | h5
                          · rw [h5] at e; cases e
                          · exact h5 (by rw [e]; simp only at q; rw [q]; rfl))))
                        have zo := pw_cell_below HBN.out HC0.out
                        have zq := pw_cell_below HBN.out HCQ.out
                        have zy := pw_cell_below HBN.out hcy
                        clear hxa hya hXo hml hoe hstep hcy
                        cases xa <;> cases ya <;>
                        · go_wp2_with fail
                          go_roundw
                          case rel => exact ⟨t + 1, by go_num, by omega, Lib.hid (HFIN.out _ rfl), Lib.hid (HOW.out _), Lib.hid (HBW.out _)⟩
                          case measure => first | (simp [intOf]; omega) | (simp [intOf]; done)
                      · obtain rfl : N = t := by omega
                        have HON : Hid (OB wr Wi.heap.size (.slice A8 N c8) (joinL o (pl.take (k + 1)) (List.replicate N false))) := Lib.hid (by
                          have h := HM.out
                          rw [show N = X.length from HXL.out.symm, mergeT_all (HXL.out.trans HHL.out.symm), ← HSN.out] at h
                          rwa [HXL.out] at h)
                        clear hltt ht HM
                        go_wp2_with fail
                        go_roundw
                        case rel => exact ⟨k + 1, by go_num, by omega, HON, HOI, HBN⟩
                        case measure => first | (simp [intOf]; omega) | (simp [intOf]; done)
                  · obtain rfl : k = pl.length := by omega
                    rw [List.take_length, ← HIN.out] at HON
                    clear hltk hk
                    go_wp2_with fail
                    go_meet
                    case rel => exact ⟨HON, HBN⟩
              case rest =>
                clear HN9 HOI0 HB9
                obtain ⟨HON, HBN⟩ := hcut
                obtain ⟨Wj, rfl⟩ : ∃ x, x = wc := ⟨wc, rfl⟩
                obtain ⟨hol, holn⟩ := HR.out.q.rows i hlb
                have hgl : (backG (bksOf l03) (chs90 cs) N o i).length = insN (bksOf l03) i + 2 := by rw [backG, backStates_length]; rfl
                have hgN := (backG_shp (bs := bksOf l03) (cs := chs90 cs) HSH.out i).2
                have hge : (backG (bksOf l03) (chs90 cs) N o i)[insN (bksOf l03) i + 1]? = some (backIn (bksOf l03) N o i) := rows_end _ _ _ _
                have hgs : ∀ k, k < insN (bksOf l03) i + 1 → ∃ y, (backG (bksOf l03) (chs90 cs) N o i)[k + 1]? = some y ∧ (backG (bksOf l03) (chs90 cs) N o i)[k]? = some (stepL (chs90 cs) i k y) := fun k hk => rows_step _ _ _ _ k hk
                have hi30 : insN (bksOf l03) i ≤ 30 := by
                  have hI := (fewB_at HF.out).2 (rd_T58 l03 i) (by simp [rd_T58, List.getElem?_eq_getElem hlti, List.getD_eq_getElem?_getD])
                  rw [insN, rd_T58_get hlti]
                  exact hI.1
                obtain ⟨Y, hY⟩ : ∃ Y, Y = backG (bksOf l03) (chs90 cs) N o i := ⟨_, rfl⟩
                rw [← hY] at hgl hgN hge hgs
                obtain ⟨L, hL⟩ : ∃ L, L = insN (bksOf l03) i + 2 := ⟨_, rfl⟩
                rw [← hL] at hol hgl
                have hL2 : 2 ≤ L := by omega
                have hL32 : L ≤ 32 := by omega
                rw [show insN (bksOf l03) i + 1 = L - 1 by omega] at hge hgs
                obtain ⟨hhl, hh0⟩ := (HSH.out i).head
                obtain ⟨ui, vi, hui, hqi⟩ := HA.out.get hlti
                obtain ⟨bi, ci, _, rfl, hbg, _, _, _, _, _, _⟩ := hqi.at_ hh0
                rw [hol] at hui
                have hqi' := hqi.1
                have HBI : Hid (w.heap.size + 1 < bi ∧ bi < Wi.heap.size) := Lib.hid ⟨by have := own_base hqi' bi rfl; omega, own_lt hqi' bi rfl⟩
                have HUI := Lib.hid hui
                have HOL := Lib.hid hol
                have HON2 := Lib.hid holn
                have HYL := Lib.hid hgl
                have HYN := Lib.hid hgN
                have HYE := Lib.hid hge
                have HYS := Lib.hid hgs
                have HY := Lib.hid hY
                have HAJ : Hid (All Wj (w.heap.size + 1) l03.length us (upd o i (mixR (o i) Y L))) := Lib.hid (by
                  rw [show mixR (o i) Y L = o i from by rw [← HYL.out]; exact mixR_all (by rw [HOL.out, HYL.out]), upd_eq rfl]
                  exact HA.out.below HBN.out)
                have HWJ := Lib.hid HBN.out.size
                have HBJ := Lib.hid (below_then HB.out HB.out.size HBN.out)
                have HBXJ := Lib.hid (HBX.out.below HBN.out HBX.out.lt)
                have hzi := HAJ.out.cell hui
                have hch0 : (ch || chR (o i) Y L) = ch := by rw [← HYL.out, chR_end (by rw [HOL.out, HYL.out]), Bool.or_false]
                have HCH0 := Lib.hid hch0
                obtain ⟨bin, hbin⟩ : ∃ bin, bin = backIn (bksOf l03) N o i := ⟨_, rfl⟩
                rw [← hbin] at HYE HON
                clear hol holn hgl hgN hge hgs hY hhl hh0 hui hqi hqi' hL hi30 HA HBN HB HBX hch0 hbin
                go_wp2_with fail
                go_loopw [10, 12, 16] (fun u10 u12 u16 wr => ∃ (k : Nat) (A : Option Addr) (c : Nat) (x : List Bool), u10 = .bool (ch || chR (o i) Y k) ∧ u12 = .slice A N c ∧ u16 = .int .i64 ((k : Int) - 1) ∧ k ≤ L ∧ Hid (All wr (w.heap.size + 1) l03.length us (upd o i (mixR (o i) Y k))) ∧ Hid (OB wr Wi.heap.size (.slice A N c) x) ∧ Hid (k = L → x = bin) ∧ Hid (k < L → Y[k]? = some x) ∧ Hid (Below w.heap.size w wr) ∧ Hid (BoxIs wr w.heap.size (bodyC s p A2 n2 c2 A3 l03.length c3) 25) ∧ Hid (Wi.heap.size ≤ wr.heap.size)) (fun _ _ u _ => (intOf u + 1).toNat)
                case atStart => exact ⟨L, A8, c8, bin, by rw [HCH0.out], rfl, by go_num, Nat.le_refl _, HAJ, HON, Lib.hid (fun _ => rfl), Lib.hid (fun h => by omega), HBJ, HBXJ, HWJ⟩
                case round =>
                  clear HAJ HON HBJ HBXJ HWJ hzi
                  obtain ⟨k, A, c, x, rfl, rfl, hu16, hk, HA, HON, HX0, HX1, HB, HBX, HW⟩ := hrel
                  obtain ⟨Wk, rfl⟩ : ∃ x, x = wr := ⟨wr, rfl⟩
                  cases k with
                  | zero =>
                    rw [show ((0 : Nat) : Int) - 1 = -1 by omega] at hu16
                    subst hu16
                    rw [mixR_zero] at HA
                    by_cases hne : Y = o i
                    · have hch : (ch || chR (o i) Y 0) = ch := by rw [chR_zero, hne]; simp
                      rw [hch]
                      have HR2 := Lib.hid (HR.out.same (by rw [← HY.out]; exact hne))
                      have HA2 : Hid (All Wk (w.heap.size + 1) l03.length us o) := Lib.hid (by have h := HA.out; rwa [upd_eq hne] at h)
                      clear hne hch HA HX0 HX1
                      go_wp2_with fail
                      go_roundw
                      case rel => exact ⟨ch, i + 1, o, rfl, by go_num, by omega, HA2, HR2, HB, HBX⟩
                      case measure => first | (simp [intOf]; omega) | (simp [intOf]; done)
                    · have hch : (ch || chR (o i) Y 0) = true := by rw [chR_zero]; have h0 : o i ≠ Y := fun h => hne h.symm; simp [h0]
                      rw [hch]
                      have HR2 := Lib.hid (HR.out.other hlb (by rw [← HY.out]; exact hne))
                      rw [← HY.out] at HR2
                      clear hne hch HX0 HX1
                      go_wp2_with fail
                      go_roundw
                      case rel => exact ⟨true, i + 1, _, rfl, by go_num, by omega, HA, HR2, HB, HBX⟩
                      case measure => first | (simp [intOf]; omega) | (simp [intOf]; done)
                  | succ K =>
                    rw [show ((K + 1 : Nat) : Int) - 1 = (K : Int) by omega] at hu16
                    subst hu16
                    obtain ⟨y, hy⟩ : ∃ y, Y[K]? = some y := ⟨_, List.getElem?_eq_getElem (by rw [HYL.out]; omega)⟩
                    obtain ⟨z, hz⟩ : ∃ z, (o i)[K]? = some z := ⟨_, List.getElem?_eq_getElem (by rw [HOL.out]; omega)⟩
                    have hyl : y.length = N := HYN.out y (List.mem_of_getElem? hy)
                    have hzl : z.length = N := HON2.out z (List.mem_of_getElem? hz)
                    have hsl : (mixR (o i) Y (K + 1)).length = L := by rw [mixR_length (by rw [HOL.out, HYL.out]), HYL.out]
                    have hmz : (mixR (o i) Y (K + 1))[K]? = some z := by rw [mixR_low (by rw [HOL.out, HYL.out]) (by rw [HOL.out]; omega), hz]
                    obtain ⟨vk, hqk⟩ := HA.out.row i _ HUI.out
                    rw [upd_at] at hqk
                    obtain ⟨bk, ck, vz, e1, _, _, hcz, hfz, hoz, _, _⟩ := hqk.at_ hmz
                    rw [hsl] at e1
                    injection e1 with e1 _ e2
                    injection e1 with e1
                    injection e1 with e1
                    subst e1 e2
                    obtain ⟨Az, cz, rfl⟩ : ∃ A c, vz = .slice A N c := by
                      obtain ⟨A, c, h⟩ := own_slice hoz
                      exact ⟨A, c, by rw [h, hzl]⟩
                    have hms := mixR_set (show (o i).length = Y.length by rw [HOL.out, HYL.out]) hy
                    have hcs := chR_step (x := o i) (y := Y) hz hy
                    have HST : Hid (∀ (W : World) (v : Value), Below Wk.heap.size Wk W → OB W Wi.heap.size v y → All (W.setCell ⟨bi, K, none⟩ v) (w.heap.size + 1) l03.length us (upd o i (mixR (o i) Y K)) ∧ W.cell? ⟨bi, K, none⟩ = some (.slice Az N cz) ∧ W.frozen? ⟨bi, K, none⟩ = false ∧ W.cell? ⟨w.heap.size + 1, i, none⟩ = some (.slice (some ⟨bi, 0, none⟩) L ci) ∧ Below w.heap.size w (W.setCell ⟨bi, K, none⟩ v) ∧ BoxIs (W.setCell ⟨bi, K, none⟩ v) w.heap.size (bodyC s p A2 n2 c2 A3 l03.length c3) 25 ∧ OB (W.setCell ⟨bi, K, none⟩ v) Wi.heap.size v y ∧ Wi.heap.size ≤ (W.setCell ⟨bi, K, none⟩ v).heap.size) := Lib.hid (fun W v hW hv => by
                      have hA := HA.out.below hW
                      have hh := hA.set (i := i) (b := bi) (c := ci) (k := K) (xss := mixR (o i) Y (K + 1)) (v := v) (x := y) (by rw [hsl]; exact HUI.out) (upd_at _ _ _) (own_weaken hv (Nat.zero_le _)) (fun e => by have := own_base hv _ e; have := HGW.out; omega) (by have := HBI.out.1; omega)
                      rw [upd_upd, hms] at hh
                      obtain ⟨vk', hqk'⟩ := hA.row i _ HUI.out
                      rw [upd_at] at hqk'
                      obtain ⟨b', c', v', f1, _, _, f2, f3, _, _, _⟩ := hqk'.at_ hmz
                      injection f1 with f1
                      injection f1 with f1
                      injection f1 with f1
                      subst f1
                      refine ⟨hh, pw_cell_below hW hcz, f3, hA.cell HUI.out, below_set (below_then HB.out HB.out.size hW) (by have := HBI.out.1; omega) v, (Below.heap_setCell W ⟨bi, K, none⟩ v w.heap.size (fun e => by have := HBI.out.1; simp only at e; omega)).trans (HBX.out.below hW HBX.out.lt), hv.far HBI.out.2 v, by rw [World.size_setCell]; exact Nat.le_trans HW.out hW.size⟩)
                    have HY1 := Lib.hid hy
                    have HYL1 := Lib.hid hyl
                    have HZL1 := Lib.hid hzl
                    have HOZ := Lib.hid hoz
                    have HCS := Lib.hid hcs
                    have hzi := HA.out.cell HUI.out
                    clear hz hsl hmz hqk hms hcs hcz hfz hoz hy hyl hzl
                    go_upto_if 112 with fail
                    go_cut [12] from 112 to 117 (fun u12 wx => ∃ (A' : Option Addr) (c' : Nat), u12 = .slice A' N c' ∧ Hid (OB wx Wi.heap.size (.slice A' N c') y) ∧ Hid (Below Wk.heap.size Wk wx))
                    case first =>
                      by_cases hKL : K + 1 < L
                      · have hlt1 : (K : Int) < (L : Int) - 1 := by omega
                        have hx1 := HX1.out hKL
                        obtain ⟨x', h1, h2⟩ := HYS.out K (by omega)
                        rw [hx1] at h1
                        obtain rfl := Option.some.inj h1
                        rw [HY1.out] at h2
                        have hyx := Option.some.inj h2
                        have hxl : x.length = N := HYN.out x (List.mem_of_getElem? hx1)
                        obtain ⟨Ae, ce, hve, hce, hCe⟩ := OB.reads HON.out
                        rw [hxl] at hve hce
                        injection hve with hv1 hv2 hv3
                        subst hv1 hv3
                        have hbe := rbefore_any A c x Al cl cs (i : Int) (K : Int) Wk hCe (by rw [hxl]; exact hce) (Kd.C_below HCs.out HB.out) (by omega)
                        rw [hxl, ← hyx] at hbe
                        have HBE := Lib.hid hbe
                        have hWW := HW.out
                        clear hx1 h2 hyx hxl hv2 hce hCe hbe h1
                        go_wp2_with fail
                        refine HBE.out.mono ?_
                        rintro e w9 ⟨v9, rfl, ho9, hb9⟩
                        obtain ⟨A9', c9', rfl⟩ : ∃ A c, v9 = .slice A N c := by
                          obtain ⟨A, c, h⟩ := own_slice ho9
                          exact ⟨A, c, by rw [h, HYL1.out]⟩
                        have HO9' := Lib.hid (own_weaken ho9 hWW)
                        have HB9' := Lib.hid hb9
                        clear ho9 hb9
                        go_wp2_with fail
                        go_meet
                        case rel => exact ⟨A9', c9', rfl, HO9', HB9'⟩
                      · have hlt1 : ¬ ((K : Int) < (L : Int) - 1) := by omega
                        have hxb := HX0.out (by omega)
                        have HO9' : Hid (OB Wk Wi.heap.size (.slice A N c) y) := Lib.hid (by
                          have h1 := HYE.out
                          rw [show L - 1 = K by omega, HY1.out] at h1
                          rw [Option.some.inj h1, ← hxb]
                          exact HON.out)
                        clear hxb hKL
                        go_wp2_with fail
                        go_meet
                        case rel => exact ⟨A, c, rfl, HO9', Lib.hid (Below.refl _ _)⟩
                    case rest =>
                      clear HON HX0 HX1 hzi
                      obtain ⟨A', c', rfl, HON, HBk⟩ := hcut
                      obtain ⟨Wx, rfl⟩ : ∃ x, x = wc := ⟨wc, rfl⟩
                      obtain ⟨_, hcz, _, hzi, _⟩ := HST.out Wx _ HBk.out HON.out
                      have hsm : Calls Try.prog 26 #[.slice A' N c', .slice Az N cz] Wx fun e w' => e = .returned (.bool (decide (y = z))) ∧ Drawn0 Wx w' := by
                        obtain ⟨A1, c1, h1, _, h1C⟩ := OB.reads HON.out
                        obtain ⟨A2', c2', h2, _, h2C⟩ := OB.reads (pw_own_below HOZ.out HBk.out)
                        rw [HYL1.out] at h1
                        rw [HZL1.out] at h2
                        injection h1 with h11 _ h13
                        injection h2 with h21 _ h23
                        subst h11 h13 h21 h23
                        have h := rsame_any Wx A' Az c' cz y z h1C h2C (by rw [HYL1.out, HZL1.out])
                        rwa [HYL1.out, HZL1.out] at h
                      have HSM := Lib.hid hsm
                      clear hsm
                      by_cases heq : y = z
                      · rw [decide_eq_true heq] at HSM
                        have HCH : Hid ((ch || chR (o i) Y K) = (ch || chR (o i) Y (K + 1))) := Lib.hid (by rw [HCS.out, decide_eq_true heq]; simp)
                        clear heq
                        go_wp2_with fail
                        refine HSM.out.mono ?_
                        rintro e Wy ⟨rfl, hd9⟩
                        obtain ⟨hf, hcz, hfz, hzi, hbw, hbx, hon, hww⟩ := HST.out Wy (.slice A' N c') (below_then HBk.out HBk.out.size hd9.below) (pw_own_below HON.out hd9.below)
                        have HF1 := Lib.hid hf
                        have HF2 := Lib.hid hbw
                        have HF3 := Lib.hid hbx
                        have HF4 := Lib.hid hon
                        have HF5 := Lib.hid hww
                        clear hf hbw hbx hon hww hd9 HSM HST
                        go_wp2_with fail
                        go_roundw
                        case rel => exact ⟨K, A', c', y, by rw [HCH.out], rfl, by go_num, by omega, HF1, HF4, Lib.hid (fun h => by omega), Lib.hid (fun _ => HY1.out), HF2, HF3, HF5⟩
                        case measure => first | (simp [intOf]; omega) | (simp [intOf]; done)
                      · rw [decide_eq_false heq] at HSM
                        have HCH : Hid ((ch || chR (o i) Y K) = true) := Lib.hid (by rw [HCS.out, decide_eq_false heq]; simp)
                        clear heq
                        go_wp2_with fail
                        refine HSM.out.mono ?_
                        rintro e Wy ⟨rfl, hd9⟩
                        obtain ⟨hf, hcz, hfz, hzi, hbw, hbx, hon, hww⟩ := HST.out Wy (.slice A' N c') (below_then HBk.out HBk.out.size hd9.below) (pw_own_below HON.out hd9.below)
                        have HF1 := Lib.hid hf
                        have HF2 := Lib.hid hbw
                        have HF3 := Lib.hid hbx
                        have HF4 := Lib.hid hon
                        have HF5 := Lib.hid hww
                        clear hf hbw hbx hon hww hd9 HSM HST
                        go_wp2_with fail
                        go_roundw
                        case rel => exact ⟨K, A', c', y, by rw [HCH.out], rfl, by go_num, by omega, HF1, HF4, Lib.hid (fun h => by omega), Lib.hid (fun _ => HY1.out), HF2, HF3, HF5⟩
                        case measure => first | (simp [intOf]; omega) | (simp [intOf]; done)
            · obtain rfl : i = l03.length := by omega
              clear hlti hi
              go_wp2_with fail
              go_roundg P
              case measure => exact hlt
              case rel => exact ⟨ch, o, rfl, HA, Lib.hid HR.out.q, Lib.hid (fun h => HR.out.less h), Lib.hid (fun h k hk => by subst h; have h2 := HR.out; rw [← HBL.out] at h2 hk; exact h2.done hk), HB, HBX⟩
    case rest =>
      clear HA HQ0 HB HBX
      obtain ⟨o, HA, HD, HB⟩ := hcut
      have HR3 : Hid (R3 wc (w.heap.size + 1) us (backL (bksOf l03) N (chs90 cs))) := Lib.hid (HA.out.r3 (by rw [rows_many, HBL.out]) (fun t xss h => by
        have ht : t < l03.length := by have := (List.getElem?_eq_some_iff.1 h).1; rwa [rows_many, HBL.out] at this
        rw [HD.out t ht]
        simp only [backL, List.getElem?_map, List.getElem?_range (show t < (bksOf l03).length by rw [HBL.out]; exact ht), Option.map_some, Option.some.injEq] at h
        exact h))
      clear HA HD
      go_wp2_with fail
      go_ret
      exact ⟨_, us, rfl, by rw [← HNN.out]; exact HR3.out, HB.out⟩
end Go.Proofs.Ythgnbeeobhfeaaa.T
end
