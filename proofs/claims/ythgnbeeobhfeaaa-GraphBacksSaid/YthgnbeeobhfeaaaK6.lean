/- Texts of this claim in one file: H11, H12, H13, H14. -/
import Derived.Test.YthgnbeeobhfeaaaK5
import Derived.Test.YthgnbeeobhfeaaaT12
import Derived.Laws.CopyOwn
import Derived.Test.YthgnbeeobhfeaaaT11
set_option linter.all false
section
/- Plainly: what the program's way of looking at blocks comes to (what holds). -/
namespace Go.Proofs.Ythgnbeeobhfeaaa.T

theorem comeL_ne {bs : List Bk} {e : Bool} {o : Nat → List Bool} {N j : Nat} (hj : j < N) (ho : ∀ i, (o i).length = N) : ∀ (l : List Int) {x : List Bool}, x.length = N →
    ((comeL bs e o l x)[j]? ≠ some e ↔ x[j]? ≠ some e ∨ ∃ p ∈ l, rchB bs p.toNat = true ∧ (o p.toNat)[j]? ≠ some e)
  | [], x, _ => by simp [comeL]
  | p :: l, x, hx => by
    have hstep : comeL bs e o (p :: l) x = comeL bs e o l (if rchB bs p.toNat then mergeL e x (o p.toNat) else x) := rfl
    have hl : (if rchB bs p.toNat then mergeL e x (o p.toNat) else x).length = N := by
      split
      · rw [mergeL_length (by rw [hx, ho]), hx]
      · exact hx
    rw [hstep, comeL_ne hj ho l hl]
    have hm : rchB bs p.toNat = true → ((mergeL e x (o p.toNat))[j]? ≠ some e ↔ x[j]? ≠ some e ∨ (o p.toNat)[j]? ≠ some e) := by
      intro _
      obtain ⟨a, ha⟩ : ∃ a, x[j]? = some a := ⟨_, List.getElem?_eq_getElem (by omega)⟩
      obtain ⟨b, hb⟩ : ∃ b, (o p.toNat)[j]? = some b := ⟨_, List.getElem?_eq_getElem (by rw [ho]; exact hj)⟩
      have hz : (mergeL e x (o p.toNat))[j]? = some (mergeB e a b) := by simp [mergeL, List.getElem?_zipWith, ha, hb]
      rw [hz, ha, hb]
      cases e <;> cases a <;> cases b <;> simp [mergeB]
    constructor
    · rintro (h | ⟨q, hq, h1, h2⟩)
      · by_cases hr : rchB bs p.toNat = true
        · rw [if_pos hr] at h
          rcases (hm hr).1 h with h | h
          · exact .inl h
          · exact .inr ⟨p, List.mem_cons_self, hr, h⟩
        · rw [if_neg hr] at h
          exact .inl h
      · exact .inr ⟨q, List.mem_cons_of_mem _ hq, h1, h2⟩
    · rintro (h | ⟨q, hq, h1, h2⟩)
      · left
        split
        · rename_i hr
          exact (hm hr).2 (.inl h)
        · exact h
      · rcases List.mem_cons.1 hq with rfl | hq
        · left
          rw [if_pos h1]
          exact (hm h1).2 (.inr h2)
        · exact .inr ⟨q, hq, h1, h2⟩
theorem mem_predsL {bs : List Bk} {n : Nat} {x : Int} : x ∈ predsL bs n ↔ ∃ p : Nat, x = p ∧ edge bs p n = true := by
  simp only [predsL, List.mem_map, List.mem_filter, List.mem_range]
  constructor
  · rintro ⟨i, ⟨_, h2⟩, rfl⟩
    exact ⟨i, rfl, h2⟩
  · rintro ⟨p, rfl, h⟩
    exact ⟨p, ⟨(edge_lt h).2, h⟩, rfl⟩
section
variable {bs : List Bk} {N : Nat} {start : List Bool} {cs : List Ch} {e : Bool} {o o' : Nat → List Bool}
theorem firstL_length : (firstL N start).length = N := by simp [firstL]
theorem into_length (ho : ∀ i, (o i).length = N) (n : Nat) : (intoL bs N (firstL N start) e o n).length = N := comeL_length ho _ (by split <;> simp [firstL_length])
theorem into_ne (ho : ∀ i, (o i).length = N) (n : Nat) {j : Nat} (hj : j < N) :
    (intoL bs N (firstL N start) e o n)[j]? ≠ some e ↔ (n = 0 ∧ start.getD j false ≠ e) ∨ ∃ p : Nat, edge bs p n = true ∧ rchB bs p = true ∧ (o p)[j]? ≠ some e := by
  rw [intoL, comeL_ne hj ho _ (by split <;> simp [firstL_length])]
  constructor
  · rintro (h | ⟨x, hx, h1, h2⟩)
    · by_cases h0 : n = 0
      · rw [if_pos h0] at h
        refine .inl ⟨h0, fun q => h ?_⟩
        simp only [firstL, List.getElem?_map, List.getElem?_range hj, Option.map_some, q]
      · rw [if_neg h0] at h
        exact absurd (by simp [hj]) h
    · obtain ⟨p, rfl, hp⟩ := mem_predsL.1 hx
      exact .inr ⟨p, hp, h1, h2⟩
  · rintro (⟨h0, h⟩ | ⟨p, hp, h1, h2⟩)
    · left
      rw [if_pos h0]
      intro q
      simp only [firstL, List.getElem?_map, List.getElem?_range hj, Option.map_some, Option.some.injEq] at q
      exact h q
    · exact .inr ⟨(p : Int), mem_predsL.2 ⟨p, rfl, hp⟩, h1, h2⟩
end
/-- What a block leaves. -/
noncomputable def leaveL (bs : List Bk) (cs : List Ch) (N : Nat) (start : List Bool) (e : Bool) (o : Nat → List Bool) (n : Nat) : List Bool :=
  runL cs n 0 ((bs[n]?.map Bk.ins).getD 0 + 1) (intoL bs N (firstL N start) e o n)
section
variable {bs : List Bk} {N : Nat} {start : List Bool} {cs : List Ch} {e : Bool} {o o' : Nat → List Bool}
theorem leave_length (ho : ∀ i, (o i).length = N) (n : Nat) : (leaveL bs cs N start e o n).length = N := (runL_length _ _ _).trans (into_length ho n)
theorem leave_get (ho : ∀ i, (o i).length = N) (n : Nat) {j : Nat} {x : Bool} (hx : (intoL bs N (firstL N start) e o n)[j]? = some x) : (leaveL bs cs N start e o n)[j]? = some (blockB bs cs j n x) := runL_get _ 0 hx
theorem into_some (ho : ∀ i, (o i).length = N) (n : Nat) {j : Nat} (hj : j < N) : ∃ x, (intoL bs N (firstL N start) e o n)[j]? = some x := ⟨_, List.getElem?_eq_getElem (by rw [into_length ho]; exact hj)⟩
/-- More that moves on leaves no less. -/
theorem leave_mono (ho : ∀ i, (o i).length = N) (ho' : ∀ i, (o' i).length = N) (h : ∀ i j, j < N → (o i)[j]? ≠ some e → (o' i)[j]? ≠ some e) (n : Nat) {j : Nat} (hj : j < N) (hl : (leaveL bs cs N start e o n)[j]? ≠ some e) : (leaveL bs cs N start e o' n)[j]? ≠ some e := by
  obtain ⟨x, hx⟩ := into_some (bs := bs) (start := start) (e := e) ho n hj
  obtain ⟨y, hy⟩ := into_some (bs := bs) (start := start) (e := e) ho' n hj
  rw [leave_get ho n hx] at hl
  rw [leave_get ho' n hy]
  have hxy : x ≠ e → y ≠ e := by
    intro h1 h2
    have h3 := (into_ne (bs := bs) (start := start) (e := e) ho n hj).1 (by rw [hx]; simpa using h1)
    have h4 := (into_ne (bs := bs) (start := start) (e := e) ho' n hj).2 (h3.imp id (fun ⟨p, a, b, c⟩ => ⟨p, a, b, h p j hj c⟩))
    rw [hy, h2] at h4
    exact h4 rfl
  intro q
  exact mono_ne (blockB_mono bs cs j n) hxy (fun r => hl (by rw [r])) (by simpa using q)
end
/-- What is known on the way. -/
structure FPhi (bs : List Bk) (cs : List Ch) (N : Nat) (start : List Bool) (e : Bool) (l : List Int) (o : Nat → List Bool) : Prop where
  rng : ∀ x ∈ l, ∃ n : Nat, x = n ∧ Rch bs n
  len : ∀ i, (o i).length = N
  snd : ∀ i j, j < N → (o i)[j]? ≠ some e → Rch bs i ∧ blockB bs cs j i (inV bs start cs e j i) ≠ e
  grow : ∀ i j, j < N → (o i)[j]? ≠ some e → (leaveL bs cs N start e o i)[j]? ≠ some e
  work : ∀ i : Nat, Rch bs i → (i : Int) ∉ l → leaveL bs cs N start e o i = o i
/-- How many flags have not moved. -/
def potL (m : Nat) (e : Bool) (o : Nat → List Bool) : Nat := ((List.range m).map fun i => (o i).count e).sum
section
variable {bs : List Bk} {N : Nat} {start : List Bool} {cs : List Ch} {e : Bool} {o : Nat → List Bool} {l : List Int}
theorem list_same {x y : List Bool} (hl : x.length = y.length) (h : ∀ j, j < x.length → (x[j]? ≠ some e ↔ y[j]? ≠ some e)) : x = y := by
  apply List.ext_getElem?
  intro j
  by_cases hj : j < x.length
  · obtain ⟨a, ha⟩ : ∃ a, x[j]? = some a := ⟨_, List.getElem?_eq_getElem hj⟩
    obtain ⟨b, hb⟩ : ∃ b, y[j]? = some b := ⟨_, List.getElem?_eq_getElem (by omega)⟩
    have := h j hj
    rw [ha, hb] at this ⊢
    cases e <;> cases a <;> cases b <;> simp_all
  · rw [List.getElem?_eq_none (by omega), List.getElem?_eq_none (by omega)]
theorem replicate_at {N j : Nat} (hj : j < N) : (List.replicate N e)[j]? = some e := by simp [hj]
theorem FPhi.begin (h : ∀ x ∈ l, ∃ n : Nat, x = n ∧ Rch bs n) (hall : ∀ i, Rch bs i → (i : Int) ∈ l) : FPhi bs cs N start e l (fun _ => List.replicate N e) :=
  ⟨h, fun _ => by simp, fun i j hj hn => absurd (replicate_at hj) hn, fun i j hj hn => absurd (replicate_at hj) hn, fun i hi hn => absurd (hall i hi) hn⟩
theorem FPhi.equal {n : Nat} (h : FPhi bs cs N start e ((n : Int) :: l) o) (he : leaveL bs cs N start e o n = o n) : FPhi bs cs N start e l o := by
  refine ⟨fun x hx => h.rng x (List.mem_cons_of_mem _ hx), h.len, h.snd, h.grow, fun i hi hn => ?_⟩
  by_cases e1 : i = n
  · rw [e1]; exact he
  · exact h.work i hi (fun hm => by
      rcases List.mem_cons.1 hm with hm | hm
      · exact e1 (by omega)
      · exact hn hm)
theorem upd_len {n : Nat} (h : ∀ i, (o i).length = N) : ∀ i, (upd o n (leaveL bs cs N start e o n) i).length = N := fun i => by
  unfold upd
  split
  · exact leave_length h n
  · exact h i
theorem into_upd {n k : Nat} {x : List Bool} (hk : edge bs n k = false) : intoL bs N (firstL N start) e (upd o n x) k = intoL bs N (firstL N start) e o k := by
  unfold intoL comeL
  have key : ∀ (ps : List Int), (∀ p ∈ ps, p.toNat ≠ n) → ∀ a, List.foldl (fun s (p : Int) => if rchB bs p.toNat = true then mergeL e s (upd o n x p.toNat) else s) a ps = List.foldl (fun s (p : Int) => if rchB bs p.toNat = true then mergeL e s (o p.toNat) else s) a ps := by
    intro ps
    induction ps with
    | nil => intro _ a; rfl
    | cons p ps ih =>
      intro hp a
      rw [List.foldl_cons, List.foldl_cons, ih (fun q hq => hp q (List.mem_cons_of_mem _ hq))]
      have : upd o n x p.toNat = o p.toNat := by simp [upd, hp p List.mem_cons_self]
      rw [this]
  refine key _ (fun p hp e1 => ?_) _
  obtain ⟨q, rfl, hq⟩ := mem_predsL.1 hp
  rw [Int.toNat_natCast] at e1
  rw [e1, hk] at hq
  cases hq
theorem FPhi.change {n : Nat} (h : FPhi bs cs N start e ((n : Int) :: l) o) : FPhi bs cs N start e (putAll l (succI bs n)) (upd o n (leaveL bs cs N start e o n)) := by
  obtain ⟨n', hn', hrn⟩ := h.rng n List.mem_cons_self
  obtain rfl : n = n' := by omega
  have hlen := upd_len (bs := bs) (cs := cs) (start := start) (e := e) (n := n) h.len
  have hup : ∀ i j, j < N → (o i)[j]? ≠ some e → (upd o n (leaveL bs cs N start e o n) i)[j]? ≠ some e := fun i j hj hne => by
    unfold upd
    split
    · rename_i e1
      rw [e1] at hne
      exact h.grow n j hj hne
    · exact hne
  have hsnd : ∀ i j, j < N → (upd o n (leaveL bs cs N start e o n) i)[j]? ≠ some e → Rch bs i ∧ blockB bs cs j i (inV bs start cs e j i) ≠ e := by
    intro i j hj hne
    unfold upd at hne
    split at hne
    · rename_i e1
      subst e1
      refine ⟨hrn, ?_⟩
      obtain ⟨x, hx⟩ := into_some (bs := bs) (start := start) (e := e) h.len i hj
      rw [leave_get h.len i hx] at hne
      refine mono_ne (blockB_mono bs cs j i) (fun hxe => ?_) (fun r => hne (by rw [r]))
      have h3 := (into_ne (bs := bs) (start := start) (e := e) h.len i hj).1 (by rw [hx]; simpa using hxe)
      refine mvV_ne.2 ?_
      rcases h3 with ⟨h0, hs⟩ | ⟨p, hp, hr, ho⟩
      · exact .start ⟨h0, hs⟩
      · exact Mv.edge (E := fun p m => Rch bs p ∧ edge bs p m = true) ⟨rchB_iff.1 hr, hp⟩ (h.snd p j hj ho).2
    · exact h.snd i j hj hne
  refine ⟨fun x hx => ?_, hlen, hsnd, fun i j hj hne => ?_, fun i hi hn => ?_⟩
  · rcases putAll_mem.1 hx with hx | hx
    · exact h.rng x (List.mem_cons_of_mem _ hx)
    · have h1 := mem_succI hx
      obtain ⟨k, rfl⟩ := Int.eq_ofNat_of_zero_le h1.1
      exact ⟨k, rfl, .step hrn (edge_iff.2 hx)⟩
  · unfold upd at hne
    split at hne
    · rename_i e1
      subst e1
      exact leave_mono h.len hlen hup i hj hne
    · exact leave_mono h.len hlen hup i hj (h.grow i j hj hne)
  · have hnm : ∀ hm : (i : Int) ∈ succI bs n, False := fun hm => hn (putAll_mem.2 (.inr hm))
    have hed : edge bs n i = false := by
      cases hq : edge bs n i with
      | false => rfl
      | true => exact (hnm (edge_iff.1 hq)).elim
    have hlv : leaveL bs cs N start e (upd o n (leaveL bs cs N start e o n)) i = leaveL bs cs N start e o i := by
      unfold leaveL
      rw [into_upd hed]
    rw [hlv]
    unfold upd
    split
    · rename_i e1
      rw [e1]
    · rename_i e1
      refine h.work i hi (fun hm => ?_)
      rcases List.mem_cons.1 hm with hm | hm
      · exact e1 (by omega)
      · exact hn (putAll_mem.2 (.inl hm))
/-- What is left when nothing waits. -/
theorem FPhi.done (h : FPhi bs cs N start e [] o) {n : Nat} (hn : Rch bs n) : intoL bs N (firstL N start) e o n = inL bs N start cs e n := by
  have hset : ∀ i, Rch bs i → leaveL bs cs N start e o i = o i := fun i hi => h.work i hi (by simp)
  refine list_same (e := e) (by rw [into_length h.len]; simp [inL]) (fun j hj => ?_)
  rw [into_length h.len] at hj
  have hin : (inL bs N start cs e n)[j]? = some (inV bs start cs e j n) := by simp [inL, hj]
  rw [hin]
  have key : ∀ i, (intoL bs N (firstL N start) e o i)[j]? ≠ some e ↔ Mv e (fun m => m = 0 ∧ start.getD j false ≠ e) (blockB bs cs j) (fun p m => Rch bs p ∧ edge bs p m = true) i := by
    intro i
    constructor
    · intro hi
      rcases (into_ne (bs := bs) (start := start) (e := e) h.len i hj).1 hi with ⟨h0, hs⟩ | ⟨p, hp, hr, ho⟩
      · exact .start ⟨h0, hs⟩
      · exact Mv.edge ⟨rchB_iff.1 hr, hp⟩ (h.snd p j hj ho).2
    · intro hi
      have := Mv.least (v := fun i => ((intoL bs N (firstL N start) e o i)[j]?).getD e) (blockB_mono bs cs j) (fun m hm => ?_) (fun p m hpm hv => ?_) hi
      · intro q
        exact this (by simp [q])
      · have h1 := (into_ne (bs := bs) (start := start) (e := e) h.len m hj).2 (.inl hm)
        obtain ⟨x, hx⟩ := into_some (bs := bs) (start := start) (e := e) h.len m hj
        rw [hx] at h1
        simp only [hx, Option.getD_some]
        exact fun q => h1 (by rw [q])
      · obtain ⟨x, hx⟩ := into_some (bs := bs) (start := start) (e := e) h.len p hj
        simp only [hx, Option.getD_some] at hv
        have h2 := leave_get (cs := cs) h.len p hx
        rw [hset p hpm.1] at h2
        have h1 := (into_ne (bs := bs) (start := start) (e := e) h.len m hj).2 (.inr ⟨p, hpm.2, rchB_iff.2 hpm.1, by rw [h2]; exact fun q => hv (Option.some.inj q)⟩)
        obtain ⟨y, hy⟩ := into_some (bs := bs) (start := start) (e := e) h.len m hj
        rw [hy] at h1
        simp only [hy, Option.getD_some]
        exact fun q => h1 (by rw [q])
  rw [key n]
  constructor
  · intro hm q
    exact (mvV_ne.2 hm) (Option.some.inj q)
  · intro hq
    exact mvV_ne.1 (fun q => hq (by rw [inV, q]))
end
theorem count_less {e : Bool} : ∀ {x y : List Bool}, x.length = y.length → (∀ j, j < x.length → x[j]? ≠ some e → y[j]? ≠ some e) → y.count e ≤ x.count e ∧ (x ≠ y → y.count e < x.count e)
  | [], [], _, _ => by simp
  | [], b :: y, h, _ => by simp at h
  | a :: x, [], h, _ => by simp at h
  | a :: x, b :: y, h, hm => by
    have ih := count_less (e := e) (x := x) (y := y) (by simpa using h) (fun j hj hn => by
      have := hm (j + 1) (by simp; omega) (by simpa using hn)
      simpa using this)
    have h0 := hm 0 (by simp)
    simp only [List.getElem?_cons_zero, ne_eq, Option.some.injEq] at h0
    rw [List.count_cons, List.count_cons]
    refine ⟨?_, fun hne => ?_⟩
    · cases e <;> cases a <;> cases b <;> simp at h0 ⊢ <;> omega
    · by_cases hxy : x = y
      · subst hxy
        have hab : a ≠ b := fun q => hne (by rw [q])
        cases e <;> cases a <;> cases b <;> simp at h0 hab ⊢
      · have := ih.2 hxy
        cases e <;> cases a <;> cases b <;> simp at h0 ⊢ <;> omega
theorem sum_less (f h : Nat → Nat) : ∀ (l : List Nat), (∀ i ∈ l, h i ≤ f i) → (l.map h).sum ≤ (l.map f).sum ∧ (∀ n ∈ l, h n < f n → (l.map h).sum < (l.map f).sum)
  | [], _ => by simp
  | a :: l, hl => by
    have ih := sum_less f h l (fun i hi => hl i (List.mem_cons_of_mem _ hi))
    have ha := hl a List.mem_cons_self
    simp only [List.map_cons, List.sum_cons]
    refine ⟨by omega, fun n hn hlt => ?_⟩
    rcases List.mem_cons.1 hn with rfl | hn
    · omega
    · have := ih.2 n hn hlt
      omega
theorem pot_less {bs : List Bk} {N : Nat} {start : List Bool} {cs : List Ch} {e : Bool} {o : Nat → List Bool} {l : List Int} {n : Nat} (h : FPhi bs cs N start e ((n : Int) :: l) o) (hne : leaveL bs cs N start e o n ≠ o n) (hn : n < bs.length) :
    potL bs.length e (upd o n (leaveL bs cs N start e o n)) < potL bs.length e o := by
  have hc := count_less (e := e) (x := o n) (y := leaveL bs cs N start e o n) (by rw [h.len, leave_length h.len]) (fun j hj => h.grow n j (by rw [← h.len n]; exact hj))
  refine (sum_less (fun i => (o i).count e) (fun i => (upd o n (leaveL bs cs N start e o n) i).count e) (List.range bs.length) (fun i _ => ?_)).2 n (List.mem_range.2 hn) ?_
  · simp only [upd]
    split
    · rename_i e1
      rw [e1]
      exact hc.1
    · exact Nat.le_refl _
  · simp only [upd, if_true]
    exact hc.2 (fun q => hne q.symm)
/-- The way of what holds. -/
theorem flow_way (bs : List Bk) (cs : List Ch) (N : Nat) (start : List Bool) (e : Bool) : Way (List Bool) bs.length (fun o n => leaveL bs cs N start e o n) (fun n => succI bs n) (fun x y => decide (x = y)) (FPhi bs cs N start e) (potL bs.length e) := by
  refine ⟨fun l o h x hx => ?_, fun n l o h he => h.equal (of_decide_eq_true he), fun n l o h he => ⟨h.change, ?_⟩, fun n x hx => mem_succI hx⟩
  · obtain ⟨n, rfl, hn⟩ := h.rng x hx
    have := hn.lt
    omega
  · obtain ⟨n', hn', hr⟩ := h.rng n List.mem_cons_self
    obtain rfl : n = n' := by omega
    exact pot_less h (of_decide_eq_false he) hr.lt
end Go.Proofs.Ythgnbeeobhfeaaa.T
end

section
/- Walks: what a flow looks at (the program's). -/
namespace Go.Proofs.Ythgnbeeobhfeaaa.T
open Go.RowKit Go.Shelf Go.Proofs.YthgnbeeobhfeaaaW.PrintWords Go.Proofs.YthgnbeeobhfeaaaW.PrintLast

theorem seq_more {α : Type} {F : Fence} {n : Nat} {P : Program} {g : Nat} {lb : Array Value} {encs : α → Array Value} {Kp : World → World → Prop} {S Sp : List α → Prop} {N N' : Nat} {w : World} (h : SeqStopsK F n P g lb encs Kp S Sp N w) (hN : N ≤ N') : SeqStopsK F n P g lb encs Kp S Sp N' w :=
  fun l J Jx W a b c hY h0 => h l J Jx W a b c (fun pre x W1 hj hl => hY pre x W1 hj (Nat.lt_of_lt_of_le hl hN)) h0

/-- What a flow's walk holds between its looks: a flow, the box of its pointer (gc), the box of its body (gbb). -/
structure FlowSt (w0 : World) (B0 gf gc gbb mb N : Nat) (s : ByteArray) (p : Int) (A2 : Option Addr) (n2 c2 : Nat) (A3 : Option Addr) (c3 : Nat) (l03 : List S58) (cs : List S66) (first : List Bool) (every : Bool) (vf vr vp : Value) (go capo : Nat) (o : Nat → List Bool) (W : World) : Prop where
  flow : FlowAt w0 W gf mb N s p A2 n2 c2 A3 c3 l03 cs first every vf vr vp (.slice (some ⟨go, 0, none⟩) l03.length capo) o
  prd : ∃ vs, RR W w0.heap.size 3 42 (fun k => k < B0) vp vs (((List.range l03.length).map (predsL (bksOf l03))).map (encs (Value.int .i64)))
  box : BoxIs W gc #[.pointer (some ⟨gf, 0, none⟩)] 73
  bod : BoxIs W gbb (bodyC s p A2 n2 c2 A3 l03.length c3) 25
  len : ∀ i, (o i).length = N
  hmb : mb < B0
  hw0 : w0.heap.size ≤ B0
section
variable {w0 : World} {B0 gf gc gbb mb N : Nat} {s : ByteArray} {p : Int} {A2 : Option Addr} {n2 c2 : Nat} {A3 : Option Addr} {c3 : Nat} {l03 : List S58} {cs : List S66} {first : List Bool} {every : Bool} {vf vr vp : Value} {go capo : Nat} {o : Nat → List Bool} {W W' : World}
theorem FlowSt.below (h : FlowSt w0 B0 gf gc gbb mb N s p A2 n2 c2 A3 c3 l03 cs first every vf vr vp go capo o W) (hb : Below W.heap.size W W') : FlowSt w0 B0 gf gc gbb mb N s p A2 n2 c2 A3 c3 l03 cs first every vf vr vp go capo o W' := by
  obtain ⟨vs, hp⟩ := h.prd
  exact ⟨h.flow.below hb, ⟨vs, hp.below hb⟩, h.box.below hb h.box.lt, h.bod.below hb h.bod.lt, h.len, h.hmb, h.hw0⟩
/-- Nothing of other types, and nothing elder but one row of type 26, has been written. -/
theorem FlowSt.typed (h : FlowSt w0 B0 gf gc gbb mb N s p A2 n2 c2 A3 c3 l03 cs first every vf vr vp go capo o W) (hb : Below w0.heap.size W W') (hmap : W'.heap[mb]? = W.heap[mb]?) (hold : ∀ k, k < B0 → k < W.heap.size → (∃ c t, W.heap[k]? = some (.cells c t (0, 0)) ∧ (t = 3 ∨ t = 42)) → W'.heap[k]? = W.heap[k]?)
    (hty : ∀ k, k < W.heap.size → (∃ c t, W.heap[k]? = some (.cells c t (0, 0)) ∧ t ≠ 3 ∧ t ≠ 105 ∧ t ≠ 26) → W'.heap[k]? = W.heap[k]?) {o' : Nat → List Bool} (hlen : ∀ i, (o' i).length = N)
    (hout : ∃ vs, W'.ownsRow w0.heap.size 26 1 (.slice (some ⟨go, 0, none⟩) l03.length capo) vs.length vs ∧ vs.length = l03.length ∧ ∀ i u, vs[i]? = some u → OB W' w0.heap.size u (o' i)) : FlowSt w0 B0 gf gc gbb mb N s p A2 n2 c2 A3 c3 l03 cs first every vf vr vp go capo o' W' := by
  have bx : ∀ {k : Nat} {c : Array Value} {t : TypeId}, BoxIs W k c t → t ≠ 3 → t ≠ 105 → t ≠ 26 → BoxIs W' k c t := fun hbx h1 h2 h3 => (hty _ hbx.lt ⟨_, _, hbx, h1, h2, h3⟩).trans hbx
  have ow : ∀ {u : Value} {x : List Bool}, OB W w0.heap.size u x → OB W' w0.heap.size u x := fun hq => own_move hq (fun k e => by
    obtain ⟨c, hc⟩ := own_typed hq k e
    exact hty k (own_lt hq k e) ⟨c, 4, hc, by decide, by decide, by decide⟩)
  obtain ⟨n0, f, hM, hT⟩ := h.flow.tab
  obtain ⟨vs, hp⟩ := h.prd
  have hp' : RR W' w0.heap.size 3 42 (fun k => k < B0) vp vs (((List.range l03.length).map (predsL (bksOf l03))).map (encs (Value.int .i64))) := by
    refine ⟨own_move hp.own (fun k e => ?_), hp.len, fun i u xs hu hx => own_move (hp.inn i u xs hu hx) (fun k e => ?_), hp.apart, hp.okv, hp.oki⟩
    · obtain ⟨c, hc⟩ := own_typed hp.own k e
      exact hold k (hp.okv k e) (own_lt hp.own k e) ⟨c, 42, hc, .inr rfl⟩
    · obtain ⟨c, hc⟩ := own_typed (hp.inn i u xs hu hx) k e
      exact hold k (hp.oki u (List.mem_of_getElem? hu) k e) (own_lt (hp.inn i u xs hu hx) k e) ⟨c, 3, hc, .inl rfl⟩
  refine ⟨⟨bx h.flow.blk (by decide) (by decide) (by decide), ⟨n0, f, hM.move hmap, hT.move (fun k c hk => hty k (Array.getElem?_eq_some_iff.1 hk).1 ⟨c, 66, hk, by decide, by decide, by decide⟩)⟩, h.flow.low.trans hb, ow h.flow.fst, ow h.flow.rch, ⟨vs, hp'.mono (fun _ _ => trivial)⟩, hout⟩, ⟨vs, hp'⟩, bx h.box (by decide) (by decide) (by decide), bx h.bod (by decide) (by decide) (by decide), hlen, h.hmb, h.hw0⟩
theorem FlowSt.queue (h : FlowSt w0 B0 gf gc gbb mb N s p A2 n2 c2 A3 c3 l03 cs first every vf vr vp go capo o W) (hb : Below B0 W W') (hty : ∀ k, k < W.heap.size → (∃ c t, W.heap[k]? = some (.cells c t (0, 0)) ∧ t ≠ 3 ∧ t ≠ 105) → W'.heap[k]? = W.heap[k]?) : FlowSt w0 B0 gf gc gbb mb N s p A2 n2 c2 A3 c3 l03 cs first every vf vr vp go capo o W' := by
  obtain ⟨vs, h1, h2, h3⟩ := h.flow.out
  refine h.typed (hb.mono h.hw0) (hb.block _ h.hmb) (fun k hk _ _ => hb.block k hk) (fun k hk ⟨c, t, hc, t3, t5, _⟩ => hty k hk ⟨c, t, hc, t3, t5⟩) h.len ⟨vs, own_move h1 (fun k e => ?_), h2, fun i u hu => own_move (h3 i u hu) (fun k e => ?_)⟩
  · obtain ⟨c, hc⟩ := own_typed h1 k e
    exact hty k (own_lt h1 k e) ⟨c, 26, hc, by decide, by decide⟩
  · obtain ⟨c, hc⟩ := own_typed (h3 i u hu) k e
    exact hty k (own_lt (h3 i u hu) k e) ⟨c, 4, hc, by decide, by decide⟩
theorem FlowSt.get (h : FlowSt w0 B0 gf gc gbb mb N s p A2 n2 c2 A3 c3 l03 cs first every vf vr vp go capo o W) {n : Nat} (hn : n < l03.length) : ∃ u, W.cell? ⟨go, n, none⟩ = some u ∧ OB W w0.heap.size u (o n) ∧ (o n).length = N := by
  obtain ⟨vs, h1, h2, h3⟩ := h.flow.out
  obtain ⟨u, hu⟩ : ∃ u, vs[n]? = some u := ⟨_, List.getElem?_eq_getElem (by omega)⟩
  have := h1.cells (g := go) rfl n u hu
  rw [add_plain] at this
  exact ⟨u, this, h3 n u hu, h.len n⟩
theorem FlowSt.store (h : FlowSt w0 B0 gf gc gbb mb N s p A2 n2 c2 A3 c3 l03 cs first every vf vr vp go capo o W) {n : Nat} {u : Value} {x : List Bool} (hn : n < l03.length) (hu : OB W w0.heap.size u x) (hx : x.length = N) : FlowSt w0 B0 gf gc gbb mb N s p A2 n2 c2 A3 c3 l03 cs first every vf vr vp go capo (upd o n x) (W.setCell ⟨go, n, none⟩ u) := by
  obtain ⟨vs, h1, h2, h3⟩ := h.flow.out
  obtain ⟨cg, hcg⟩ := own_typed h1 go rfl
  have hg := own_base h1 go rfl
  have hset := set_grown W go n u
  obtain ⟨n0, f, hM, hT⟩ := h.flow.tab
  have ne : ∀ {k : Nat} {c : Array Value} {t : TypeId}, W.heap[k]? = some (.cells c t (0, 0)) → t ≠ 26 → (W.setCell ⟨go, n, none⟩ u).heap[k]? = W.heap[k]? := fun {k c t} hk ht => hset.block k (Array.getElem?_eq_some_iff.1 hk).1 (fun e => by
    injection e with e
    subst e
    rw [hcg] at hk
    injection hk with hk
    injection hk with _ hk
    exact ht hk.symm)
  refine h.typed ((Below.refl _ _).grown hset h.flow.low.size (fun k e => by injection e with e; omega)) (hset.block _ hM.lt (fun e => by injection e with e; exact hM.ne_cells hcg e)) (fun k _ _ ⟨c, t, hc, ht⟩ => ne hc (by rcases ht with rfl | rfl <;> decide)) (fun k _ ⟨c, t, hc, _, _, ht⟩ => ne hc ht) (fun i => ?_) ⟨vs.set n u, ?_, by rw [List.length_set]; exact h2, fun i u' hu' => ?_⟩
  · unfold upd
    split
    · exact hx
    · exact h.len i
  · have hs := h1
    rw [h2] at hs
    have := (hs.stored n u).1
    rw [List.length_set, h2]
    exact this
  · have mv : ∀ {v : Value} {y : List Bool}, OB W w0.heap.size v y → OB (W.setCell ⟨go, n, none⟩ u) w0.heap.size v y := fun hq => own_move hq (fun k e => by
      obtain ⟨c, hc⟩ := own_typed hq k e
      exact ne hc (by decide))
    by_cases e : n = i
    · subst e
      rw [List.getElem?_set_self (by omega)] at hu'
      injection hu' with hu'
      subst hu'
      simp only [upd, if_true]
      exact mv hu
    · rw [List.getElem?_set_ne e] at hu'
      have : upd o n x i = o i := by simp [upd, Ne.symm e]
      rw [this]
      exact mv (h3 i u' hu')
end

theorem wrap_mid {L : Nat} (h : L ≤ 1000) : wrap64 ((L : Int) + 1) = (L : Int) + 1 := by
  unfold wrap64
  omega
set_option maxRecDepth 100000 in
set_option maxHeartbeats 8000000 in
theorem look_any {w0 W : World} {B0 gf gc gbb mb N : Nat} {s : ByteArray} {p : Int} {A2 : Option Addr} {n2 c2 : Nat} {A3 : Option Addr} {c3 : Nat} {l03 : List S58} {cs : List S66} {first : List Bool} {every : Bool} {vf vr vp : Value} {go capo : Nat} {o : Nat → List Bool}
    (h : FlowSt w0 B0 gf gc gbb mb N s p A2 n2 c2 A3 c3 l03 cs first every vf vr vp go capo o W) (hN : N ≤ 1000) (hfl : first.length = N) (n : Nat) (hn : n < l03.length) (hm : l03.length ≤ 1000) (hC : Kd.C k58 w0 A3 l03.length l03) (hcl : cs.length ≤ 1000) (hins : (rd_T58 l03 n).f0.length ≤ 1000) (hto : (rd_T58 l03 n).f1.f5.length ≤ 1000) (b1 : Nat) (hb0 : w0.heap.size ≤ b1) (hb1 : b1 ≤ W.heap.size) :
    Calls Try.prog 32 #[.int .i64 n, .pointer (some ⟨gc, 0, none⟩), .pointer (some ⟨gbb, 0, none⟩)] W fun e W' => ∃ u lb gb ga, e = .returned (.tuple #[u, .func (.func 53) #[] lb]) ∧
      OB W' w0.heap.size u (runL (chsOf cs) n 0 ((rd_T58 l03 n).f0.length + 1) (intoL (bksOf l03) N first every o n)) ∧ Below W.heap.size W W' ∧ W.heap.size ≤ gb ∧ W.heap.size ≤ ga ∧ gb < W'.heap.size ∧ ga < W'.heap.size ∧
      ∀ W2, Kp3 b1 gb ga W' W2 → SeqStopsK Fence.wide 8 Try.prog 53 lb (fun x : Sx (bksOf l03) n => #[Value.int .i64 x.1]) (Kp3 b1 gb ga) (fun ys => ys.map (·.1) = succI (bksOf l03) n) (fun pre => pre.map (·.1) <+: succI (bksOf l03) n) 1000000 W2 := by
  have hst := states_any h.flow hN hfl h.len n hn hm hC hcl hins
  have hgc : W.cell? ⟨gc, 0, none⟩ = some (.pointer (some ⟨gf, 0, none⟩)) := h.box.cell 0 _ rfl
  have HST := Lib.hid hst
  have HBD := Lib.hid h.bod
  have HLO := Lib.hid h.flow.low
  have HC := Lib.hid hC
  clear hst h hC
  go_enter Try.func32, Try.ntmps32
  go_wp2_with fail
  refine HST.out.mono ?_
  rintro e w1 ⟨v, rfl, hN2, hb1'⟩
  obtain ⟨vs, ho, hvl, hin⟩ := hN2.own
  rw [statesL_length] at ho
  obtain ⟨u, hu⟩ : ∃ u, vs[(rd_T58 l03 n).f0.length + 1]? = some u := ⟨_, List.getElem?_eq_getElem (by rw [hvl, statesL_length]; omega)⟩
  have hou := hin _ u _ hu (statesL_get _ _ _ _ (Nat.le_refl _))
  obtain ⟨gl, capl, rfl, hgl, _⟩ := ho.form (by omega)
  have hlast0 := ho.cells (g := gl) rfl _ u hu
  rw [add_plain] at hlast0
  have hlast : ∀ W', Below w1.heap.size w1 W' → W'.cell? ⟨gl, (rd_T58 l03 n).f0.length + 1, none⟩ = some u := fun W' hb => pw_cell_below hb hlast0
  have hbody : ∀ W', Below w1.heap.size w1 W' → ∀ j v, (bodyC s p A2 n2 c2 A3 l03.length c3)[j]? = some v → W'.cell? ⟨gbb, j, none⟩ = some v := fun W' hb j v hv => ((HBD.out.below hb1' HBD.out.lt).below hb (Nat.lt_of_lt_of_le HBD.out.lt hb1'.size)).cell j v hv
  have HOU := Lib.hid hou
  have HB1 := Lib.hid hb1'
  generalize hL : (rd_T58 l03 n).f0.length = L at *
  have HLL := Lib.hid hL
  clear ho hvl hin hu hou hlast0 hb1' hN2 HST hL
  have q0 : ((0 : Int) ≤ (L : Int) + 1) = True := eq_true (by omega)
  have q1 : ((L : Int) + 1 < (L : Int) + 1 + 1) = True := eq_true (by omega)
  have q2 : ((L : Int) + 1).toNat = L + 1 := by omega
  have hwr := wrap_mid hins
  go_wp2_with fail
  rename_i K hK
  refine start_ (n := 11) (S := fun w' => w'.cell? ⟨gl, L + 1, none⟩ = some u ∧ w'.cell? ⟨gbb, 0, none⟩ = some (.string s) ∧ w'.cell? ⟨gbb, 1, none⟩ = some (.int .i64 p) ∧ w'.cell? ⟨gbb, 2, none⟩ = some (.slice A2 n2 c2) ∧ w'.cell? ⟨gbb, 3, none⟩ = some (.slice A3 l03.length c3)) (ds := []) #[false, false, false, false, false, false, false, false, false, false, false] (by kernel_rfl) rfl rfl ⟨hlast _ (below_drew (Below.refl _ _)), hbody _ (below_drew (Below.refl _ _)) 0 _ rfl, hbody _ (below_drew (Below.refl _ _)) 1 _ rfl, hbody _ (below_drew (Below.refl _ _)) 2 _ rfl, hbody _ (below_drew (Below.refl _ _)) 3 _ rfl⟩ (fun hHeld => ?_)
  refine pure_ (i := 0) (N := some 10) (v := ?_) (a' := ?_) #[true, false, false, false, false, false, false, false, false, false, false] rfl rfl (by kernel_rfl) (fun _ _ _ h => h) (Or.inl ⟨by rfl, ?_⟩) ?_ ?_
  rotate_left
  · intro w'
    go_simp
    with_reducible rfl
  rotate_left
  · simp only [Act.put, List.setIfInBounds_toArray, List.set_cons_zero, List.set_cons_succ, i64_w, i32_w]
    rfl
  refine pure_ (i := 1) (N := some 11) (v := ?_) (a' := ?_) #[true, true, false, false, false, false, false, false, false, false, false] rfl rfl (by kernel_rfl) (fun _ _ _ h => h) (Or.inl ⟨by rfl, ?_⟩) ?_ ?_
  rotate_left
  · intro w'
    go_simp
    with_reducible rfl
  rotate_left
  · simp only [Act.put, List.setIfInBounds_toArray, List.set_cons_zero, List.set_cons_succ, i64_w, i32_w]
    rfl
  refine pure_ (i := 2) (N := some 12) (v := ?_) (a' := ?_) #[true, true, true, false, false, false, false, false, false, false, false] rfl rfl (by kernel_rfl) (fun _ _ _ h => h) (Or.inl ⟨by rfl, ?_⟩) ?_ ?_
  rotate_left
  · intro w'
    go_simp
    with_reducible rfl
  rotate_left
  · simp only [Act.put, List.setIfInBounds_toArray, List.set_cons_zero, List.set_cons_succ, i64_w, i32_w]
    rfl
  refine pure_ (i := 3) (N := some 13) (v := ?_) (a' := ?_) #[true, true, true, true, false, false, false, false, false, false, false] rfl rfl (by kernel_rfl) (fun _ _ _ h => h) (Or.inl ⟨by rfl, ?_⟩) ?_ ?_
  rotate_left
  · intro w'
    go_simp
    with_reducible rfl
  rotate_left
  · simp only [Act.put, List.setIfInBounds_toArray, List.set_cons_zero, List.set_cons_succ, i64_w, i32_w]
    rfl
  refine pure_ (i := 4) (N := some 14) (v := ?_) (a' := ?_) #[true, true, true, true, true, false, false, false, false, false, false] rfl rfl (by kernel_rfl) (fun _ _ _ h => h) (Or.inl ⟨by rfl, ?_⟩) ?_ ?_
  rotate_left
  · intro w'
    go_simp
    with_reducible rfl
  rotate_left
  · simp only [Act.put, List.setIfInBounds_toArray, List.set_cons_zero, List.set_cons_succ, i64_w, i32_w]
    rfl
  refine pure_ (i := 7) (N := some 17) (v := ?_) (a' := ?_) #[true, true, true, true, true, false, false, true, false, false, false] rfl rfl (by kernel_rfl) (fun _ _ _ h => h) (Or.inl ⟨by rfl, ?_⟩) ?_ ?_
  rotate_left
  · intro w'
    go_simp
    with_reducible rfl
  rotate_left
  · simp only [Act.put, List.setIfInBounds_toArray, List.set_cons_zero, List.set_cons_succ, i64_w, i32_w]
    rfl
  refine take_ (i := 5) (N := some 15) (v := ?_) (a' := ?_) #[true, true, true, true, true, true, false, true, false, false, false] rfl rfl (by kernel_rfl) (fun _ _ _ h => h) (Or.inl ⟨by rfl, ?_⟩) hHeld ?_ ?_
  rotate_left
  · rintro w' ⟨s0, s1, s2, s3, s4⟩
    go_simp
    with_reducible rfl
  rotate_left
  · simp only [Act.put, List.setIfInBounds_toArray, List.set_cons_zero, List.set_cons_succ, i64_w, i32_w]
    rfl
  refine take_ (i := 6) (N := some 16) (v := ?_) (a' := ?_) #[true, true, true, true, true, true, true, true, false, false, false] rfl rfl (by kernel_rfl) (fun _ _ _ h => h) (Or.inl ⟨by rfl, ?_⟩) hHeld ?_ ?_
  rotate_left
  · rintro w' ⟨s0, s1, s2, s3, s4⟩
    go_simp
    with_reducible rfl
  rotate_left
  · simp only [Act.put, List.setIfInBounds_toArray, List.set_cons_zero, List.set_cons_succ, i64_w, i32_w]
    rfl
  refine one_ (i := 8) (N := some 18) #[true, true, true, true, true, true, true, true, true, false, false] rfl rfl (by kernel_rfl) (by decide) (fun K hK => ?_)
  refine goes_ Try.func34 (by kernel_rfl) rfl #[bodyV s p A2 n2 c2 A3 l03.length c3, .int .i64 n] (by rfl) rfl rfl (by simp only [List.map_toArray, List.map_cons, List.map_nil]; rfl) ?_
  with_reducible refine (to_any s p A2 n2 c2 A3 l03.length c3 n _).mono ?_
  rintro e w5 ⟨rfl, rfl⟩
  refine ⟨_, rfl, ?_⟩
  refine hK.out _ _ ⟨hlast _ (below_alloc (below_alloc (below_drew (Below.refl _ _)) _) _), hbody _ (below_alloc (below_alloc (below_drew (Below.refl _ _)) _) _) 0 _ rfl, hbody _ (below_alloc (below_alloc (below_drew (Below.refl _ _)) _) _) 1 _ rfl, hbody _ (below_alloc (below_alloc (below_drew (Below.refl _ _)) _) _) 2 _ rfl, hbody _ (below_alloc (below_alloc (below_drew (Below.refl _ _)) _) _) 3 _ rfl⟩ (fun hHeld => ?_)
  clear hK K
  refine norm_ (a' := ?_) ?_ ?_
  rotate_left
  · show Act.put _ (some 18) _ = _
    simp only [Act.put, List.setIfInBounds_toArray, List.set_cons_zero, List.set_cons_succ, i64_w, i32_w]
    rfl
  refine pure_ (i := 9) (N := some 4) (v := ?_) (a' := ?_) #[true, true, true, true, true, true, true, true, true, true, false] rfl rfl (by kernel_rfl) (fun _ _ _ h => h) (Or.inl ⟨by rfl, ?_⟩) ?_ ?_
  rotate_left
  · intro w'
    go_simp
    with_reducible rfl
  rotate_left
  · simp only [Act.put, List.setIfInBounds_toArray, List.set_cons_zero, List.set_cons_succ, i64_w, i32_w]
    rfl
  refine pure_ (i := 10) (N := some 5) (v := ?_) (a' := ?_) #[true, true, true, true, true, true, true, true, true, true, true] rfl rfl (by kernel_rfl) (fun _ _ _ h => h) (Or.inl ⟨by rfl, ?_⟩) ?_ ?_
  rotate_left
  · intro w'
    go_simp
    with_reducible rfl
  rotate_left
  · simp only [Act.put, List.setIfInBounds_toArray, List.set_cons_zero, List.set_cons_succ, i64_w, i32_w]
    rfl
  refine done_ (by kernel_rfl) ?_
  clear hwr q0 q1 q2
  refine hK _ _ ?_
  clear hK K hHeld
  have hb5 := HB1.out.size
  have hb25 : Below w1.heap.size w1 ((w1.drew.alloc (.cells (bodyC s p A2 n2 c2 A3 l03.length c3) 25)).alloc (.cells #[.int .i64 n] 3)) := below_alloc (below_alloc (below_drew (Below.refl _ _)) _) _
  go_wp2_with fail
  go_ret2
  rw [HLL.out]
  have hdr : w1.drew.heap = w1.heap := rfl
  refine ⟨u, _, w1.heap.size, w1.heap.size + 1, rfl, pw_own_below (own_weaken HOU.out (Nat.le_trans HLO.out.size (Nat.le_refl _))) hb25, below_then HB1.out HB1.out.size hb25, hb5, by omega, ?_, ?_, ?_⟩
  · rw [World.size_alloc, World.size_alloc, hdr]; omega
  · rw [World.size_alloc, World.size_alloc, hdr]; omega
  · intro W2 hk
    have hgb := heap_alloc_new w1.drew (.cells (bodyC s p A2 n2 c2 A3 l03.length c3) 25)
    have hga := heap_alloc_new (w1.drew.alloc (.cells (bodyC s p A2 n2 c2 A3 l03.length c3) 25)) (.cells #[.int .i64 n] 3)
    rw [hdr] at hgb
    rw [World.size_alloc, hdr] at hga
    have hgb' := ((below_alloc (Below.refl _ _) (.cells #[Value.int .i64 n] 3) : Below (w1.drew.alloc (.cells (bodyC s p A2 n2 c2 A3 l03.length c3) 25)).heap.size _ _).block w1.heap.size (by rw [World.size_alloc, hdr]; omega)).trans hgb
    have hT : ToAt W2 b1 w1.heap.size (w1.heap.size + 1) s p A2 n2 c2 A3 c3 l03 n := ToAt.keeps ⟨hgb', hga, w0, below_then (below_then HLO.out HLO.out.size HB1.out) (Nat.le_trans HLO.out.size HB1.out.size) hb25, hb0, HC.out⟩ hk
    have hsz := hk.1.size
    rw [World.size_alloc, World.size_alloc, hdr] at hsz
    refine seq_more (to_stops 8 (by decide) b1 w1.heap.size (w1.heap.size + 1) s p A2 n2 c2 A3 c3 l03 n hn (by omega) (by omega) W2 (by omega) (by omega) (by omega) hT) (by omega)
end Go.Proofs.Ythgnbeeobhfeaaa.T
end

section
/- Walks: a flow in the making; copy, of flags. -/
namespace Go.Proofs.Ythgnbeeobhfeaaa.T
open Go.RowKit Go.Shelf Go.Proofs.YthgnbeeobhfeaaaW.PrintWords Go.Proofs.YthgnbeeobhfeaaaW.PrintLast

theorem RR.weaken {W : World} {B B' e1 e2 : Nat} {ok : Nat → Prop} {v : Value} {vs : List Value} {xss : List (List Value)} (h : RR W B e1 e2 ok v vs xss) (hB : B' ≤ B) : RR W B' e1 e2 ok v vs xss :=
  ⟨own_weaken h.own hB, h.len, fun i u xs hu hx => own_weaken (h.inn i u xs hu hx) hB, h.apart, h.okv, h.oki⟩
theorem BoxIs.ne {W : World} {g g' : Nat} {c c' : Array Value} {t t' : TypeId} (h : BoxIs W g c t) (h' : BoxIs W g' c' t') (ht : t ≠ t') : g ≠ g' := blk_ne h h' ht

/-- All but cells of type T stays. -/
def Stays (T : TypeId) (W W' : World) : Prop := ∀ (k : Nat) (ob : Obj), W.heap[k]? = some ob → (∀ c, ob ≠ Obj.cells c T (0, 0)) → W'.heap[k]? = some ob
theorem TabIs.typed {w0 W W' : World} {B mb : Nat} {cs : List S66} (h : TabIs w0 W B mb cs) {T : TypeId} (hT : T ≠ 66) (hm : Stays T W W') : TabIs w0 W' B mb cs := by
  obtain ⟨n, f, h1, h2⟩ := h
  obtain ⟨es, cl, hmap, _⟩ := id h1
  refine ⟨n, f, h1.move ((hm _ _ hmap (fun c e => by cases e)).trans hmap.symm), h2.move (fun q c hq => (hm _ _ hq (fun c' e => ?_)).trans hq.symm)⟩
  injection e with _ e
  exact hT e.symm
theorem own_typed_move {W W' : World} {B : Nat} {e : TypeId} {v : Value} {n : Nat} {xs : List Value} (h : W.ownsRow B e 1 v n xs) {T : TypeId} (hT : T ≠ e) (hm : Stays T W W') : W'.ownsRow B e 1 v n xs :=
  own_move h (fun k hk => by
    obtain ⟨c, hc⟩ := own_typed h k hk
    exact (hm _ _ hc (fun c' e' => by injection e' with _ e'; exact hT e'.symm)).trans hc.symm)
theorem RR.typed_move {W W' : World} {B e1 e2 : Nat} {ok : Nat → Prop} {v : Value} {vs : List Value} {xss : List (List Value)} (h : RR W B e1 e2 ok v vs xss) {T : TypeId} (hT1 : T ≠ e1) (hT2 : T ≠ e2) (hm : Stays T W W') : RR W' B e1 e2 ok v vs xss :=
  ⟨own_typed_move h.own hT2 hm, h.len, fun i u xs hu hx => own_typed_move (h.inn i u xs hu hx) hT1 hm, h.apart, h.okv, h.oki⟩
theorem BoxIs.typed_move {W W' : World} {g : Nat} {c : Array Value} {t : TypeId} (h : BoxIs W g c t) {T : TypeId} (hT : T ≠ t) (hm : Stays T W W') : BoxIs W' g c t :=
  hm _ _ h (fun c' e' => by injection e' with _ e'; exact hT e'.symm)
/-- A cell is written of a block of type T: all others stay. -/
theorem set_typed {W : World} {g : Nat} {c : Array Value} {T : TypeId} (h : BoxIs W g c T) (j : Nat) (u : Value) : Stays T W (W.setCell ⟨g, j, none⟩ u) := fun k ob hk hn =>
  ((set_grown W g j u).block k (Array.getElem?_eq_some_iff.1 hk).1 (fun e => by
    injection e with e
    subst e
    unfold BoxIs at h
    rw [h] at hk
    injection hk with hk
    exact hn _ hk.symm)).trans hk
theorem grown_typed {W W' : World} {B : Nat} {T : TypeId} {v : Value} {n : Nat} {xs : List Value} (h : W.ownsRow B T 1 v n xs) (hg : W.grownBy W' v.ownBlock) : Stays T W W' := fun k ob hk hn =>
  (hg.block k (Array.getElem?_eq_some_iff.1 hk).1 (fun e => by
    obtain ⟨c, hc⟩ := own_typed h k e.symm
    rw [hc] at hk
    injection hk with hk
    exact hn _ hk.symm)).trans hk

theorem own_apart {v u : Value} {B : Nat} (h1 : ∀ k, v.ownBlock = some k → k < B) (h2 : ∀ k, u.ownBlock = some k → B ≤ k) : v.ownBlock = none ∨ v.ownBlock ≠ u.ownBlock := by
  cases hv : v.ownBlock with
  | none => exact .inl rfl
  | some k =>
    refine .inr (fun e => ?_)
    have a := h1 k hv
    have b := h2 k e.symm
    omega
/-- A flow in the making: block gf, its pointer's box gc, its body's box w.heap.size. -/
structure FPre (w W : World) (gc gf mb N : Nat) (s : ByteArray) (p : Int) (A2 : Option Addr) (n2 c2 : Nat) (A3 : Option Addr) (c3 : Nat) (l03 : List S58) (cs : List S66) (every : Bool) (Ar : Option Addr) (cr : Nat) (Ap : Option Addr) (cp : Nat) (vf vo : Value) : Prop where
  blk : BoxIs W gf #[.int .i64 N, .map (some mb), .string s, .int .i64 p, .slice A2 n2 c2, .slice A3 l03.length c3, vf, .bool every, .slice Ar (reachL (bksOf l03)).length cr, .slice Ap l03.length cp, vo] 79
  tab : TabIs w W w.heap.size mb cs
  low : Below w.heap.size w W
  rch : OB W w.heap.size (.slice Ar (reachL (bksOf l03)).length cr) (reachL (bksOf l03))
  prd : ∃ vs, RR W w.heap.size 3 42 (fun _ => True) (.slice Ap l03.length cp) vs (((List.range l03.length).map (predsL (bksOf l03))).map (encs (Value.int .i64)))
  box : BoxIs W gc #[.pointer (some ⟨gf, 0, none⟩)] 73
  bod : BoxIs W w.heap.size (bodyC s p A2 n2 c2 A3 l03.length c3) 25
  gfl : w.heap.size < gf
  gcl : w.heap.size < gc
section
variable {w W W' : World} {gc gf mb N : Nat} {s : ByteArray} {p : Int} {A2 : Option Addr} {n2 c2 : Nat} {A3 : Option Addr} {c3 : Nat} {l03 : List S58} {cs : List S66} {every : Bool} {Ar : Option Addr} {cr : Nat} {Ap : Option Addr} {cp : Nat} {vf vo vf' vo' : Value}
theorem FPre.typed' (h : FPre w W gc gf mb N s p A2 n2 c2 A3 c3 l03 cs every Ar cr Ap cp vf vo) {T : TypeId} (hT : T ≠ 66 ∧ T ≠ 3 ∧ T ≠ 42 ∧ T ≠ 73 ∧ T ≠ 25) (hm : Stays T W W') (hb : Below w.heap.size W W')
    (hr : OB W' w.heap.size (.slice Ar (reachL (bksOf l03)).length cr) (reachL (bksOf l03))) (hf : BoxIs W' gf #[.int .i64 N, .map (some mb), .string s, .int .i64 p, .slice A2 n2 c2, .slice A3 l03.length c3, vf', .bool every, .slice Ar (reachL (bksOf l03)).length cr, .slice Ap l03.length cp, vo'] 79) : FPre w W' gc gf mb N s p A2 n2 c2 A3 c3 l03 cs every Ar cr Ap cp vf' vo' := by
  obtain ⟨vs, hp⟩ := h.prd
  exact ⟨hf, h.tab.typed hT.1 hm, h.low.trans hb, hr, ⟨vs, hp.typed_move hT.2.1 hT.2.2.1 hm⟩, h.box.typed_move hT.2.2.2.1 hm, h.bod.typed_move hT.2.2.2.2 hm, h.gfl, h.gcl⟩
theorem FPre.typed (h : FPre w W gc gf mb N s p A2 n2 c2 A3 c3 l03 cs every Ar cr Ap cp vf vo) {T : TypeId} (hT : T ≠ 66 ∧ T ≠ 4 ∧ T ≠ 3 ∧ T ≠ 42 ∧ T ≠ 73 ∧ T ≠ 25) (hm : Stays T W W') (hb : Below w.heap.size W W')
    (hf : BoxIs W' gf #[.int .i64 N, .map (some mb), .string s, .int .i64 p, .slice A2 n2 c2, .slice A3 l03.length c3, vf', .bool every, .slice Ar (reachL (bksOf l03)).length cr, .slice Ap l03.length cp, vo'] 79) : FPre w W' gc gf mb N s p A2 n2 c2 A3 c3 l03 cs every Ar cr Ap cp vf' vo' := 
  h.typed' ⟨hT.1, hT.2.2⟩ hm hb (own_typed_move h.rch hT.2.1 hm) hf
theorem FPre.below (h : FPre w W gc gf mb N s p A2 n2 c2 A3 c3 l03 cs every Ar cr Ap cp vf vo) (hb : Below W.heap.size W W') : FPre w W' gc gf mb N s p A2 n2 c2 A3 c3 l03 cs every Ar cr Ap cp vf vo :=
  h.typed (T := 1000000) (by decide) (fun k ob hk _ => (hb.block k (Array.getElem?_eq_some_iff.1 hk).1).trans hk) (hb.mono h.low.size) (h.blk.below hb h.blk.lt)
theorem FPre.setF (h : FPre w W gc gf mb N s p A2 n2 c2 A3 c3 l03 cs every Ar cr Ap cp vf vo) (u : Value) : FPre w (W.setCell ⟨gf, 6, none⟩ u) gc gf mb N s p A2 n2 c2 A3 c3 l03 cs every Ar cr Ap cp u vo :=
  h.typed (T := 79) (by decide) (set_typed h.blk 6 u) ((Below.refl _ _).grown (set_grown W gf 6 u) h.low.size (fun k e => by injection e with e; have := h.gfl; omega)) (set_block h.blk u)
theorem FPre.setO (h : FPre w W gc gf mb N s p A2 n2 c2 A3 c3 l03 cs every Ar cr Ap cp vf vo) (u : Value) : FPre w (W.setCell ⟨gf, 10, none⟩ u) gc gf mb N s p A2 n2 c2 A3 c3 l03 cs every Ar cr Ap cp vf u :=
  h.typed (T := 79) (by decide) (set_typed h.blk 10 u) ((Below.refl _ _).grown (set_grown W gf 10 u) h.low.size (fun k e => by injection e with e; have := h.gfl; omega)) (set_block h.blk u)
end

/-! ### copy, of flags -/
def overL (xs ys : List Bool) : List Bool := ys.take xs.length ++ xs.drop ys.length
theorem overL_first (N : Nat) (start : List Bool) : overL (List.replicate N false) start = firstL N start := by
  apply List.ext_getElem?
  intro j
  simp only [overL, firstL, List.length_replicate]
  by_cases hj : j < N
  · rw [List.getElem?_map, List.getElem?_range hj, Option.map_some]
    by_cases h : j < start.length
    · rw [List.getElem?_append_left (by rw [List.length_take]; omega), List.getElem?_take, if_pos hj, List.getElem?_eq_getElem h, List.getD_eq_getElem?_getD, List.getElem?_eq_getElem h]
      rfl
    · rw [List.getElem?_append_right (by rw [List.length_take]; omega), List.length_take, List.getElem?_drop, List.getElem?_replicate, if_pos (by omega), List.getD_eq_getElem?_getD, List.getElem?_eq_none (by omega)]
      rfl
  · rw [List.getElem?_eq_none (by simp; omega), List.getElem?_eq_none (by simp; omega)]
theorem size4 : (Try.prog.info? 4).map (·.size) = some 1 := by kernel_rfl
theorem copy_flags {ops : Array Oper} {rest : List Oper} {o : Oper} {a : Act} {Q : Exit → Act → World → Prop} {W : World} {B : Nat} {v : Value} {xs ys : List Bool} {As : Option Addr} {cs : Nat} (hgd : o.guard = none) (d s : Operand)
    (ho : o.op = .call { callee := .builtin .copy, args := #[d, s], argTypes := #[26, 26] }) (hd : a.eval d = v) (hs : a.eval s = .slice As ys.length cs) (hO : OB W B v xs) (hC : Kd.bool.C W As ys.length ys)
    (h : ∀ (z : Int) w', OB w' B v (overL xs ys) → W.grownBy w' v.ownBlock → wpList Try.prog ops Q rest (a.put o.dst (goInt z)) w') : wpList Try.prog ops Q (o :: rest) a W := by
  have hov : min ys.length xs.length = 0 → overL xs ys = xs := by
    intro h0
    unfold overL
    rcases Nat.eq_zero_or_pos ys.length with h1 | h1
    · rw [List.eq_nil_of_length_eq_zero h1]; simp
    · rw [List.eq_nil_of_length_eq_zero (show xs.length = 0 by omega)]; simp
  have hol : (overL xs ys).length = xs.length := by simp [overL]; omega
  by_cases h0 : min ys.length xs.length = 0
  · obtain ⟨Ad, cd, rfl⟩ := own_slice hO
    refine wpList_copy_nothing hgd d s 26 26 ho 4 Try.underlying26 size4 Ad As _ cd _ cs hd hs h0 (h 0 W (by rw [hov h0]; exact hO) ⟨rfl, rfl, rfl, Nat.le_refl _, fun _ _ _ => rfl⟩)
  · obtain ⟨h1, h2⟩ := hO
    rcases h2 with ⟨rfl, h2⟩ | ⟨g, cap, cur, rfl, hB, hg, hnc, hcm, hcs, htk⟩
    · omega
    · obtain ⟨ad, rfl, _⟩ := hC.2.2 (by omega)
      rw [Nat.mul_one] at hcs htk
      have htl : ((ys.take xs.length).map Value.bool).length = min ys.length xs.length := by simp; omega
      refine wpList_copy_own hgd d s 26 26 ho 4 Try.underlying26 size4 g 0 _ cap ad _ cs hd hs cur 4 hg ((ys.take xs.length).map Value.bool) htl (fun j u hu => ?_) (by rw [htl]; omega) (fun u hu => ?_) ?_
      · rw [List.getElem?_map] at hu
        obtain ⟨b, hb, rfl⟩ := Option.map_eq_some_iff.1 hu
        have hj : j < ys.length := by
          have := (List.getElem?_eq_some_iff.1 hb).1
          rw [List.length_take] at this
          omega
        obtain ⟨ad', e, hc⟩ := Kd.at_bool hC (j : Int) (by omega) (by omega)
        injection e with e
        subst e
        rw [Int.toNat_natCast] at hc
        rw [hc]
        rw [List.getElem?_take] at hb
        split at hb
        · simp [rdOf, List.getD_eq_getElem?_getD, hb]
        · cases hb
      · obtain ⟨b, _, rfl⟩ := List.mem_map.1 hu
        rfl
      · have hr := setRow_heap W g cur (cur.toList.take 0 ++ ((ys.take xs.length).map Value.bool ++ cur.toList.drop (0 + ((ys.take xs.length).map Value.bool).length))).toArray 4 (0, 0) hg
        refine h _ _ ⟨by rw [encs_length, Nat.mul_one], .inr ⟨g, cap, _, by rw [hol], hB, hr, by rw [hol]; exact hnc, hcm, ?_, ?_⟩⟩ ⟨rfl, rfl, rfl, by simp [World.setRow], fun k _ hk => setRow_other W g k _ (fun e => hk (by rw [e]; rfl))⟩
        · simp only [List.take_zero, List.nil_append, Nat.zero_add, List.size_toArray, List.length_append, List.length_drop, htl, Array.length_toList, hcs]
          omega
        · have hx : cur.toList = encs Value.bool xs ++ cur.toList.drop xs.length := by rw [← htk]; simp
          have hmin : min ys.length xs.length = (ys.take xs.length).length := by rw [List.length_take]; omega
          have hxl : (encs Value.bool xs).length = xs.length := encs_length _
          simp only [List.take_zero, List.nil_append, Nat.zero_add, htl, hol, Nat.mul_one, overL, encs, List.map_append]
          rw [hx]
          simp only [encs]
          rw [List.drop_append_of_le_length (by simp; omega), ← List.append_assoc, List.take_append_of_le_length (by simp; omega), List.take_of_length_le (by simp; omega)]
          congr 1
          rw [List.map_drop]
          by_cases h3 : ys.length ≤ xs.length
          · rw [show min ys.length xs.length = ys.length by omega]
          · rw [List.drop_eq_nil_of_le (by simp; omega), List.drop_eq_nil_of_le (by simp; omega)]

theorem newTable_n (w0 w : World) (hw0 : Below w0.heap.size w0 w) (n : Int) (N : Nat) (hN : n.toNat = N) (hn : n ≤ 1000) (A : Option Addr) (c : Nat) (cs : List S66) (hC : Kd.C k66 w0 A cs.length cs) (hl : cs.length ≤ 1000) (hW : ∀ c ∈ cs, inW c.f0 = true ∧ inW c.f1 = true) :
    Calls Try.prog 27 #[.int .i64 n, .slice A cs.length c] w fun e w' => ∃ mb, e = .returned (.agg #[.int .i64 (N : Int), .map (some mb)]) ∧ w.heap.size ≤ mb ∧ TabIs w0 w' w.heap.size mb cs ∧ Below w.heap.size w w' := by
  subst hN
  exact newTable_any w0 w hw0 n hn A c cs hC hl hW

end Go.Proofs.Ythgnbeeobhfeaaa.T
end

section
/- Walks: which blocks a flow looks at; its settling. -/
namespace Go.Proofs.Ythgnbeeobhfeaaa.T
open Go.RowKit Go.Shelf Go.Proofs.YthgnbeeobhfeaaaW.PrintWords Go.Proofs.YthgnbeeobhfeaaaW.PrintLast

/-! ### The blocks that are reached, as numbers -/
noncomputable def reachI (bs : List Bk) : List Int := ((List.range bs.length).filter (rchB bs)).map (fun i : Nat => (i : Int))
def idxT : List Bool → Nat → List Int
  | [], _ => []
  | x :: xs, i => if x then (i : Int) :: idxT xs (i + 1) else idxT xs (i + 1)
theorem idxT_range (p : Nat → Bool) : ∀ (n i : Nat), idxT ((List.range' i n).map p) i = ((List.range' i n).filter p).map (fun j : Nat => (j : Int))
  | 0, i => rfl
  | n + 1, i => by
    rw [List.range'_succ, List.map_cons, List.filter_cons]
    show (if p i then _ else _) = _
    rw [idxT_range p n (i + 1)]
    split <;> rfl
theorem idxT_reach (bs : List Bk) : idxT (reachL bs) 0 = reachI bs := by
  unfold reachL reachI
  rw [List.range_eq_range']
  exact idxT_range _ _ _
theorem reached_from (xs : List Bool) (hn : xs.length ≤ 1000000) (d : Nat) : ∀ (k i : Nat) (acc : List Int), i ≤ xs.length → xs.length - i = d → d < k → acc.length + d ≤ 1000000 →
    graph_reached.l0 k acc xs (xs.length : Int) (i : Int) = some (acc ++ idxT (xs.drop i) i) := by
  induction d with
  | zero =>
    intro k i acc hi hd hk ha
    obtain ⟨k, rfl⟩ : ∃ m, k = m + 1 := ⟨k - 1, by omega⟩
    simp only [graph_reached.l0]
    rw [if_neg (by omega), List.drop_eq_nil_of_le (by omega)]
    simp [idxT]
  | succ d ih =>
    intro k i acc hi hd hk ha
    obtain ⟨k, rfl⟩ : ∃ m, k = m + 1 := ⟨k - 1, by omega⟩
    have hlt : i < xs.length := by omega
    have hr : rdOf false xs (i : Int) = xs[i] := by simp [rdOf, List.getD_eq_getElem?_getD, List.getElem?_eq_getElem hlt]
    have hw : wrap64 ((i : Int) + 1) = ((i + 1 : Nat) : Int) := by rw [wrap_up (n := xs.length) (by omega) (by omega) (by omega)]; omega
    simp only [graph_reached.l0]
    rw [if_pos (by omega), if_pos (by omega), if_pos (by omega), hr, hw, List.drop_eq_getElem_cons hlt]
    cases hx : xs[i] with
    | true =>
      rw [if_pos rfl, if_pos (by omega), ih k (i + 1) _ (by omega) (by omega) (by omega) (by simp; omega)]
      simp [idxT]
    | false =>
      rw [if_neg (by decide), ih k (i + 1) _ (by omega) (by omega) (by omega) (by omega)]
      simp [idxT]
theorem reached_f (bs : List Bk) (hn : bs.length ≤ 1000000) : graph_reached.f (bs.length + 1) (reachL bs) = some (reachI bs) := by
  have hl : (reachL bs).length = bs.length := by simp [reachL]
  have := reached_from (reachL bs) (by omega) bs.length (bs.length + 1) 0 [] (by omega) (by omega) (by omega) (by simp; omega)
  rw [List.drop_zero, List.nil_append, idxT_reach] at this
  exact this
theorem mem_reachI {bs : List Bk} {x : Int} : x ∈ reachI bs ↔ ∃ n : Nat, x = n ∧ Rch bs n := by
  simp only [reachI, List.mem_map, List.mem_filter, List.mem_range, rchB_iff]
  constructor
  · rintro ⟨i, ⟨_, h⟩, rfl⟩
    exact ⟨i, rfl, h⟩
  · rintro ⟨i, rfl, h⟩
    exact ⟨i, ⟨h.lt, h⟩, rfl⟩
theorem reachI_le (bs : List Bk) : (reachI bs).length ≤ bs.length := by
  unfold reachI
  rw [List.length_map]
  exact Nat.le_trans (List.length_filter_le _ _) (by simp)
theorem reached_any (A : Option Addr) (c : Nat) (bs : List Bk) (hn : bs.length ≤ 1000) (W : World) (hC : Kd.bool.C W A (reachL bs).length (reachL bs)) (hc : (reachL bs).length ≤ c) :
    Calls Try.prog 30 #[.slice A (reachL bs).length c] W fun e W' => ∃ A' c', e = .returned (.slice A' (reachI bs).length c') ∧ (reachI bs).length ≤ c' ∧ (Kd.int .i64).C W' A' (reachI bs).length (reachI bs) ∧ Below W.heap.size W W' ∧ W'.ownsRow W.heap.size 3 1 (.slice A' (reachI bs).length c') (reachI bs).length (encs (Value.int .i64) (reachI bs)) := by
  refine (graph_reached.calls (bs.length + 1) A c (reachL bs) (reachI bs) W hC hc (reached_f bs (by omega))).mono ?_
  rintro e W' ⟨v, rfl, hR, hb⟩
  obtain ⟨A', c', rfl, hc', hC'⟩ := Kd.R_reads hR
  exact ⟨A', c', rfl, hc', hC', hb, by simpa using Kd.own_of_R hR⟩
theorem own_int_C {W : World} {B : Nat} {A : Option Addr} {c : Nat} {xs : List Int} (h : W.ownsRow B 3 1 (.slice A xs.length c) xs.length (encs (Value.int .i64) xs)) : (Kd.int .i64).C W A xs.length xs :=
  (Kd.R_reads' (Kd.R_of_own (h1 := fun _ => rfl) (enc := Value.int .i64) (ok := fun _ => True) h (fun _ _ => trivial))).2.2

/-! ### Equal -/
theorem equal_from (x y : List Bool) (hxy : x.length = y.length) (hn : x.length ≤ 1000000) (d : Nat) : ∀ (k i : Nat), i ≤ x.length → x.length - i = d → d < k →
    slices_Equal_bool_bool.l0 k x y (x.length : Int) (i : Int) = some (decide (x.drop i = y.drop i)) := by
  induction d with
  | zero =>
    intro k i hi hd hk
    obtain ⟨k, rfl⟩ : ∃ m, k = m + 1 := ⟨k - 1, by omega⟩
    simp only [slices_Equal_bool_bool.l0]
    rw [if_neg (by omega), List.drop_eq_nil_of_le (by omega), List.drop_eq_nil_of_le (by omega)]
    rfl
  | succ d ih =>
    intro k i hi hd hk
    obtain ⟨k, rfl⟩ : ∃ m, k = m + 1 := ⟨k - 1, by omega⟩
    have hlt : i < x.length := by omega
    have hlt2 : i < y.length := by omega
    have hr : rdOf false x (i : Int) = x[i] := by simp [rdOf, List.getD_eq_getElem?_getD, List.getElem?_eq_getElem hlt]
    have hr2 : rdOf false y (i : Int) = y[i] := by simp [rdOf, List.getD_eq_getElem?_getD, List.getElem?_eq_getElem hlt2]
    have hw : wrap64 ((i : Int) + 1) = ((i + 1 : Nat) : Int) := by rw [wrap_up (n := x.length) (by omega) (by omega) (by omega)]; omega
    simp only [slices_Equal_bool_bool.l0]
    rw [if_pos (by omega), if_pos (by omega), if_pos (by omega), if_pos (by omega), hr, hr2, hw, List.drop_eq_getElem_cons hlt, List.drop_eq_getElem_cons hlt2]
    by_cases he : x[i] = y[i]
    · rw [if_neg (by simp [he]), ih k (i + 1) (by omega) (by omega) (by omega)]
      simp only [he, List.cons.injEq, true_and]
    · rw [if_pos (by simpa using he)]
      simp only [he, List.cons.injEq, false_and, decide_false]
theorem equal_f (x y : List Bool) (hn : x.length ≤ 1000000) : slices_Equal_bool_bool.f (x.length + 1) x y = some (decide (x = y)) := by
  unfold slices_Equal_bool_bool.f
  by_cases h : x.length = y.length
  · rw [if_pos (by omega)]
    have := equal_from x y h hn x.length (x.length + 1) 0 (by omega) (by omega) (by omega)
    simpa using this
  · rw [if_neg (by omega)]
    have : x ≠ y := fun e => h (by rw [e])
    simp [this]
theorem equal_any {W : World} {B B' : Nat} {u v : Value} {x y : List Bool} (hu : OB W B u x) (hv : OB W B' v y) (hn : x.length ≤ 1000000) : Calls Try.prog 31 #[u, v] W fun e W' => e = .returned (.bool (decide (x = y))) ∧ Below W.heap.size W W' := by
  obtain ⟨A, c, rfl, hc, hC⟩ := hu.reads
  obtain ⟨A', c', rfl, hc', hC'⟩ := hv.reads
  refine (slices_Equal_bool_bool.calls (x.length + 1) A c x A' c' y _ W hC hc hC' hc' (equal_f x y hn)).mono ?_
  rintro e W' ⟨rfl, hd⟩
  exact ⟨rfl, hd.below⟩

/-! ### The settling of a flow -/
section
variable {w w6 : World} {gc gf mb N : Nat} {s : ByteArray} {p : Int} {A2 : Option Addr} {n2 c2 : Nat} {A3 : Option Addr} {c3 : Nat} {l03 : List S58} {cs : List S66} {every : Bool} {Ar : Option Addr} {cr : Nat} {Ap : Option Addr} {cp : Nat} {vf : Value} {start : List Bool} {go capo : Nat}
/-- A flow that is made whole. -/
theorem FPre.whole (h : FPre w w6 gc gf mb N s p A2 n2 c2 A3 c3 l03 cs every Ar cr Ap cp vf (.slice (some ⟨go, 0, none⟩) l03.length capo)) (hf : OB w6 w.heap.size vf (firstL N start)) {vos : List Value} (hO : w6.ownsRow w.heap.size 26 1 (.slice (some ⟨go, 0, none⟩) l03.length capo) l03.length vos) (hOO : ∀ u ∈ vos, OB w6 w.heap.size u (List.replicate N every)) :
    FlowSt w w6.heap.size gf gc w.heap.size mb N s p A2 n2 c2 A3 c3 l03 cs (firstL N start) every vf (.slice Ar (reachL (bksOf l03)).length cr) (.slice Ap l03.length cp) go capo (fun _ => List.replicate N every) w6 := by
  obtain ⟨vs, hp⟩ := h.prd
  obtain ⟨n0, f, hM, _⟩ := id h.tab
  have hl := hO.1
  rw [Nat.mul_one] at hl
  exact ⟨⟨h.blk, h.tab, h.low, hf, h.rch, h.prd, vos, by rw [hl]; exact hO, hl, fun i u hu => hOO u (List.mem_of_getElem? hu)⟩, ⟨vs, (RR.bound hp).mono (fun _ hk => hk.2)⟩, h.box, h.bod, fun _ => by simp, hM.lt, h.low.size⟩
theorem flow_settle (hC : Kd.C k58 w A3 l03.length l03) (hfew : fewB l03 = true) (hN : N ≤ 1000) (hcl : cs.length ≤ 1000) {B0 : Nat} {vr vp : Value} :
    Settle (List Bool) l03.length B0 w.heap.size go 31 32 53 26 (.pointer (some ⟨gc, 0, none⟩)) (.pointer (some ⟨w.heap.size, 0, none⟩))
      (fun o W => FlowSt w B0 gf gc w.heap.size mb N s p A2 n2 c2 A3 c3 l03 cs (firstL N start) every vf vr vp go capo o W) (fun W u x => OB W w.heap.size u x ∧ x.length = N)
      (fun o n => leaveL (bksOf l03) (chsOf cs) N start every o n) (fun n => succI (bksOf l03) n) (fun x y => decide (x = y)) := by
  obtain ⟨hm, hb⟩ := fewB_at hfew
  refine ⟨fun o W W' h hb => h.below hb, fun o W W' h hb hk => h.queue hb hk, fun o W n h hn => ?_, fun o W h hm => ?_, fun o W n u x h hn hu => h.store hn hu.1 hu.2, fun W W' u x hu hb => ⟨pw_own_below hu.1 hb, hu.2⟩, fun W u x hu => ?_, fun W u x u' y hu hy => equal_any hu.1 hy.1 (by rw [hu.2]; omega), fun o W n h hn => ?_⟩
  · obtain ⟨u, h1, h2, h3⟩ := h.get hn
    exact ⟨u, h1, h2, h3⟩
  · obtain ⟨vs, h1, _⟩ := h.flow.out
    exact own_typed h1 go rfl
  · obtain ⟨A, c, e⟩ := own_slice hu.1
    exact ⟨A, _, c, e⟩
  · have hbn := hb _ (List.getElem_mem hn)
    have he : rd_T58 l03 n = l03[n] := by simp [rd_T58, List.getElem?_eq_getElem hn, List.getD_eq_getElem?_getD]
    have hbk := rd_T58_get hn
    refine (look_any h hN (firstL_length) n hn (by omega) hC hcl (by rw [he]; omega) (by rw [he]; omega) w.heap.size (Nat.le_refl _) h.flow.low.size).mono ?_
    rintro e W' ⟨u, lb, gb, ga, rfl, h1, h2⟩
    refine ⟨u, lb, gb, ga, rfl, ⟨?_, leave_length h.len n⟩, h2⟩
    unfold leaveL
    rw [hbk]
    exact h1
end
theorem flow_way' (bs : List Bk) (cs : List Ch) (N : Nat) (start : List Bool) (e : Bool) {m : Nat} (hm : bs.length = m) : Way (List Bool) m (fun o n => leaveL bs cs N start e o n) (fun n => succI bs n) (fun x y => decide (x = y)) (FPhi bs cs N start e) (potL m e) := by
  subst hm
  exact flow_way bs cs N start e
/-- A row of rows of rows of flags. -/
def N3 (W : World) (B : Nat) (v : Value) (xsss : List (List (List Bool))) : Prop :=
  ∃ vs, W.ownsRow B 44 1 v vs.length vs ∧ vs.length = xsss.length ∧ ∀ (i : Nat) (u : Value) (xss : List (List Bool)), vs[i]? = some u → xsss[i]? = some xss → N2 W B u xss
end Go.Proofs.Ythgnbeeobhfeaaa.T
end
