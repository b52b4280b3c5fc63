/- The memory and the document's answer the same: the plain law. No Go in sight. -/
import Derived.Test.YtkgiddpeaebdfaaR7
namespace Go.Proofs.Ytkgiddpeaebdfaa

/-- The rows of allocations say the same. -/
def Alike : List (Int × Bool) → List Bk → Prop
  | [], [] => True
  | x :: l, b :: m => (x.2 = b.freed ∧ (b.freed = false → x.1 = b.ws.length)) ∧ Alike l m
  | [], _ :: _ => False
  | _ :: _, [] => False

theorem Alike.len : ∀ {l : List (Int × Bool)} {m : List Bk}, Alike l m → l.length = m.length
  | [], [], _ => rfl
  | _ :: _, _ :: _, h => by simp [Alike.len h.2]
theorem Alike.get : ∀ {l : List (Int × Bool)} {m : List Bk} {i : Nat} {x : Int × Bool} {b : Bk}, Alike l m → l[i]? = some x → m[i]? = some b → x.2 = b.freed ∧ (b.freed = false → x.1 = b.ws.length)
  | [], [], i, x, b, _, hx, _ => by simp at hx
  | y :: l, c :: m, 0, x, b, h, hx, hb => by simp at hx hb; subst hx hb; exact h.1
  | y :: l, c :: m, i + 1, x, b, h, hx, hb => Alike.get (i := i) h.2 (by simpa using hx) (by simpa using hb)
theorem Alike.append : ∀ {l : List (Int × Bool)} {m : List Bk} {x : Int × Bool} {b : Bk}, Alike l m → x.2 = b.freed → (b.freed = false → x.1 = b.ws.length) → Alike (l ++ [x]) (m ++ [b])
  | [], [], x, b, _, h1, h2 => ⟨⟨h1, h2⟩, trivial⟩
  | y :: l, c :: m, x, b, h, h1, h2 => ⟨h.1, Alike.append h.2 h1 h2⟩
theorem Alike.set : ∀ {l : List (Int × Bool)} {m : List Bk} {x : Int × Bool} {b : Bk} (i : Nat), Alike l m → x.2 = b.freed → (b.freed = false → x.1 = b.ws.length) → Alike (l.set i x) (m.set i b)
  | [], [], x, b, i, _, h1, h2 => by simp [Alike]
  | y :: l, c :: m, x, b, 0, h, h1, h2 => ⟨⟨h1, h2⟩, h.2⟩
  | y :: l, c :: m, x, b, i + 1, h, h1, h2 => ⟨h.1, Alike.set i h.2 h1 h2⟩
theorem Alike.setR : ∀ {l : List (Int × Bool)} {m : List Bk} {b c : Bk} (i : Nat), Alike l m → m[i]? = some c → b.freed = c.freed → b.ws.length = c.ws.length → Alike l (m.set i b)
  | [], [], b, c, i, _, hc, _, _ => by simp at hc
  | y :: l, d :: m, b, c, 0, h, hc, h1, h2 => by simp at hc; subst hc; exact ⟨⟨h1 ▸ h.1.1, fun e => by rw [h2]; exact h.1.2 (h1 ▸ e)⟩, h.2⟩
  | y :: l, d :: m, b, c, i + 1, h, hc, h1, h2 => ⟨h.1, Alike.setR i h.2 (by simpa using hc) h1 h2⟩
theorem Alike.words : ∀ {l : List (Int × Bool)} {m : List Bk}, Alike l m → (∀ b ∈ m, b.freed = true → b.ws = []) → wsum l = ((m.map fun b => b.ws.length).sum : Nat)
  | [], [], _, _ => rfl
  | x :: l, b :: m, h, hg => by
    have ih := Alike.words h.2 (fun c hc => hg c (by simp [hc]))
    have hx := h.1.1
    cases hf : b.freed
    · have : wsum (x :: l) = x.1 + wsum l := by simp [wsum, hx, hf]
      rw [this, ih, h.1.2 hf]
      simp
    · have : wsum (x :: l) = wsum l := by simp [wsum, hx, hf]
      rw [this, ih]
      simp [hg b (by simp) hf]
theorem Alike.live : ∀ {l : List (Int × Bool)} {m : List Bk}, Alike l m → lsum l = ((m.map Bk.one).sum : Nat)
  | [], [], _ => rfl
  | x :: l, b :: m, h => by
    have ih := Alike.live h.2
    have hx := h.1.1
    cases hf : b.freed
    · have : lsum (x :: l) = lsum l + 1 := by simp [lsum, hx, hf]
      rw [this, ih]
      simp [Bk.one, hf]
      omega
    · have : lsum (x :: l) = lsum l := by simp [lsum, hx, hf]
      rw [this, ih]
      simp [Bk.one, hf]

theorem find_keep (l : List Ce) (a n a' n' : Int) : (ckeep l a n).find? (fun x => x.a == a' && x.n == n') = if a' = a ∧ n' = n then none else l.find? (fun x => x.a == a' && x.n == n') := by
  induction l with
  | nil => simp [ckeep]
  | cons x l ih =>
    by_cases hx : x.a = a ∧ x.n = n
    · have e : ckeep (x :: l) a n = ckeep l a n := by simp [ckeep, hx.1, hx.2]
      rw [e, ih]
      split
      · rfl
      · rename_i h
        have : (x.a == a' && x.n == n') = false := by
          rw [hx.1, hx.2]
          cases hq : (a == a' && n == n')
          · rfl
          · simp at hq
            exact absurd ⟨hq.1.symm, hq.2.symm⟩ h
        simp [List.find?, this]
    · have e : ckeep (x :: l) a n = x :: ckeep l a n := by
        have : (!(x.a == a && x.n == n)) = true := by
          cases hq : (x.a == a && x.n == n)
          · rfl
          · simp at hq
            exact absurd hq hx
        simp [ckeep, List.filter, this]
      rw [e]
      by_cases hm : x.a = a' ∧ x.n = n'
      · have : (x.a == a' && x.n == n') = true := by simp [hm.1, hm.2]
        have h : ¬ (a' = a ∧ n' = n) := fun q => hx ⟨hm.1.trans q.1, hm.2.trans q.2⟩
        simp [List.find?, this, h]
      · have : (x.a == a' && x.n == n') = false := by
          cases hq : (x.a == a' && x.n == n')
          · rfl
          · simp at hq
            exact absurd hq hm
        simp only [List.find?, this]
        exact ih

theorem find_drop (R : Rf) (a n a' n' : Int) : (R.drop a n).find a' n' = if a' = a ∧ n' = n then none else R.find a' n' := find_keep R.ce a n a' n'
theorem find_store {R : Rf} {b : Bool} {a n : Int} {w : Wd} (h : R.storeE b a n = 0) (a' n' : Int) : (R.store b a n w).find a' n' = if a' = a ∧ n' = n then some ⟨a, n, w⟩ else R.find a' n' := by
  rw [Rf.store, if_pos h]
  unfold Rf.find
  simp only [List.find?_append, find_keep]
  split
  · rename_i e
    simp [e.1, e.2]
  · rename_i e
    have : (a == a' && n == n') = false := by
      cases hq : (a == a' && n == n')
      · rfl
      · simp at hq
        exact absurd ⟨hq.1.symm, hq.2.symm⟩ e
    simp [List.find?, this]

structure Cpl (S : Me) (R : Rf) : Prop where
  inv : S.Inv
  room : R.room = S.room
  al : Alike R.bl S.bs
  low : ∀ x ∈ R.ce, x.a ≤ R.bl.length
  cell : ∀ a n : Int, S.blockE true a = 0 → 0 ≤ n → n < (S.at a).ws.length → (R.find a n).map Ce.w = if (S.at a).st.getD n.toNat false = true then some ((S.at a).ws.getD n.toNat Wd.zero) else none

section
variable {S : Me} {R : Rf} (h : Cpl S R)
include h
theorem Cpl.len : R.bl.length = S.bs.length := h.al.len
theorem Cpl.words : R.words = S.used := by
  have := h.al.words h.inv.gone
  rw [h.inv.used, ← this]
  rfl
theorem Cpl.live : R.live = S.live := by
  have := h.al.live
  rw [h.inv.live, ← this]
  rfl
theorem Cpl.at {a : Int} (h1 : 1 ≤ a) (h2 : a ≤ S.bs.length) : (R.at a).2 = (S.at a).freed ∧ ((S.at a).freed = false → (R.at a).1 = (S.at a).ws.length) := by
  have hl := h.len
  exact h.al.get (R.at_get h1 (by omega)) (by rw [List.getElem?_eq_getElem (by omega), at_get h1 h2])
theorem Cpl.check (b : Bool) (a : Int) : R.check b a = S.blockE b a := by
  unfold Rf.check Me.blockE
  rw [h.len]
  split
  · rfl
  · split
    · rfl
    · rename_i h1
      rw [(h.at (a := a) (by omega) (by omega)).1]
theorem Cpl.has {b : Bool} {a : Int} (hb : S.blockE b a = 0) (n k : Int) : R.has a n k = decide (¬ (n < 0 ∨ ((S.at a).ws.length : Int) < k ∨ ((S.at a).ws.length : Int) - k < n)) := by
  obtain ⟨_, h1, h2, h3⟩ := blockE_zero hb
  unfold Rf.has
  rw [(h.at h1 h2).2 h3, Bool.eq_iff_iff]
  simp
  omega
theorem Cpl.pieceE (b : Bool) (a n k : Int) : (if R.check b a ≠ 0 then R.check b a else if R.has a n k = false then 13 else 0) = S.pieceE b a n k := by
  unfold Me.pieceE
  rw [h.check]
  split
  · rfl
  · rename_i h1
    rw [h.has (b := b) (by simpa using h1)]
    by_cases hp : n < 0 ∨ ((S.at a).ws.length : Int) < k ∨ ((S.at a).ws.length : Int) - k < n
    · rw [if_pos hp, if_pos (by simp; omega)]
    · rw [if_neg hp, if_neg (by simpa using hp)]
theorem Cpl.storeE (b : Bool) (a n : Int) : R.storeE b a n = S.pieceE b a n 1 := h.pieceE b a n 1
theorem Cpl.find_ok {b : Bool} {a n : Int} (hp : S.pieceE b a n 1 = 0) : (R.find a n).map Ce.w = if (S.at a).st.getD n.toNat false = true then some ((S.at a).ws.getD n.toNat Wd.zero) else none := by
  obtain ⟨hb, g1, g2, g3⟩ := pieceE_zero hp
  obtain ⟨rfl, _, _, _⟩ := blockE_zero hb
  exact h.cell a n hb g1 (by omega)
theorem Cpl.loadE (b : Bool) (a n : Int) : R.loadE b a n = S.loadE b a n := by
  have hp := h.pieceE b a n 1
  unfold Rf.loadE Me.loadE
  by_cases h1 : R.check b a ≠ 0
  · rw [if_pos h1] at hp
    rw [if_pos h1, if_pos (hp ▸ h1), hp]
  · by_cases h2 : R.has a n 1 = false
    · rw [if_neg h1, if_pos h2] at hp
      rw [if_neg h1, if_pos h2, ← hp]
      rfl
    · rw [if_neg h1, if_neg h2] at hp
      have hf := h.find_ok hp.symm
      rw [if_neg h1, if_neg h2, if_neg (show ¬ (S.pieceE b a n 1 ≠ 0) by rw [← hp]; decide)]
      cases hst : (S.at a).st.getD n.toNat false <;> rw [hst] at hf <;> cases hq : R.find a n <;> simp [hq] at hf ⊢
theorem Cpl.loadW (b : Bool) (a n : Int) : R.loadW b a n = S.loadW b a n := by
  unfold Rf.loadW Me.loadW
  rw [h.loadE]
  split
  · rename_i he
    have hp : S.pieceE b a n 1 = 0 := loadE_zero he
    have hf := h.find_ok hp
    have hst : (S.at a).st.getD n.toNat false = true := by
      unfold Me.loadE at he
      rw [if_neg (by simp [hp])] at he
      split at he
      · assumption
      · simp at he
    rw [hf, if_pos hst]
    rfl
  · rfl
theorem Cpl.allocE (n : Int) : R.allocE n = S.allocE n := by
  unfold Rf.allocE Me.allocE
  rw [h.words, h.room]
theorem Cpl.allocW (n : Int) : R.allocW n = S.allocW n := by
  unfold Rf.allocW Me.allocW
  rw [h.allocE, h.len]
theorem Cpl.freeE (b : Bool) (a n : Int) : R.freeE b a n = S.freeE b a n := by
  unfold Rf.freeE Me.freeE
  rw [h.check]
theorem Cpl.clearE (b : Bool) (a n k : Int) : R.clearE b a n k = S.clearE b a n k := by
  unfold Rf.clearE Me.clearE
  rw [h.pieceE]
theorem Cpl.loadsE (b : Bool) (a : Int) : ∀ (k : Nat) (n : Int), R.loadsE b a n k = S.loadsE b a n k
  | 0, _ => rfl
  | k + 1, n => by rw [Rf.loadsE, Me.loadsE, h.loadE, Cpl.loadsE b a k (n + 1)]
theorem Cpl.loads (b : Bool) (a n : Int) (k : Nat) : R.loads b a n k = S.loads b a n k := by
  unfold Rf.loads Me.loads
  congr 1
  funext i
  exact h.loadW b a _
theorem Cpl.copyE (tb : Bool) (ta tn : Int) (fb : Bool) (fa fn n : Int) : R.copyE tb ta tn fb fa fn n = S.copyE tb ta tn fb fa fn n := by
  unfold Rf.copyE Me.copyE
  rw [h.loadsE, h.pieceE]
end

theorem cpl_new (n : Int) : Cpl (Me.new n) (Rf.new n) := by
  refine ⟨Inv.new n, rfl, trivial, by simp [Rf.new], ?_⟩
  intro a n' hb
  obtain ⟨_, h1, h2, _⟩ := blockE_zero hb
  simp [Me.new] at h2
  omega

theorem Cpl.alloc {S : Me} {R : Rf} (h : Cpl S R) (n : Int) : Cpl (S.alloc n) (R.alloc n) := by
  have hi := Inv.alloc h.inv n
  by_cases he : S.allocE n = 0
  · have he2 : R.allocE n = 0 := by rw [h.allocE]; exact he
    have n0 : 0 ≤ n := by
      unfold Me.allocE at he
      split at he
      · simp at he
      · omega
    have e1 : S.alloc n = ⟨S.room, S.used + n, S.live + 1, S.bs ++ [⟨List.replicate n.toNat Wd.zero, List.replicate n.toNat false, false⟩]⟩ := by rw [Me.alloc, if_pos he]
    have e2 : R.alloc n = { R with bl := R.bl ++ [(n, false)] } := by rw [Rf.alloc, if_pos he2]
    rw [e1] at hi ⊢
    rw [e2]
    have hl := h.len
    refine ⟨hi, h.room, h.al.append rfl (fun _ => by simp; omega), fun x hx => by have := h.low x hx; simp; omega, ?_⟩
    intro a n' hb g1 g2
    obtain ⟨_, h1, h2, h3⟩ := blockE_zero hb
    by_cases ha : a ≤ S.bs.length
    · have e : Me.at ⟨S.room, S.used + n, S.live + 1, S.bs ++ [⟨List.replicate n.toNat Wd.zero, List.replicate n.toNat false, false⟩]⟩ a = S.at a := by
        simp only [Me.at, List.getD_eq_getElem?_getD]
        rw [List.getElem?_append_left (by omega)]
      rw [e] at g2 h3 ⊢
      refine h.cell a n' ?_ g1 g2
      rw [Me.blockE, if_neg (by simp), if_neg (by omega), if_neg (by simp [h3])]
    · have ha2 : a = S.bs.length + 1 := by simp at h2; omega
      have e : Me.at ⟨S.room, S.used + n, S.live + 1, S.bs ++ [⟨List.replicate n.toNat Wd.zero, List.replicate n.toNat false, false⟩]⟩ a = ⟨List.replicate n.toNat Wd.zero, List.replicate n.toNat false, false⟩ := by
        simp only [Me.at, List.getD_eq_getElem?_getD]
        rw [List.getElem?_append_right (by omega), show a.toNat - 1 - S.bs.length = 0 by omega]
        rfl
      rw [e]
      have hn : R.find a n' = none := by
        unfold Rf.find
        rw [List.find?_eq_none]
        intro x hx hq
        have := h.low x hx
        simp at hq
        omega
      have hf : (List.replicate n.toNat false).getD n'.toNat false = false := by
        rw [List.getD_eq_getElem?_getD, List.getElem?_replicate]
        split <;> rfl
      show (R.find a n').map Ce.w = _
      rw [hn, hf]
      rfl
  · have e1 : S.alloc n = S := by rw [Me.alloc, if_neg he]
    have e2 : R.alloc n = R := by rw [Rf.alloc, if_neg (by rw [h.allocE]; exact he)]
    rw [e1, e2]
    exact h

theorem at_set_ne {S : Me} {a a' : Int} {b : Bk} {u l r : Int} (h1 : 1 ≤ a) (h2 : 1 ≤ a') (hne : a' ≠ a) : Me.at ⟨r, u, l, S.bs.set (a.toNat - 1) b⟩ a' = S.at a' := by
  have : a.toNat - 1 ≠ a'.toNat - 1 := by omega
  simp only [Me.at, List.getD_eq_getElem?_getD]
  rw [List.getElem?_set_ne this]
theorem at_set_eq {S : Me} {a : Int} {b : Bk} {u l r : Int} (h1 : 1 ≤ a) (h2 : a ≤ S.bs.length) : Me.at ⟨r, u, l, S.bs.set (a.toNat - 1) b⟩ a = b := by
  simp only [Me.at, List.getD_eq_getElem?_getD]
  rw [List.getElem?_set_self (by omega)]
  rfl

theorem Cpl.free {S : Me} {R : Rf} (h : Cpl S R) (b : Bool) (a n : Int) : Cpl (S.free b a n) (R.free b a n) := by
  have hi := Inv.free h.inv b a n
  by_cases he : S.freeE b a n = 0
  · have hb : S.blockE b a = 0 := by
      unfold Me.freeE at he
      split at he
      · rename_i h1; exact absurd he h1
      · rename_i h1; simpa using h1
    obtain ⟨_, h1, h2, _⟩ := blockE_zero hb
    have e1 : S.free b a n = ⟨S.room, S.used - (S.at a).ws.length, S.live - 1, S.bs.set (a.toNat - 1) Bk.none⟩ := by rw [Me.free, if_pos he]
    have e2 : R.free b a n = { R with bl := R.bl.set (a.toNat - 1) ((R.at a).1, true) } := by rw [Rf.free, if_pos (by rw [h.freeE]; exact he)]
    rw [e1] at hi ⊢
    rw [e2]
    refine ⟨hi, h.room, h.al.set _ rfl (fun q => by simp [Bk.none] at q), fun x hx => by have := h.low x hx; simpa using this, ?_⟩
    intro a' n' hb' g1 g2
    obtain ⟨_, k1, k2, k3⟩ := blockE_zero hb'
    by_cases ha : a' = a
    · subst ha
      rw [at_set_eq h1 h2] at k3
      simp [Bk.none] at k3
    · rw [at_set_ne h1 k1 ha] at k3 g2 ⊢
      simp at k2
      exact h.cell a' n' (by rw [Me.blockE, if_neg (by simp), if_neg (by omega), if_neg (by simp [k3])]) g1 g2
  · have e1 : S.free b a n = S := by rw [Me.free, if_neg he]
    have e2 : R.free b a n = R := by rw [Rf.free, if_neg (by rw [h.freeE]; exact he)]
    rw [e1, e2]
    exact h

/-- One allocation's words and flags are others, as many; and so are the cells of that number alone. -/
theorem Cpl.change {S : Me} {R : Rf} (h : Cpl S R) {a : Int} {ws : List Wd} {st : List Bool} {ce : List Ce} (hb : S.blockE true a = 0) (hw : ws.length = (S.at a).ws.length) (hs : st.length = (S.at a).st.length)
    (hl : ∀ x ∈ ce, x.a = a ∨ x ∈ R.ce) (ho : ∀ a' n' : Int, a' ≠ a → ce.find? (fun x => x.a == a' && x.n == n') = R.find a' n')
    (hc : ∀ n' : Int, 0 ≤ n' → n' < ws.length → (ce.find? (fun x => x.a == a && x.n == n')).map Ce.w = if st.getD n'.toNat false = true then some (ws.getD n'.toNat Wd.zero) else none) :
    Cpl (S.setAt a ⟨ws, st, false⟩) { R with ce := ce } := by
  obtain ⟨_, h1, h2, h3⟩ := blockE_zero hb
  have hsame := Inv.at_same h.inv a h1 h2
  refine ⟨Inv.setAt h.inv h1 h2 hw (by show ws.length = st.length; omega) rfl h3, h.room, h.al.setR (c := S.at a) _ (by rw [List.getElem?_eq_getElem (by omega), at_get h1 h2]) h3.symm hw, ?_, ?_⟩
  · intro x hx
    rcases hl x hx with e | e
    · have := h.len
      show x.a ≤ R.bl.length
      omega
    · exact h.low x e
  · intro a' n' hb' g1 g2
    obtain ⟨_, k1, k2, k3⟩ := blockE_zero hb'
    unfold Me.setAt at k2 k3 g2 ⊢
    by_cases ha : a' = a
    · subst ha
      rw [at_set_eq h1 h2] at g2 ⊢
      exact hc n' g1 g2
    · rw [at_set_ne h1 k1 ha] at k3 g2 ⊢
      simp at k2
      have := h.cell a' n' (by rw [Me.blockE, if_neg (by simp), if_neg (by omega), if_neg (by simp [k3])]) g1 g2
      rw [← this, ← ho a' n' ha]
      rfl

theorem keep_sub {l : List Ce} {a n : Int} {x : Ce} (h : x ∈ ckeep l a n) : x ∈ l := (List.mem_filter.1 h).1

theorem getD_set {α : Type} (l : List α) (i j : Nat) (x d : α) (hi : i < l.length) : (l.set i x).getD j d = if j = i then x else l.getD j d := by
  rw [List.getD_eq_getElem?_getD, List.getElem?_set]
  by_cases e : i = j
  · subst e; simp [hi]
  · rw [if_neg e, if_neg (fun q => e q.symm), ← List.getD_eq_getElem?_getD]

theorem Cpl.store {S : Me} {R : Rf} (h : Cpl S R) (b : Bool) (a n : Int) (w : Wd) : Cpl (S.store b a n w) (R.store b a n w) := by
  by_cases he : S.pieceE b a n 1 = 0
  · obtain ⟨hb, g1, g2, g3⟩ := pieceE_zero he
    obtain ⟨rfl, h1, h2, h3⟩ := blockE_zero hb
    have hsame := Inv.at_same h.inv a h1 h2
    have e2 : R.store true a n w = { R with ce := ckeep R.ce a n ++ [⟨a, n, w⟩] } := by rw [Rf.store, if_pos (by rw [h.storeE]; exact he)]
    have hst := find_store (R := R) (b := true) (a := a) (n := n) (w := w) (by rw [h.storeE]; exact he)
    rw [e2] at hst ⊢
    rw [Me.store, if_pos he]
    refine h.change hb (by simp) (by simp) ?_ ?_ ?_
    · intro x hx
      rcases List.mem_append.1 hx with hx | hx
      · exact .inr (keep_sub hx)
      · simp at hx; subst hx; exact .inl rfl
    · intro a' n' ha
      exact (hst a' n').trans (if_neg (fun q => ha q.1))
    · intro n' k1 k2
      have := hst a n'
      unfold Rf.find at this
      rw [this]
      simp at k2
      rw [getD_set _ _ _ _ _ (by omega), getD_set _ _ _ _ _ (by omega)]
      by_cases e : n' = n
      · subst e; simp
      · have e3 : ¬ n'.toNat = n.toNat := by omega
        rw [if_neg (fun q => e q.2)]
        simp only [if_neg e3]
        exact h.cell a n' hb k1 (by omega)
  · have e1 : S.store b a n w = S := by rw [Me.store, if_neg he]
    have e2 : R.store b a n w = R := by rw [Rf.store, if_neg (by rw [h.storeE]; exact he)]
    rw [e1, e2]
    exact h

theorem splice_getD {α : Type} (l m : List α) (o j : Nat) (d : α) (h : o + m.length ≤ l.length) : (splice l o m).getD j d = if o ≤ j ∧ j < o + m.length then m.getD (j - o) d else l.getD j d := by
  simp only [splice, List.getD_eq_getElem?_getD]
  have e : (l.take o).length = o := by simp; omega
  by_cases h1 : j < o
  · rw [List.getElem?_append_left (by omega), List.getElem?_take_of_lt h1, if_neg (by omega)]
  · rw [List.getElem?_append_right (by omega), e]
    by_cases h2 : j < o + m.length
    · rw [List.getElem?_append_left (by omega), if_pos (by omega)]
    · rw [List.getElem?_append_right (by omega), List.getElem?_drop, if_neg (by omega)]
      congr 2
      omega

theorem find_dropN (R : Rf) (a n a' n' : Int) : ∀ k : Nat, (R.dropN a n k).find a' n' = if a' = a ∧ n ≤ n' ∧ n' < n + k then none else R.find a' n'
  | 0 => by rw [if_neg (by omega)]; rfl
  | k + 1 => by
    rw [Rf.dropN, find_drop, find_dropN R a n a' n' k]
    by_cases h1 : a' = a ∧ n' = n + k
    · rw [if_pos h1, if_pos (by omega)]
    · rw [if_neg h1]
      by_cases h2 : a' = a ∧ n ≤ n' ∧ n' < n + k
      · rw [if_pos h2, if_pos (by omega)]
      · rw [if_neg h2, if_neg (by omega)]
theorem dropN_sub {R : Rf} {a n : Int} : ∀ {k : Nat} {x : Ce}, x ∈ (R.dropN a n k).ce → x ∈ R.ce
  | 0, _, h => h
  | k + 1, _, h => dropN_sub (k := k) (keep_sub h)
theorem dropN_eq (R : Rf) (a n : Int) : ∀ k, R.dropN a n k = { R with ce := (R.dropN a n k).ce }
  | 0 => rfl
  | k + 1 => by
    have := dropN_eq R a n k
    simp only [Rf.dropN, Rf.drop]
    rw [this]

theorem Cpl.clear {S : Me} {R : Rf} (h : Cpl S R) (b : Bool) (a n k : Int) : Cpl (S.clear b a n k) (R.clear b a n k) := by
  by_cases he : S.clearE b a n k = 0
  · have e2 : R.clear b a n k = R.dropN a n k.toNat := by rw [Rf.clear, if_pos (by rw [h.clearE]; exact he)]
    rw [Me.clear, if_pos he, e2]
    unfold Me.clearE at he
    split at he
    · simp at he
    · rename_i hk
      obtain ⟨hb, g1, g2, g3⟩ := pieceE_zero he
      obtain ⟨rfl, h1, h2, h3⟩ := blockE_zero hb
      have hsame := Inv.at_same h.inv a h1 h2
      have hsl : (splice (S.at a).st n.toNat (List.replicate k.toNat false)).length = (S.at a).st.length := splice_length _ _ _ (by simp; omega)
      have hf := find_dropN R a n
      rw [dropN_eq]
      refine h.change hb rfl hsl (fun x hx => .inr (dropN_sub hx)) ?_ ?_
      · intro a' n' ha
        exact (hf a' n' k.toNat).trans (if_neg (fun q => ha q.1))
      · intro n' k1 k2
        have := hf a n' k.toNat
        unfold Rf.find at this
        rw [this, splice_getD _ _ _ _ _ (by simp; omega)]
        by_cases e : n ≤ n' ∧ n' < n + k
        · have e4 : n.toNat ≤ n'.toNat ∧ n'.toNat < n.toNat + (List.replicate k.toNat false).length := by simp; omega
          rw [if_pos (show a = a ∧ n ≤ n' ∧ n' < n + (k.toNat : Int) by omega)]
          simp only [if_pos e4]
          have : (List.replicate k.toNat false).getD (n'.toNat - n.toNat) false = false := by
            rw [List.getD_eq_getElem?_getD, List.getElem?_replicate]
            split <;> rfl
          rw [this]
          rfl
        · have e4 : ¬ (n.toNat ≤ n'.toNat ∧ n'.toNat < n.toNat + (List.replicate k.toNat false).length) := by simp; omega
          rw [if_neg (show ¬ (a = a ∧ n ≤ n' ∧ n' < n + (k.toNat : Int)) by omega)]
          simp only [if_neg e4]
          exact h.cell a n' hb k1 k2
  · have e1 : S.clear b a n k = S := by rw [Me.clear, if_neg he]
    have e2 : R.clear b a n k = R := by rw [Rf.clear, if_neg (by rw [h.clearE]; exact he)]
    rw [e1, e2]
    exact h

theorem storeN_eq (R : Rf) (a n : Int) (ws : List Wd) : ∀ t, R.storeN a n ws t = { R with ce := (R.storeN a n ws t).ce }
  | 0 => rfl
  | t + 1 => by
    have := storeN_eq R a n ws t
    simp only [Rf.storeN, Rf.store]
    split <;> rw [this]
theorem storeN_E (R : Rf) (a n : Int) (ws : List Wd) (t : Nat) (b : Bool) (a' n' : Int) : (R.storeN a n ws t).storeE b a' n' = R.storeE b a' n' := by
  rw [storeN_eq]
  rfl
theorem find_storeN (R : Rf) (a n : Int) (ws : List Wd) (a' n' : Int) : ∀ t : Nat, (∀ j : Nat, j < t → R.storeE true a (n + j) = 0) →
    ((R.storeN a n ws t).find a' n').map Ce.w = if a' = a ∧ n ≤ n' ∧ n' < n + t then some (ws.getD (n' - n).toNat Wd.zero) else (R.find a' n').map Ce.w
  | 0, _ => by rw [if_neg (by omega)]; rfl
  | t + 1, hk => by
    have ih := find_storeN R a n ws a' n' t (fun j hj => hk j (by omega))
    have hz : (R.storeN a n ws t).storeE true a (n + t) = 0 := by rw [storeN_E]; exact hk t (by omega)
    rw [Rf.storeN, find_store hz]
    by_cases h1 : a' = a ∧ n' = n + t
    · rw [if_pos h1, if_pos (by omega)]
      have : (n' - n).toNat = t := by omega
      rw [this]
      rfl
    · rw [if_neg h1, ih]
      by_cases h2 : a' = a ∧ n ≤ n' ∧ n' < n + t
      · rw [if_pos h2, if_pos (by omega)]
      · rw [if_neg h2, if_neg (by omega)]
theorem storeN_sub {R : Rf} {a n : Int} {ws : List Wd} : ∀ {t : Nat} {x : Ce}, x ∈ (R.storeN a n ws t).ce → x.a = a ∨ x ∈ R.ce
  | 0, _, h => .inr h
  | t + 1, x, h => by
    simp only [Rf.storeN, Rf.store] at h
    split at h
    · rcases List.mem_append.1 h with h | h
      · exact storeN_sub (t := t) (keep_sub h)
      · simp at h; subst h; exact .inl rfl
    · exact storeN_sub (t := t) h

/-- The same as 'change', of what is found alone. -/
theorem Cpl.changeW {S : Me} {R : Rf} (h : Cpl S R) {a : Int} {ws : List Wd} {st : List Bool} {ce : List Ce} (hb : S.blockE true a = 0) (hw : ws.length = (S.at a).ws.length) (hs : st.length = (S.at a).st.length)
    (hl : ∀ x ∈ ce, x.a = a ∨ x ∈ R.ce) (ho : ∀ a' n' : Int, a' ≠ a → (ce.find? (fun x => x.a == a' && x.n == n')).map Ce.w = (R.find a' n').map Ce.w)
    (hc : ∀ n' : Int, 0 ≤ n' → n' < ws.length → (ce.find? (fun x => x.a == a && x.n == n')).map Ce.w = if st.getD n'.toNat false = true then some (ws.getD n'.toNat Wd.zero) else none) :
    Cpl (S.setAt a ⟨ws, st, false⟩) { R with ce := ce } := by
  obtain ⟨_, h1, h2, h3⟩ := blockE_zero hb
  have hsame := Inv.at_same h.inv a h1 h2
  refine ⟨Inv.setAt h.inv h1 h2 hw (by show ws.length = st.length; omega) rfl h3, h.room, h.al.setR (c := S.at a) _ (by rw [List.getElem?_eq_getElem (by omega), at_get h1 h2]) h3.symm hw, ?_, ?_⟩
  · intro x hx
    rcases hl x hx with e | e
    · have := h.len
      show x.a ≤ R.bl.length
      omega
    · exact h.low x e
  · intro a' n' hb' g1 g2
    obtain ⟨_, k1, k2, k3⟩ := blockE_zero hb'
    unfold Me.setAt at k2 k3 g2 ⊢
    by_cases ha : a' = a
    · subst ha
      rw [at_set_eq h1 h2] at g2 ⊢
      exact hc n' g1 g2
    · rw [at_set_ne h1 k1 ha] at k3 g2 ⊢
      simp at k2
      have := h.cell a' n' (by rw [Me.blockE, if_neg (by simp), if_neg (by omega), if_neg (by simp [k3])]) g1 g2
      rw [← this, ← ho a' n' ha]
      rfl

theorem Cpl.copy {S : Me} {R : Rf} (h : Cpl S R) (tb : Bool) (ta tn : Int) (fb : Bool) (fa fn n : Int) : Cpl (S.copy tb ta tn fb fa fn n) (R.copy tb ta tn fb fa fn n) := by
  by_cases he : S.copyE tb ta tn fb fa fn n = 0
  · have e2 : R.copy tb ta tn fb fa fn n = R.storeN ta tn (S.loads fb fa fn n.toNat) n.toNat := by rw [Rf.copy, if_pos (by rw [h.copyE]; exact he), h.loads]
    rw [Me.copy, if_pos he, e2]
    have hll : (S.loads fb fa fn n.toNat).length = n.toNat := by simp [Me.loads]
    generalize S.loads fb fa fn n.toNat = ws at *
    unfold Me.copyE at he
    split at he
    · simp at he
    · split at he
      · rename_i h1; exact absurd he h1
      · rename_i hn _
        obtain ⟨hb, g1, g2, g3⟩ := pieceE_zero he
        obtain ⟨rfl, h1, h2, h3⟩ := blockE_zero hb
        have hsame := Inv.at_same h.inv ta h1 h2
        have e3 : (splice (S.at ta).ws tn.toNat ws).length = (S.at ta).ws.length := splice_length _ _ _ (by omega)
        have e4 : (splice (S.at ta).st tn.toNat (List.replicate n.toNat true)).length = (S.at ta).st.length := splice_length _ _ _ (by simp; omega)
        have hz : ∀ j : Nat, j < n.toNat → R.storeE true ta (tn + j) = 0 := fun j hj => by
          rw [h.storeE, Me.pieceE, if_neg (by simp [hb]), if_neg (by omega)]
        have hf := fun a' n' => find_storeN R ta tn ws a' n' n.toNat hz
        rw [storeN_eq]
        refine h.changeW hb e3 e4 (fun x hx => storeN_sub hx) ?_ ?_
        · intro a' n' ha
          exact (hf a' n').trans (if_neg (fun q => ha q.1))
        · intro n' k1 k2
          have := hf ta n'
          unfold Rf.find at this
          rw [this, splice_getD _ _ _ _ _ (by first | omega | (simp; omega)), splice_getD _ _ _ _ _ (by first | omega | (simp; omega))]
          have er : (List.replicate n.toNat true).length = n.toNat := by simp
          by_cases e : tn ≤ n' ∧ n' < tn + n
          · have e5 : tn.toNat ≤ n'.toNat ∧ n'.toNat < tn.toNat + ws.length := by omega
            have e6 : tn.toNat ≤ n'.toNat ∧ n'.toNat < tn.toNat + (List.replicate n.toNat true).length := by omega
            rw [if_pos (show ta = ta ∧ tn ≤ n' ∧ n' < tn + (n.toNat : Int) by omega)]
            simp only [if_pos e5, if_pos e6]
            have e7 : (List.replicate n.toNat true).getD (n'.toNat - tn.toNat) false = true := by
              rw [List.getD_eq_getElem?_getD, List.getElem?_replicate, if_pos (by omega)]
              rfl
            have e8 : (n' - tn).toNat = n'.toNat - tn.toNat := by omega
            rw [e7, e8]
            rfl
          · have e5 : ¬ (tn.toNat ≤ n'.toNat ∧ n'.toNat < tn.toNat + ws.length) := by omega
            have e6 : ¬ (tn.toNat ≤ n'.toNat ∧ n'.toNat < tn.toNat + (List.replicate n.toNat true).length) := by omega
            rw [if_neg (show ¬ (ta = ta ∧ tn ≤ n' ∧ n' < tn + (n.toNat : Int)) by omega)]
            simp only [if_neg e5, if_neg e6]
            exact h.cell ta n' hb k1 (by omega)
  · have e1 : S.copy tb ta tn fb fa fn n = S := by rw [Me.copy, if_neg he]
    have e2 : R.copy tb ta tn fb fa fn n = R := by rw [Rf.copy, if_neg (by rw [h.copyE]; exact he)]
    rw [e1, e2]
    exact h

end Go.Proofs.Ytkgiddpeaebdfaa
