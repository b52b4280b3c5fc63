/- The plain model of package mem: a memory as numbers and lists. No Go in sight. -/
namespace Go.Proofs.Ytkgiddpeaebdfaa

/-- A word: a number, or an address. -/
structure Wd where
  p : Bool
  a : Int
  n : Int
  deriving DecidableEq

def Wd.zero : Wd := ⟨false, 0, 0⟩

/-- An allocation: its words, which of them were stored; freed or not. -/
structure Bk where
  ws : List Wd
  st : List Bool
  freed : Bool

structure Me where
  room : Int
  used : Int
  live : Int
  bs : List Bk

def Bk.none : Bk := ⟨[], [], true⟩

def Bk.one (b : Bk) : Nat := if b.freed = true then 0 else 1

def Me.new (n : Int) : Me := ⟨min (max n 0) 1048576, 0, 0, []⟩

def Me.at (S : Me) (a : Int) : Bk := S.bs.getD (a.toNat - 1) Bk.none

def Me.blockE (S : Me) (b : Bool) (a : Int) : Int :=
  if b = false then 11 else if a < 1 ∨ (S.bs.length : Int) < a then 13 else if (S.at a).freed = true then 12 else 0

def Me.pieceE (S : Me) (b : Bool) (a n k : Int) : Int :=
  if S.blockE b a ≠ 0 then S.blockE b a
  else if n < 0 ∨ ((S.at a).ws.length : Int) < k ∨ ((S.at a).ws.length : Int) - k < n then 13 else 0

def Me.loadE (S : Me) (b : Bool) (a n : Int) : Int :=
  if S.pieceE b a n 1 ≠ 0 then S.pieceE b a n 1 else if (S.at a).st.getD n.toNat false = true then 0 else 14

def Me.loadW (S : Me) (b : Bool) (a n : Int) : Wd :=
  if S.loadE b a n = 0 then (S.at a).ws.getD n.toNat Wd.zero else Wd.zero

def Me.allocE (S : Me) (n : Int) : Int := if n < 0 then 1 else if S.room - S.used < n then 10 else 0

def Me.alloc (S : Me) (n : Int) : Me :=
  if S.allocE n = 0 then ⟨S.room, S.used + n, S.live + 1, S.bs ++ [⟨List.replicate n.toNat Wd.zero, List.replicate n.toNat false, false⟩]⟩ else S

def Me.allocW (S : Me) (n : Int) : Wd := if S.allocE n = 0 then ⟨true, (S.bs.length : Int) + 1, 0⟩ else Wd.zero

def Me.setAt (S : Me) (a : Int) (b : Bk) : Me := { S with bs := S.bs.set (a.toNat - 1) b }

def Me.freeE (S : Me) (b : Bool) (a n : Int) : Int :=
  if S.blockE b a ≠ 0 then S.blockE b a else if n ≠ 0 then 13 else 0

def Me.free (S : Me) (b : Bool) (a n : Int) : Me :=
  if S.freeE b a n = 0 then ⟨S.room, S.used - (S.at a).ws.length, S.live - 1, S.bs.set (a.toNat - 1) Bk.none⟩ else S

def Me.store (S : Me) (b : Bool) (a n : Int) (w : Wd) : Me :=
  if S.pieceE b a n 1 = 0 then S.setAt a ⟨(S.at a).ws.set n.toNat w, (S.at a).st.set n.toNat true, false⟩ else S

/-- The first error among loads of k words from there on; 0: there is none. -/
def Me.loadsE (S : Me) (b : Bool) (a n : Int) : Nat → Int
  | 0 => 0
  | k + 1 => if S.loadE b a n ≠ 0 then S.loadE b a n else S.loadsE b a (n + 1) k

def Me.copyE (S : Me) (tb : Bool) (ta tn : Int) (fb : Bool) (fa fn : Int) (n : Int) : Int :=
  if n < 0 then 1 else if S.loadsE fb fa fn n.toNat ≠ 0 then S.loadsE fb fa fn n.toNat else S.pieceE tb ta tn n

def splice {α : Type} (l : List α) (at_ : Nat) (m : List α) : List α := l.take at_ ++ (m ++ l.drop (at_ + m.length))

def Me.loads (S : Me) (b : Bool) (a n : Int) (k : Nat) : List Wd := (List.range k).map fun (i : Nat) => S.loadW b a (n + (i : Int))

def Me.copy (S : Me) (tb : Bool) (ta tn : Int) (fb : Bool) (fa fn : Int) (n : Int) : Me :=
  if S.copyE tb ta tn fb fa fn n = 0 then
    S.setAt ta ⟨splice (S.at ta).ws tn.toNat (S.loads fb fa fn n.toNat), splice (S.at ta).st tn.toNat (List.replicate n.toNat true), false⟩
  else S

def Me.clearE (S : Me) (b : Bool) (a n k : Int) : Int := if k < 0 then 1 else S.pieceE b a n k

def Me.clear (S : Me) (b : Bool) (a n k : Int) : Me :=
  if S.clearE b a n k = 0 then S.setAt a ⟨(S.at a).ws, splice (S.at a).st n.toNat (List.replicate k.toNat false), false⟩ else S

/-- What holds of every memory that was made by these calls. -/
structure Me.Inv (S : Me) : Prop where
  room0 : 0 ≤ S.room
  room1 : S.room ≤ 1048576
  used : S.used = ((S.bs.map fun b => b.ws.length).sum : Nat)
  live : S.live = ((S.bs.map Bk.one).sum : Nat)
  le : S.used ≤ S.room
  same : ∀ b ∈ S.bs, b.ws.length = b.st.length
  gone : ∀ b ∈ S.bs, b.freed = true → b.ws = []

theorem at_mem {S : Me} {a : Int} (h1 : 1 ≤ a) (h2 : a ≤ S.bs.length) : S.at a ∈ S.bs := by
  unfold Me.at
  have h : (a.toNat - 1) < S.bs.length := by omega
  rw [List.getD_eq_getElem?_getD, List.getElem?_eq_getElem h]
  exact List.getElem_mem h

theorem sum_mem {l : List Bk} {b : Bk} (h : b ∈ l) : b.ws.length ≤ (l.map fun b => b.ws.length).sum := by
  induction l with
  | nil => cases h
  | cons c l ih =>
    rcases List.mem_cons.1 h with rfl | h
    · simp
    · have := ih h
      simp
      omega

theorem Me.Inv.len_le {S : Me} (h : S.Inv) {b : Bk} (hb : b ∈ S.bs) : b.ws.length ≤ 1048576 := by
  have h1 := sum_mem hb
  have h2 := h.used
  have h3 := h.le
  have h4 := h.room1
  omega

theorem blockE_zero {S : Me} {b : Bool} {a : Int} (h : S.blockE b a = 0) : b = true ∧ 1 ≤ a ∧ a ≤ S.bs.length ∧ (S.at a).freed = false := by
  unfold Me.blockE at h
  split at h
  · simp at h
  · split at h
    · simp at h
    · split at h
      · simp at h
      · rename_i h1 h2 h3
        refine ⟨by simpa using h1, by omega, by omega, by simpa using h3⟩

theorem pieceE_zero {S : Me} {b : Bool} {a n k : Int} (h : S.pieceE b a n k = 0) : S.blockE b a = 0 ∧ 0 ≤ n ∧ k ≤ (S.at a).ws.length ∧ n ≤ ((S.at a).ws.length : Int) - k := by
  unfold Me.pieceE at h
  split at h
  · rename_i h1; exact absurd h h1
  · split at h
    · simp at h
    · rename_i h1 h2
      refine ⟨by simpa using h1, by omega, by omega, by omega⟩

theorem sum_set (f : Bk → Nat) (l : List Bk) (i : Nat) (b : Bk) (h : i < l.length) :
    ((l.set i b).map f).sum + f (l[i]) = (l.map f).sum + f b := by
  induction l generalizing i with
  | nil => simp at h
  | cons c l ih =>
    cases i with
    | zero => simp; omega
    | succ i => have := ih i (by simpa using h); simp at this ⊢; omega

theorem at_get {S : Me} {a : Int} (h1 : 1 ≤ a) (h2 : a ≤ S.bs.length) : S.bs[(a.toNat - 1)]'(by omega) = S.at a := by
  unfold Me.at
  rw [List.getD_eq_getElem?_getD, List.getElem?_eq_getElem (by omega)]
  rfl

theorem Inv.new (n : Int) : (Me.new n).Inv := by
  refine ⟨?_, ?_, by simp [Me.new], by simp [Me.new], ?_, by simp [Me.new], by simp [Me.new]⟩ <;> simp [Me.new] <;> omega

theorem Inv.alloc {S : Me} (h : S.Inv) (n : Int) : (S.alloc n).Inv := by
  unfold Me.alloc
  split
  · rename_i h0
    have h1 : 0 ≤ n ∧ n ≤ S.room - S.used := by
      unfold Me.allocE at h0
      split at h0
      · simp at h0
      · split at h0
        · simp at h0
        · omega
    refine ⟨h.room0, h.room1, ?_, ?_, ?_, ?_, ?_⟩
    · have := h.used; simp; omega
    · have := h.live; simp [Bk.one]; omega
    · simp; omega
    · intro b hb
      rcases List.mem_append.1 hb with hb | hb
      · exact h.same b hb
      · simp at hb; subst hb; simp
    · intro b hb hf
      rcases List.mem_append.1 hb with hb | hb
      · exact h.gone b hb hf
      · simp at hb; subst hb; simp at hf
  · exact h

/-- A change of one allocation, that keeps how many words it has, and leaves it as it was, freed or not. -/
theorem Inv.setAt {S : Me} (h : S.Inv) {a : Int} {b : Bk} (h1 : 1 ≤ a) (h2 : a ≤ S.bs.length) (hw : b.ws.length = (S.at a).ws.length) (hs : b.ws.length = b.st.length)
    (hf : b.freed = false) (hf' : (S.at a).freed = false) : (S.setAt a b).Inv := by
  have hi : (a.toNat - 1) < S.bs.length := by omega
  have hg := at_get h1 h2
  refine ⟨h.room0, h.room1, ?_, ?_, h.le, ?_, ?_⟩
  · have := sum_set (fun b => b.ws.length) S.bs (a.toNat - 1) b hi
    have h3 := h.used
    simp only [Me.setAt]
    rw [hg] at this
    omega
  · have := sum_set Bk.one S.bs (a.toNat - 1) b hi
    have h3 := h.live
    simp only [Me.setAt]
    rw [hg] at this
    have e1 : Bk.one (S.at a) = 1 := by simp [Bk.one, hf']
    have e2 : Bk.one b = 1 := by simp [Bk.one, hf]
    omega
  · intro c hc
    rcases List.mem_or_eq_of_mem_set hc with hc | rfl
    · exact h.same c hc
    · exact hs
  · intro c hc hcf
    rcases List.mem_or_eq_of_mem_set hc with hc | rfl
    · exact h.gone c hc hcf
    · rw [hf] at hcf; cases hcf

theorem Inv.free {S : Me} (h : S.Inv) (b : Bool) (a n : Int) : (S.free b a n).Inv := by
  unfold Me.free
  split
  · rename_i h0
    have hb : S.blockE b a = 0 := by
      unfold Me.freeE at h0
      split at h0
      · rename_i h1; exact absurd h0 h1
      · rename_i h1; simpa using h1
    obtain ⟨_, h1, h2, h3⟩ := blockE_zero hb
    have hi : (a.toNat - 1) < S.bs.length := by omega
    have hg := at_get h1 h2
    have hsum := sum_set (fun b => b.ws.length) S.bs (a.toNat - 1) Bk.none hi
    have hl := sum_set Bk.one S.bs (a.toNat - 1) Bk.none hi
    rw [hg] at hsum hl
    have e1 : Bk.one (S.at a) = 1 := by simp [Bk.one, h3]
    have e2 : Bk.one Bk.none = 0 := by simp [Bk.one, Bk.none]
    have e3 : Bk.none.ws.length = 0 := rfl
    have hu := h.used
    have hv := h.live
    have hle := h.le
    refine ⟨h.room0, h.room1, ?_, ?_, ?_, ?_, ?_⟩
    · show S.used - _ = ((((S.bs.set (a.toNat - 1) Bk.none).map fun b => b.ws.length).sum : Nat) : Int); omega
    · show S.live - 1 = ((((S.bs.set (a.toNat - 1) Bk.none).map Bk.one).sum : Nat) : Int); omega
    · show S.used - _ ≤ S.room; omega
    · intro c hc
      rcases List.mem_or_eq_of_mem_set hc with hc | rfl
      · exact h.same c hc
      · simp [Bk.none]
    · intro c hc hcf
      rcases List.mem_or_eq_of_mem_set hc with hc | rfl
      · exact h.gone c hc hcf
      · simp [Bk.none]
  · exact h

theorem Inv.at_same {S : Me} (h : S.Inv) (a : Int) (h1 : 1 ≤ a) (h2 : a ≤ S.bs.length) : (S.at a).ws.length = (S.at a).st.length := h.same _ (at_mem h1 h2)

theorem Inv.store {S : Me} (h : S.Inv) (b : Bool) (a n : Int) (w : Wd) : (S.store b a n w).Inv := by
  unfold Me.store
  split
  · rename_i h0
    obtain ⟨hb, _, _, _⟩ := pieceE_zero h0
    obtain ⟨_, h1, h2, h3⟩ := blockE_zero hb
    exact Inv.setAt h h1 h2 (by simp) (by simpa using Inv.at_same h a h1 h2) rfl h3
  · exact h

theorem splice_length {α : Type} (l : List α) (i : Nat) (m : List α) (h : i + m.length ≤ l.length) : (splice l i m).length = l.length := by
  simp [splice]; omega

theorem Inv.copy {S : Me} (h : S.Inv) (tb : Bool) (ta tn : Int) (fb : Bool) (fa fn n : Int) : (S.copy tb ta tn fb fa fn n).Inv := by
  unfold Me.copy
  split
  · rename_i h0
    unfold Me.copyE at h0
    split at h0
    · simp at h0
    · split at h0
      · rename_i h1; exact absurd h0 h1
      · obtain ⟨hb, g1, g2, g3⟩ := pieceE_zero h0
        obtain ⟨_, h1, h2, h3⟩ := blockE_zero hb
        have hs := Inv.at_same h ta h1 h2
        have e1 : (splice (S.at ta).ws tn.toNat (S.loads fb fa fn n.toNat)).length = (S.at ta).ws.length := splice_length _ _ _ (by simp [Me.loads]; omega)
        have e2 : (splice (S.at ta).st tn.toNat (List.replicate n.toNat true)).length = (S.at ta).st.length := splice_length _ _ _ (by simp; omega)
        exact Inv.setAt h h1 h2 e1 (by simp only [e1, e2]; exact hs) rfl h3
  · exact h

theorem Inv.clear {S : Me} (h : S.Inv) (b : Bool) (a n k : Int) : (S.clear b a n k).Inv := by
  unfold Me.clear
  split
  · rename_i h0
    unfold Me.clearE at h0
    split at h0
    · simp at h0
    · obtain ⟨hb, g1, g2, g3⟩ := pieceE_zero h0
      obtain ⟨_, h1, h2, h3⟩ := blockE_zero hb
      have hs := Inv.at_same h a h1 h2
      have e2 : (splice (S.at a).st n.toNat (List.replicate k.toNat false)).length = (S.at a).st.length := splice_length _ _ _ (by simp; omega)
      exact Inv.setAt h h1 h2 rfl (by simp only [e2]; exact hs) rfl h3
  · exact h

end Go.Proofs.Ytkgiddpeaebdfaa
