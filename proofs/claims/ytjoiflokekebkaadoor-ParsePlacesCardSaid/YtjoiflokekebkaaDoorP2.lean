/- What the tokens of a text are to the reader. -/
import Derived.Test.YtjoiflokekebkaaDoorP1
import Derived.Test.YtjoiflokekebkaaDoorPr
set_option linter.all false
namespace Go.Proofs.YtjoiflokekebkaaDoor

theorem piece_val {l : List UInt8} {k : Int} {n : Nat} {v : Int} (h : piece l = .tok k n v) : 0 ≤ v ∧ v ≤ 9223372036854775807 := by
  unfold piece at h
  split at h
  · cases h
  · unfold nextP at h
    split at h
    · cases h
    · split at h
      · split at h
        · cases h
        · injection h with _ _ h; omega
      · split at h
        · split at h
          · cases h
          · injection h with _ _ h; omega
        · split at h
          · cases h
          · injection h with _ _ h; omega
theorem from_toks (s : ByteArray) : ∀ (k a : Nat), s.size - a ≤ k → a ≤ s.size → ∀ l, lexFrom s a = .ok l →
    (∀ (i : Nat) (t : Tk), l[i]? = some t → t.k ≠ 0 → i + 1 < l.length) ∧ (∀ t ∈ l, (0 ≤ t.n ∧ t.n ≤ 9223372036854775807) ∧ t.s.size ≤ s.size) ∧ l.length ≤ s.size - a + 1 := by
  intro k
  induction k with
  | zero =>
    intro a hk ha l hl
    rw [lex_end (by omega)] at hl
    injection hl with hl
    subst hl
    refine ⟨fun i t h hk => ?_, fun t ht => ?_, by simp⟩
    · cases i with
      | zero => simp at h; subst h; exact absurd rfl hk
      | succ i => simp at h
    · simp at ht; subst ht; exact ⟨by simp, Nat.zero_le _⟩
  | succ k ih =>
    intro a hk ha l hl
    obtain ⟨p, x, r, rfl, h2, h3, h4⟩ := from_head s _ a (Nat.le_refl _) ha l hl
    have hle := h2.le
    rcases h4 with ⟨rfl, rfl, rfl⟩ | ⟨kd, n, v, h4, h5, h6, h7, rfl, h9⟩
    · refine ⟨fun i t h hk => ?_, fun t ht => ?_, by simp⟩
      · cases i with
        | zero => simp at h; subst h; exact absurd rfl hk
        | succ i => simp at h
      · simp at ht; subst ht; exact ⟨by simp, Nat.zero_le _⟩
    · obtain ⟨i1, i2, i3⟩ := ih (p + n) (by omega) h6 r h9
      have hne : r ≠ [] := from_ne h9
      have hr : 0 < r.length := List.length_pos_iff.2 hne
      refine ⟨fun i t h hk => ?_, fun t ht => ?_, by simp; omega⟩
      · cases i with
        | zero => simp; omega
        | succ i => simp at h; have := i1 i t h hk; simp; omega
      · rcases List.mem_cons.1 ht with rfl | ht
        · have hv := piece_val h5
          exact ⟨hv, by simp; omega⟩
        · exact i2 t ht
theorem lexB_toks {s : ByteArray} {l : List Tk} (h : lexB s = .ok l) : Toks l ∧ s.size ≤ 65536 := by
  by_cases h6 : 65536 < s.size
  · rw [lexB, if_pos h6] at h; cases h
  · rw [lexB, if_neg h6] at h
    obtain ⟨h1, h2, h3⟩ := from_toks s _ 0 (Nat.le_refl _) (Nat.zero_le _) l h
    exact ⟨⟨from_ne h, h1, fun t ht => by have := (h2 t ht).1; omega, by omega, fun t ht => by have := (h2 t ht).2; omega⟩, by omega⟩
end Go.Proofs.YtjoiflokekebkaaDoor
