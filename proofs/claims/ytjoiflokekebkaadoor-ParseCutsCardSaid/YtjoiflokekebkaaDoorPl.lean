/- Plain: the tokens of a text that is cut off ahead of a token. -/
import Derived.Test.YtjoiflokekebkaaDoorP1
set_option linter.all false
namespace Go.Proofs.YtjoiflokekebkaaDoor

theorem prefix_take {l : List UInt8} {a b : UInt8} {m : Nat} (h : Lib.hasPrefix (l.take m) [a, b] = true) : Lib.hasPrefix l [a, b] = true := by
  obtain ⟨r, hr⟩ := List.isPrefixOf_iff_prefix.1 h
  refine List.isPrefixOf_iff_prefix.2 ⟨r ++ l.drop m, ?_⟩
  rw [← List.append_assoc, hr, List.take_append_drop]
theorem prefix_take2 {l : List UInt8} {a b : UInt8} {m : Nat} (hm : 2 ≤ m) : Lib.hasPrefix (l.take m) [a, b] = Lib.hasPrefix l [a, b] := by
  obtain ⟨m, rfl⟩ : ∃ k, m = k + 2 := ⟨m - 2, by omega⟩
  match l with
  | [] => simp [Lib.hasPrefix]
  | [c] => simp [Lib.hasPrefix, List.isPrefixOf]
  | c :: d :: r => simp [Lib.hasPrefix, List.isPrefixOf]
theorem head_take {l : List UInt8} {m : Nat} (hm : 0 < m) : (l.take m).head? = l.head? := by
  obtain ⟨m, rfl⟩ : ∃ k, m = k + 1 := ⟨m - 1, by omega⟩
  cases l <;> rfl
theorem passed_pos {l : List UInt8} {m : Nat} (h : 0 < passedN (l.take m)) : 0 < passedN l := by
  have hm : 0 < m := by
    cases m with
    | zero => simp [passedN, Lib.hasPrefix] at h
    | succ m => omega
  unfold passedN at h ⊢
  split at h
  · rename_i hp
    rw [if_pos (prefix_take hp)]
    obtain ⟨r, rfl⟩ := List.isPrefixOf_iff_prefix.1 (prefix_take hp)
    exact run_pos (by decide)
  · split at h
    · rename_i hb
      rw [head_take hm] at hb
      split
      · rename_i hq
        obtain ⟨r, rfl⟩ := List.isPrefixOf_iff_prefix.1 hq
        exact run_pos (by decide)
      · first | (rw [if_pos hb]; omega) | omega
    · omega
theorem sign_take {l : List UInt8} {m : Nat} (h : signLen l ≤ m) (h0 : 0 < m) : signLen (l.take m) = signLen l := by
  unfold signLen at h ⊢
  rw [head_take h0]
  by_cases h2 : (twoSigns.any fun p => Lib.hasPrefix l p) = true
  · rw [if_pos h2] at h ⊢
    rw [if_pos]
    rw [List.any_eq_true] at h2 ⊢
    obtain ⟨p, hp, hq⟩ := h2
    refine ⟨p, hp, ?_⟩
    simp [twoSigns] at hp
    rcases hp with rfl | rfl | rfl | rfl <;> rw [prefix_take2 h] <;> exact hq
  · rw [if_neg h2]
    rw [if_neg]
    intro h3
    apply h2
    rw [List.any_eq_true] at h3 ⊢
    obtain ⟨p, hp, hq⟩ := h3
    refine ⟨p, hp, ?_⟩
    simp [twoSigns] at hp
    rcases hp with rfl | rfl | rfl | rfl <;> exact prefix_take hq
theorem piece_tok_take {l : List UInt8} {k : Int} {n m : Nat} {v : Int} (h : piece l = .tok k n v) (hm : n ≤ m) : piece (l.take m) = .tok k n v := by
  have hn := piece_tok h
  have hz : ¬ 0 < passedN l := by
    intro hp
    rw [piece, if_pos hp] at h
    cases h
  rw [piece, if_neg hz] at h
  rw [piece, if_neg (fun q => hz (passed_pos q))]
  have h1 := (next_le h).1
  obtain ⟨m, rfl⟩ : ∃ j, m = j + 1 := ⟨m - 1, by omega⟩
  cases l with
  | nil => simp [nextP] at h
  | cons c r =>
    have e : (c :: r).take (m + 1) = c :: r.take m := rfl
    rw [e]
    unfold nextP at h ⊢
    simp only at h ⊢
    rw [← e]
    split at h
    · rename_i hl
      rw [if_pos hl]
      split at h
      · cases h
      · rename_i h24
        injection h with h2 h3 h4
        rw [run_take (by omega), if_neg h24, h2, h3, h4]
    · rename_i hl
      rw [if_neg hl]
      split at h
      · rename_i hd
        rw [if_pos hd]
        split at h
        · cases h
        · rename_i hv
          injection h with h2 h3 h4
          rw [run_take (by omega)]
          have ht : ((c :: r).take (m + 1)).take (run isD (c :: r)) = (c :: r).take (run isD (c :: r)) := by rw [List.take_take]; congr 1; omega
          rw [ht, if_neg hv, h2, ← h4, h3]
      · rename_i hd
        rw [if_neg hd]
        split at h
        · cases h
        · rename_i hs
          injection h with h2 h3 h4
          rw [sign_take (by omega) (by omega), if_neg hs, h2, h3, h4]
theorem from_ge (s : ByteArray) : ∀ (k a : Nat), s.size - a ≤ k → a ≤ s.size → ∀ l, lexFrom s a = .ok l → ∀ t ∈ l, ∃ p : Nat, t.at_ = p ∧ a ≤ p ∧ p ≤ s.size := by
  intro k
  induction k with
  | zero =>
    intro a hk ha l hl t ht
    rw [lex_end (by omega)] at hl
    injection hl with hl
    rw [← hl] at ht
    simp at ht
    subst ht
    exact ⟨s.size, rfl, by omega, Nat.le_refl _⟩
  | succ k ih =>
    intro a hk ha l hl t ht
    obtain ⟨p, x, r, rfl, h2, h3, h4⟩ := from_head s _ a (Nat.le_refl _) ha l hl
    have hle := h2.le
    rcases h4 with ⟨rfl, rfl, rfl⟩ | ⟨kd, n, v, h4, h5, h6, h7, rfl, h9⟩
    · simp at ht
      subst ht
      exact ⟨s.size, rfl, hle, Nat.le_refl _⟩
    · rcases List.mem_cons.1 ht with rfl | ht
      · exact ⟨p, rfl, hle, h3⟩
      · obtain ⟨q, h10, h11, h12⟩ := ih (p + n) (by omega) h6 r h9 t ht
        exact ⟨q, h10, by omega, h12⟩
theorem drop_cut (s : ByteArray) (p a : Nat) : (s.extract 0 p).data.toList.drop a = (s.data.toList.drop a).take (p - a) := by
  simp [List.drop_take]
/-- The tokens of a text that is cut off where one of its tokens begins. -/
theorem from_cut (s : ByteArray) (p : Nat) (hp : p ≤ s.size) : ∀ (k a : Nat), s.size - a ≤ k → a ≤ s.size → ∀ (l : List Tk) (j : Nat) (t : Tk), lexFrom s a = .ok l → l[j]? = some t → t.at_ = (p : Int) →
    lexFrom (s.extract 0 p) a = .ok (l.take j ++ [⟨0, ⟨#[]⟩, 0, p⟩]) := by
  have hcs : (s.extract 0 p).size = p := by simp; omega
  intro k
  induction k with
  | zero =>
    intro a hk ha l j t hl hj ht
    rw [lex_end (by omega)] at hl
    injection hl with hl
    subst hl
    cases j with
    | zero =>
      simp at hj
      subst hj
      simp at ht
      rw [lex_end (by omega), hcs]
      rfl
    | succ j => simp at hj
  | succ k ih =>
    intro a hk ha l j t hl hj ht
    obtain ⟨q, hq1, hq2, _⟩ := from_ge s _ a (Nat.le_refl _) ha l hl t (List.mem_of_getElem? hj)
    have hqp : q = p := by omega
    subst hqp
    by_cases has : a < s.size
    · cases hpc : piece (s.data.toList.drop a) with
      | bad e => rw [lex_bad has hpc] at hl; cases hl
      | skip n =>
        have hn := piece_skip hpc
        have hl' := hl
        rw [lex_skip has hpc] at hl'
        have hle : a + n ≤ s.size := piece_len hn.2 ha
        obtain ⟨q', h1, h2, _⟩ := from_ge s _ (a + n) (Nat.le_refl _) hle l hl' t (List.mem_of_getElem? hj)
        have hac : a < (s.extract 0 q).size := by have := (piece_passed hpc).2; omega
        rw [lex_skip hac (by rw [drop_cut]; exact piece_take hpc (by omega))]
        exact ih (a + n) (by have := (piece_passed hpc).2; omega) hle l j t hl' hj ht
      | tok kd n v =>
        have hn := piece_tok hpc
        have hl' := hl
        rw [lex_tok has hpc] at hl'
        cases hr : lexFrom s (a + n) with
        | error e => rw [hr] at hl'; cases hl'
        | ok r =>
          rw [hr] at hl'
          simp only [Except.map] at hl'
          injection hl' with hl'
          subst hl'
          have hle : a + n ≤ s.size := piece_len hn.2 ha
          cases j with
          | zero =>
            simp at hj
            subst hj
            obtain rfl : a = q := by simp at hq1; omega
            rw [lex_end (by omega), hcs]
            rfl
          | succ j =>
            simp at hj
            obtain ⟨q', h1, h2, _⟩ := from_ge s _ (a + n) (Nat.le_refl _) hle r hr t (List.mem_of_getElem? hj)
            have hac : a < (s.extract 0 q).size := by omega
            rw [lex_tok hac (by rw [drop_cut]; exact piece_tok_take hpc (by omega)), ih (a + n) (by omega) hle r j t hr hj ht]
            simp only [Except.map, List.take_succ_cons, List.cons_append]
            rw [show (s.extract 0 q).extract a (a + n) = s.extract a (a + n) from by
              apply bytes_eq
              simp [List.drop_take, List.take_take]
              omega]
    · rw [lex_end has] at hl
      injection hl with hl
      subst hl
      cases j with
      | zero =>
        simp at hj
        subst hj
        simp at ht
        rw [lex_end (by omega), hcs]
        rfl
      | succ j => simp at hj
end Go.Proofs.YtjoiflokekebkaaDoor
