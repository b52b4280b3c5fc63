/- A text that is cut off ahead of its last token (plain). -/
import Derived.Test.YtjoiflokekebkaaDoorP2
import Derived.Test.YtjoiflokekebkaaDoorPe
import Derived.Test.YtjoiflokekebkaaDoorPl
set_option linter.all false
namespace Go.Proofs.YtjoiflokekebkaaDoor

theorem piece_one {l : List UInt8} {n : Nat} {v : Int} (h : piece l = .tok 1 n v) : ∃ c r, l = c :: r ∧ isL c = true := by
  unfold piece at h
  split at h
  · cases h
  · unfold nextP at h
    split at h
    · cases h
    · rename_i c r _
      split at h
      · rename_i hc
        exact ⟨c, r, rfl, hc⟩
      · split at h
        · split at h
          · cases h
          · injection h with h; omega
        · split at h
          · cases h
          · injection h with h; omega
theorem from_kind (s : ByteArray) : ∀ (k a : Nat), s.size - a ≤ k → a ≤ s.size → ∀ l, lexFrom s a = .ok l →
    ∀ (i : Nat) (t : Tk), l[i]? = some t → i + 1 < l.length → (t.k = 1 ∨ t.k = 2 ∨ t.k = 3) ∧ (t.k = 1 → t.s ≠ brace) := by
  intro k
  induction k with
  | zero =>
    intro a hk ha l hl i t h hi
    rw [lex_end (by omega)] at hl
    injection hl with hl
    subst hl
    simp at hi
  | succ k ih =>
    intro a hk ha l hl i t h hi
    obtain ⟨p, x, r, rfl, h2, h3, h4⟩ := from_head s _ a (Nat.le_refl _) ha l hl
    have hle := h2.le
    rcases h4 with ⟨rfl, rfl, rfl⟩ | ⟨kd, n, v, h4, h5, h6, h7, rfl, h9⟩
    · simp at hi
    · cases i with
      | zero =>
        simp at h
        subst h
        refine ⟨piece_kind h5, fun hk1 hb => ?_⟩
        simp only at hk1 hb
        subst hk1
        obtain ⟨c, r', hcr, hc⟩ := piece_one h5
        have h8 := congrArg (fun b => b.data.toList) hb
        simp only [ByteArray.data_extract, Array.toList_extract, brace] at h8
        have h10 : p < s.data.toList.length := by rw [bsize]; omega
        simp only [List.extract_eq_take_drop, List.drop_take, hcr] at h8
        rw [show p + n - p = (n - 1) + 1 by omega, List.take_succ_cons] at h8
        injection h8 with h8 _
        rw [h8] at hc
        exact absurd hc (by decide)
      | succ i =>
        simp at h hi
        exact ih (p + n) (by omega) h6 r h9 i t h (by omega)
/-- A text that is read whole, cut off ahead of its last token, is not. -/
theorem cuts {s : ByteArray} {l : List Tk} {x : Src} {us : List Tk} (h : lexB s = .ok l) (hx : itemsP (l.length + 1) .zero l = .ok (x, us)) (h2 : 2 ≤ l.length) :
    ∃ (t : Tk) (p : Nat), l[l.length - 2]? = some t ∧ t.s = brace ∧ t.at_ = p ∧ p ≤ s.size ∧ parseB (s.extract 0 p) = .error (60, p) := by
  obtain ⟨hT, hsz⟩ := lexB_toks h
  have hl : lexFrom s 0 = .ok l := by rw [lexB, if_neg (by omega)] at h; exact h
  have hK := from_kind s _ 0 (Nat.le_refl _) (Nat.zero_le _) l hl
  obtain ⟨hk, he⟩ := items_end _ _ _ _ _ hx
  have hlast : ∀ (z : Tk) (i : Nat), l[i]? = some z → z.k = 0 → i + 1 = l.length := fun z i hz h0 => by
    have hi : i < l.length := (List.getElem?_eq_some_iff.1 hz).1
    by_cases hlt : i + 1 < l.length
    · have := (hK i z hz hlt).1; omega
    · omega
  rcases he with rfl | ⟨pre, b, rfl, hb⟩
  · cases l with
    | nil => simp at h2
    | cons z r => have h3 := hlast z 0 rfl (by simpa [hd] using hk); omega
  · cases us with
    | nil =>
      have := hT.fin pre.length b (by simp) (by have := hb.1; omega)
      simp at this
    | cons z r =>
      have h3 := hlast z (pre.length + 1) (by simp) (by simpa [hd] using hk)
      rw [List.length_append, List.length_cons, List.length_cons] at h3
      have hr : r = [] := List.length_eq_zero_iff.1 (by omega)
      subst hr
      have hlen : (pre ++ [b, z]).length = pre.length + 2 := by simp
      have hget : (pre ++ [b, z])[pre.length]? = some b := by simp
      have hbk : b.k = 3 := by
        have := hK pre.length b hget (by omega)
        rcases hb.1 with h1 | h1
        · exact absurd hb.2 (this.2 h1)
        · exact h1
      obtain ⟨p, hp, hps⟩ := from_at s _ 0 (Nat.le_refl _) (Nat.zero_le _) _ hl b (by simp)
      have hcut := from_cut s p hps _ 0 (Nat.le_refl _) (Nat.zero_le _) _ pre.length b hl hget hp
      refine ⟨b, p, by rw [hlen]; exact hget, hb.2, hp, hps, ?_⟩
      have hcs : (s.extract 0 p).size = p := by simp; omega
      have hlc : lexB (s.extract 0 p) = .ok (pre ++ [⟨0, ⟨#[]⟩, 0, p⟩]) := by
        rw [lexB, if_neg (by omega), hcut]
        simp
      have hpk : ∀ a ∈ pre, a.k ≠ 0 := fun a ha h0 => by
        obtain ⟨i, hi, hia⟩ := List.getElem_of_mem ha
        have := hlast a i (by rw [List.getElem?_append_left hi]; rw [List.getElem?_eq_getElem hi, hia]) h0
        omega
      have h4 := items_cut _ _ _ _ _ ⟨0, ⟨#[]⟩, 0, p⟩ _ _ ⟨hbk, hb.2⟩ (by simpa [hd] using hk) rfl hpk hx
      have h5 := items_fuel ((pre ++ [b, z]).length + 1) ((pre ++ [(⟨0, ⟨#[]⟩, 0, p⟩ : Tk)]).length + 1) .zero (pre ++ [⟨0, ⟨#[]⟩, 0, p⟩]) (by first | (simp; done) | (simp; omega)) (by simp)
      rw [parseB, hlc]
      simp only
      rw [← h5, h4]
end Go.Proofs.YtjoiflokekebkaaDoor
