/- The tokens of a text: what the laws say of them, in plain Lean. -/
import Derived.Test.YtjoiflokekebkaaDoorL4
set_option linter.all false
namespace Go.Proofs.YtjoiflokekebkaaDoor

theorem bsize (s : ByteArray) : s.data.toList.length = s.size := Array.length_toList

/-- From here to there nothing but what is passed. -/
inductive Skips (s : ByteArray) : Nat → Nat → Prop
  | here {a : Nat} : Skips s a a
  | step {a n p : Nat} : a < s.size → piece (s.data.toList.drop a) = .skip n → Skips s (a + n) p → Skips s a p
theorem Skips.le {s : ByteArray} {a p : Nat} (h : Skips s a p) : a ≤ p := by
  induction h with
  | here => exact Nat.le_refl _
  | step _ _ _ ih => omega

theorem piece_len {s : ByteArray} {a n : Nat} (h : n ≤ (s.data.toList.drop a).length) (ha : a ≤ s.size) : a + n ≤ s.size := by
  rw [List.length_drop, bsize] at h
  omega

theorem from_head (s : ByteArray) : ∀ (k a : Nat), s.size - a ≤ k → a ≤ s.size → ∀ l, lexFrom s a = .ok l → ∃ p t r, l = t :: r ∧ Skips s a p ∧ p ≤ s.size ∧
    ((p = s.size ∧ t = ⟨0, ⟨#[]⟩, 0, s.size⟩ ∧ r = []) ∨ (∃ k n v, p < s.size ∧ piece (s.data.toList.drop p) = .tok k n v ∧ p + n ≤ s.size ∧ 0 < n ∧ t = ⟨k, s.extract p (p + n), v, p⟩ ∧ lexFrom s (p + n) = .ok r)) := by
  intro k
  induction k with
  | zero =>
    intro a hk ha l hl
    rw [lex_end (by omega)] at hl
    injection hl with hl
    exact ⟨s.size, _, _, hl.symm, by rw [show s.size = a by omega]; exact .here, Nat.le_refl _, .inl ⟨rfl, rfl, rfl⟩⟩
  | succ k ih =>
    intro a hk ha l hl
    by_cases hlt : a < s.size
    · cases hp : piece (s.data.toList.drop a) with
      | skip n =>
        have hn := piece_skip hp
        have hn2 := piece_len hn.2 ha
        rw [lex_skip hlt hp] at hl
        obtain ⟨p, t, r, h1, h2, h3⟩ := ih (a + n) (by omega) hn2 l hl
        exact ⟨p, t, r, h1, .step hlt hp h2, h3⟩
      | tok kd n v =>
        have hn := piece_tok hp
        have hn2 := piece_len hn.2 ha
        rw [lex_tok hlt hp] at hl
        cases hr : lexFrom s (a + n) with
        | error e => rw [hr] at hl; cases hl
        | ok r =>
          rw [hr] at hl
          injection hl with hl
          exact ⟨a, _, r, hl.symm, .here, ha, .inr ⟨kd, n, v, hlt, hp, hn2, hn.1, rfl, hr⟩⟩
      | bad e => rw [lex_bad hlt hp] at hl; cases hl
    · rw [lex_end hlt] at hl
      injection hl with hl
      exact ⟨s.size, _, _, hl.symm, by rw [show s.size = a by omega]; exact .here, Nat.le_refl _, .inl ⟨rfl, rfl, rfl⟩⟩
theorem from_ne {s : ByteArray} {a : Nat} {l : List Tk} (h : lexFrom s a = .ok l) : l ≠ [] := by
  by_cases ha : a ≤ s.size
  · obtain ⟨p, t, r, rfl, _⟩ := from_head s _ a (Nat.le_refl _) ha l h
    simp
  · rw [lex_end (by omega)] at h
    injection h with h
    rw [← h]; simp

/-! Cut off, and glued. -/
theorem run_take {p : UInt8 → Bool} {l : List UInt8} {m : Nat} (h : run p l ≤ m) : run p (l.take m) = run p l := by
  induction l generalizing m with
  | nil => simp
  | cons c l ih =>
    cases hc : p c
    · rw [run_zero hc]
      cases m with
      | zero => rfl
      | succ m => rw [List.take_succ_cons, run_zero hc]
    · have e : ∀ l, run p (c :: l) = run p l + 1 := fun l => by simp [run, List.takeWhile, hc]
      rw [e] at h ⊢
      obtain ⟨m, rfl⟩ : ∃ k, m = k + 1 := ⟨m - 1, by omega⟩
      rw [List.take_succ_cons, e, ih (by omega)]
theorem run_nl {p : UInt8 → Bool} (hp : p 10 = false) (l r : List UInt8) : run p (l ++ 10 :: r) = run p l := by
  induction l with
  | nil => rw [List.nil_append, run_zero hp]; rfl
  | cons c l ih =>
    cases hc : p c
    · rw [List.cons_append, run_zero hc, run_zero hc]
    · have e : ∀ l, run p (c :: l) = run p l + 1 := fun l => by simp [run, List.takeWhile, hc]
      rw [List.cons_append, e, e, ih]
theorem passed_take {l : List UInt8} {n m : Nat} (h : passedN l = n) (h0 : 0 < n) (hm : n ≤ m) : passedN (l.take m) = n := by
  unfold passedN at h
  split at h
  · rename_i hp
    have hpp := List.isPrefixOf_iff_prefix.1 hp
    obtain ⟨r, rfl⟩ := hpp
    have e : ∀ l, run notNl (47 :: l) = run notNl l + 1 := fun l => by simp [run, List.takeWhile, notNl]
    have h2 : run notNl (47 :: 47 :: r) = n := h
    have h3 := h2
    rw [e, e] at h3
    obtain ⟨m, rfl⟩ : ∃ k, m = k + 2 := ⟨m - 2, by omega⟩
    have ht : ([47, 47] ++ r).take (m + 2) = 47 :: 47 :: r.take m := rfl
    unfold passedN
    rw [ht, if_pos (by simp [Lib.hasPrefix]), ← ht, run_take (by rw [h]; exact hm)]
    exact h
  · split at h
    · rename_i hp hb
      cases l with
      | nil => simp at hb
      | cons c l =>
        obtain ⟨m, rfl⟩ : ∃ k, m = k + 1 := ⟨m - 1, by omega⟩
        rw [List.take_succ_cons, passedN, if_neg, if_pos (by simpa using hb)]
        · exact h
        · intro q
          simp [Lib.hasPrefix] at q hb
          rcases q with ⟨rfl, _⟩
          simp at hb
    · omega
theorem piece_passed {l : List UInt8} {n : Nat} (h : piece l = .skip n) : passedN l = n ∧ 0 < n := by
  unfold piece at h
  split at h
  · injection h with h
    omega
  · exact absurd h (next_noskip _ _)
theorem piece_take {l : List UInt8} {n m : Nat} (h : piece l = .skip n) (hm : n ≤ m) : piece (l.take m) = .skip n := by
  obtain ⟨h1, h2⟩ := piece_passed h
  have := passed_take h1 h2 hm
  rw [piece, this, if_pos h2]

theorem prefix_nl {l r : List UInt8} {a b : UInt8} (h : l ≠ []) (hb : b ≠ 10) : Lib.hasPrefix (l ++ 10 :: r) [a, b] = Lib.hasPrefix l [a, b] := by
  match l, h with
  | [c], _ => simp [Lib.hasPrefix, List.isPrefixOf, hb]
  | c :: d :: t, _ => simp [Lib.hasPrefix, List.isPrefixOf]
theorem piece_nl {l : List UInt8} (h : l ≠ []) (r : List UInt8) : piece (l ++ 10 :: r) = piece l := by
  have hh : (l ++ 10 :: r).head? = l.head? := by cases l with | nil => exact absurd rfl h | cons c l => rfl
  have h1 : passedN (l ++ 10 :: r) = passedN l := by
    unfold passedN
    rw [prefix_nl h (by decide), hh, run_nl (by decide)]
  have h2 : signLen (l ++ 10 :: r) = signLen l := by
    unfold signLen
    rw [hh]
    have : (twoSigns.any fun p => Lib.hasPrefix (l ++ 10 :: r) p) = (twoSigns.any fun p => Lib.hasPrefix l p) := by
      simp only [twoSigns, List.any_cons, List.any_nil]
      rw [prefix_nl h (by decide), prefix_nl h (by decide), prefix_nl h (by decide), prefix_nl h (by decide)]
    rw [this]
  have h3 : nextP (l ++ 10 :: r) = nextP l := by
    match l, h with
    | c :: t, _ =>
      have e1 : run isI (c :: (t ++ 10 :: r)) = run isI (c :: t) := run_nl (by decide) (c :: t) r
      have e2 : run isD (c :: (t ++ 10 :: r)) = run isD (c :: t) := run_nl (by decide) (c :: t) r
      have e3 : (c :: (t ++ 10 :: r)).take (run isD (c :: t)) = (c :: t).take (run isD (c :: t)) := List.take_append_of_le_length (l₁ := c :: t) (run_le _ _)
      have e4 : signLen (c :: (t ++ 10 :: r)) = signLen (c :: t) := h2
      simp only [nextP, List.cons_append, e1, e2, e3, e4]
  unfold piece
  rw [h1, h3]

def shiftT (k : Nat) (t : Tk) : Tk := { t with at_ := t.at_ + k }
theorem ext_right (c b : ByteArray) (i j : Nat) : (c ++ b).extract (c.size + i) (c.size + j) = b.extract i j := by
  apply bytes_eq
  simp
theorem ext_left (c b : ByteArray) (i j : Nat) (hj : j ≤ c.size) : (c ++ b).extract i j = c.extract i j := by
  have e : (c ++ b).data.toList = c.data.toList ++ b.data.toList := ByteArray.toList_data_append
  have hz := bsize c
  have hz2 : c.data.size = c.size := rfl
  apply bytes_eq
  simp
  omega
def shiftE (k : Nat) : Except (Int × Nat) (List Tk) → Except (Int × Nat) (List Tk)
  | .ok l => .ok (l.map (shiftT k))
  | .error (e, i) => .error (e, k + i)
theorem lex_shift (c b : ByteArray) : ∀ m y, b.size - y ≤ m → y ≤ b.size → lexFrom (c ++ b) (c.size + y) = shiftE c.size (lexFrom b y) := by
  intro m
  have hsz : (c ++ b).size = c.size + b.size := ByteArray.size_append
  have hdr : ∀ y, (c ++ b).data.toList.drop (c.size + y) = b.data.toList.drop y := fun y => by
    have hz := bsize c
    rw [ByteArray.toList_data_append, ← hz, List.drop_append, List.drop_of_length_le (by omega)]
    simp
  have hend : lexFrom (c ++ b) (c.size + b.size) = shiftE c.size (lexFrom b b.size) := by
    rw [lex_end (by omega), lex_end (by omega), hsz]
    simp [shiftE, shiftT]
    omega
  induction m with
  | zero =>
    intro y hy hle
    obtain rfl : y = b.size := by omega
    exact hend
  | succ m ih =>
    intro y hy hle
    by_cases hlt : y < b.size
    · have hlt2 : c.size + y < (c ++ b).size := by omega
      cases hp : piece (b.data.toList.drop y) with
      | skip n =>
        have hn := piece_skip hp
        have hn2 := piece_len hn.2 hle
        rw [lex_skip hlt hp, lex_skip hlt2 (by rw [hdr]; exact hp), Nat.add_assoc, ih (y + n) (by omega) hn2]
      | tok kd n v =>
        have hn := piece_tok hp
        have hn2 := piece_len hn.2 hle
        rw [lex_tok hlt hp, lex_tok hlt2 (by rw [hdr]; exact hp), Nat.add_assoc, ih (y + n) (by omega) hn2, ext_right]
        cases lexFrom b (y + n) with
        | ok l => simp [Except.map, shiftE, shiftT]; omega
        | error e => rfl
      | bad e => rw [lex_bad hlt hp, lex_bad hlt2 (by rw [hdr]; exact hp)]; rfl
    · obtain rfl : y = b.size := by omega
      exact hend

def nlB : ByteArray := ⟨#[10]⟩
def glueE (k : Nat) : Except (Int × Nat) (List Tk) → Except (Int × Nat) (List Tk) → Except (Int × Nat) (List Tk)
  | .error e, _ => .error e
  | .ok _, .error (e, i) => .error (e, k + i)
  | .ok l, .ok y => .ok (l.dropLast ++ y.map (shiftT k))
theorem lex_glue (a b : ByteArray) : ∀ m x, a.size - x ≤ m → x ≤ a.size → lexFrom (a ++ nlB ++ b) x = glueE (a.size + 1) (lexFrom a x) (lexFrom b 0) := by
  intro m
  have hnl : nlB.size = 1 := rfl
  have hsz1 : (a ++ nlB).size = a.size + 1 := by rw [ByteArray.size_append, hnl]
  have hsz : (a ++ nlB ++ b).size = a.size + 1 + b.size := by rw [ByteArray.size_append, hsz1]
  have hdr : ∀ x, x ≤ a.size → (a ++ nlB ++ b).data.toList.drop x = a.data.toList.drop x ++ 10 :: b.data.toList := fun x hx => by
    have hz := bsize a
    rw [ByteArray.toList_data_append, ByteArray.toList_data_append, List.append_assoc, List.drop_append_of_le_length (by omega)]
    rfl
  have hend : lexFrom (a ++ nlB ++ b) a.size = glueE (a.size + 1) (lexFrom a a.size) (lexFrom b 0) := by
    have hp : piece ((a ++ nlB ++ b).data.toList.drop a.size) = .skip 1 := by
      rw [hdr _ (Nat.le_refl _), List.drop_of_length_le (by rw [bsize]; omega), List.nil_append]
      have hp : passedN (10 :: b.data.toList) = 1 := by simp [passedN, Lib.hasPrefix]
      rw [piece, hp, if_pos (by omega)]
    have h0 := lex_shift (a ++ nlB) b _ 0 (Nat.le_refl _) (Nat.zero_le _)
    rw [hsz1, Nat.add_zero] at h0
    rw [lex_skip (by omega) hp, h0, lex_end (s := a) (by omega)]
    cases lexFrom b 0 with
    | ok l => rfl
    | error e => rfl
  induction m with
  | zero =>
    intro x hx hle
    obtain rfl : x = a.size := by omega
    exact hend
  | succ m ih =>
    intro x hx hle
    by_cases hlt : x < a.size
    · have hlt2 : x < (a ++ nlB ++ b).size := by omega
      have hne : a.data.toList.drop x ≠ [] := fun q => by
        have := congrArg List.length q
        rw [List.length_drop, bsize] at this
        simp at this
        omega
      have hpp := piece_nl hne b.data.toList
      rw [← hdr x hle] at hpp
      cases hp : piece (a.data.toList.drop x) with
      | skip n =>
        have hn := piece_skip hp
        have hn2 := piece_len hn.2 hle
        rw [lex_skip hlt hp, lex_skip hlt2 (hpp.trans hp), ih (x + n) (by omega) hn2]
      | tok kd n v =>
        have hn := piece_tok hp
        have hn2 := piece_len hn.2 hle
        rw [lex_tok hlt hp, lex_tok hlt2 (hpp.trans hp), ih (x + n) (by omega) hn2, ext_left _ _ _ _ (by omega), ext_left _ _ _ _ hn2]
        cases hr : lexFrom a (x + n) with
        | ok l =>
          have hl := from_ne hr
          cases lexFrom b 0 with
          | ok y => simp [Except.map, glueE, List.dropLast_cons_of_ne_nil hl]
          | error e => rfl
        | error e => rfl
      | bad e => rw [lex_bad hlt hp, lex_bad hlt2 (hpp.trans hp)]; rfl
    · obtain rfl : x = a.size := by omega
      exact hend
theorem lexB_glue {a b : ByteArray} (ha : a.size ≤ 2000) (hb : b.size ≤ 2000) : lexB (a ++ nlB ++ b) = glueE (a.size + 1) (lexB a) (lexB b) := by
  have hsz : (a ++ nlB ++ b).size = a.size + 1 + b.size := by rw [ByteArray.size_append, ByteArray.size_append]; rfl
  rw [lexB, lexB, lexB, if_neg (by omega), if_neg (by omega), if_neg (by omega)]
  exact lex_glue a b _ 0 (Nat.le_refl _) (Nat.zero_le _)

/-- What is between two tokens has, by itself, no token. -/
theorem skips_lex (s : ByteArray) (a p : Nat) (hp : p ≤ s.size) {x : Nat} (h : Skips s x p) (ha : a ≤ x) : lexFrom (s.extract a p) (x - a) = .ok [⟨0, ⟨#[]⟩, 0, (p - a : Nat)⟩] := by
  have hz : (s.extract a p).size = p - a := by simp; omega
  induction h with
  | here => rw [lex_end (by omega), hz]
  | @step x n q hx hpc hs ih =>
    have hle := hs.le
    have hn := piece_skip hpc
    have hd : (s.extract a q).data.toList.drop (x - a) = (s.data.toList.drop x).take (q - x) := by
      simp [List.drop_take]
      rw [show a + (x - a) = x by omega, show q - a - (x - a) = q - x by omega]
    rw [lex_skip (n := n) (by omega) (by rw [hd]; exact piece_take hpc (by omega)), show x - a + n = x + n - a by omega]
    exact ih hp (by omega) hz
theorem skips_one {s : ByteArray} {a p : Nat} (hp : p ≤ s.size) (h : Skips s a p) (hs : s.size ≤ 2000) : lexB (s.extract a p ++ nlB) = .ok [⟨0, ⟨#[]⟩, 0, ((p - a : Nat) : Int) + 1⟩] := by
  have hz : (s.extract a p).size = p - a := by simp; omega
  have e : s.extract a p ++ nlB = s.extract a p ++ nlB ++ ByteArray.empty := by rw [ByteArray.append_empty]
  have h0 : lexB (s.extract a p) = .ok [⟨0, ⟨#[]⟩, 0, (p - a : Nat)⟩] := by
    rw [lexB, if_neg (by omega)]
    have := skips_lex s a p hp h (Nat.le_refl _)
    rwa [Nat.sub_self] at this
  have h1 : lexB ByteArray.empty = .ok [⟨0, ⟨#[]⟩, 0, 0⟩] := by
    rw [lexB, if_neg (by decide), lex_end (by decide)]
    rfl
  rw [e, lexB_glue (by omega) (by decide), h0, h1, hz]
  simp [glueE, shiftT]

theorem from_err (s : ByteArray) : ∀ (k a : Nat), s.size - a ≤ k → a ≤ s.size → ∀ e i, lexFrom s a = .error (e, i) → 40 ≤ e ∧ e ≤ 42 ∧ i < s.size := by
  intro k
  induction k with
  | zero =>
    intro a hk ha e i hl
    rw [lex_end (by omega)] at hl
    cases hl
  | succ k ih =>
    intro a hk ha e i hl
    by_cases hlt : a < s.size
    · cases hp : piece (s.data.toList.drop a) with
      | skip n =>
        have hn := piece_skip hp
        have hn2 := piece_len hn.2 ha
        rw [lex_skip hlt hp] at hl
        exact ih (a + n) (by omega) hn2 e i hl
      | tok kd n v =>
        have hn := piece_tok hp
        have hn2 := piece_len hn.2 ha
        rw [lex_tok hlt hp] at hl
        cases hr : lexFrom s (a + n) with
        | error e2 =>
          rw [hr] at hl
          injection hl with hl
          subst hl
          exact ih (a + n) (by omega) hn2 e i hr
        | ok r => rw [hr] at hl; cases hl
      | bad e2 =>
        rw [lex_bad hlt hp] at hl
        injection hl with hl
        injection hl with h1 h2
        subst h1 h2
        unfold piece at hp
        split at hp
        · cases hp
        · have := next_bad hp (fun q => by
            have := congrArg List.length q
            rw [List.length_drop, bsize] at this
            simp at this
            omega)
          exact ⟨this.1, this.2, hlt⟩
    · rw [lex_end hlt] at hl
      cases hl
theorem lexB_err {s : ByteArray} {e : Int} {i : Nat} (h : lexB s = .error (e, i)) : e ≠ 0 := by
  rw [lexB] at h
  split at h
  · injection h with h
    injection h with h _
    omega
  · have := from_err s _ 0 (Nat.le_refl _) (Nat.zero_le _) e i h
    omega
theorem lexB_err2 {s : ByteArray} {e : Int} {i : Nat} (h : lexB s = .error (e, i)) (hs : s.size ≤ 2000) : 40 ≤ e ∧ e ≤ 42 ∧ i < s.size := by
  rw [lexB, if_neg (by omega)] at h
  exact from_err s _ 0 (Nat.le_refl _) (Nat.zero_le _) e i h

/-! Names. -/
theorem word_lex {u : ByteArray} (h : wordB u.data.toList = true) : lexB u = .ok [⟨1, u, 0, 0⟩, ⟨0, ⟨#[]⟩, 0, u.size⟩] := by
  have hu := wordB_pos h
  have hz := bsize u
  simp only [wordB, Bool.and_eq_true, decide_eq_true_eq] at h
  obtain ⟨⟨⟨h0, h24⟩, hL⟩, hrun⟩ := h
  have hp : piece (u.data.toList.drop 0) = .tok 1 u.size 0 := by
    rw [List.drop_zero]
    cases hl : u.data.toList with
    | nil => rw [hl] at h0; simp at h0
    | cons c t =>
      rw [hl] at hL hrun
      have hc : isL c = true := by simpa using hL
      have hc1 : ¬ (c = 47 ∨ c = 32 ∨ c = 9 ∨ c = 10) := by
        rintro (rfl | rfl | rfl | rfl) <;> exact absurd hc (by decide)
      have hps : passedN (c :: t) = 0 := by
        unfold passedN
        rw [if_neg, if_neg]
        · intro q
          simp at q
          exact hc1 (.inr q)
        · intro q
          simp [Lib.hasPrefix] at q
          exact hc1 (.inl q.1.symm)
      rw [piece, hps, if_neg (by omega), nextP, if_pos hc, if_neg (by rw [hrun, ← hl]; omega), hrun, ← hl, hz]
  rw [lexB, if_neg (by omega), lex_tok (by omega) hp, Nat.zero_add, lex_end (by omega)]
  simp [Except.map]
theorem lex_word {u : ByteArray} {t t' : Tk} (h : lexB u = .ok [t, t']) (hk : t.k = 1) (hs : t.s = u) : wordB u.data.toList = true := by
  have hz := bsize u
  rw [lexB] at h
  split at h
  · cases h
  · obtain ⟨p, x, r, h1, h2, h3, h4⟩ := from_head u _ 0 (Nat.le_refl _) (Nat.zero_le _) _ h
    injection h1 with h1 h1'
    subst h1 h1'
    rcases h4 with ⟨_, _, h4⟩ | ⟨k, n, v, h4, h5, h6, h7, h8, _⟩
    · cases h4
    · subst h8
      simp only at hk hs
      subst hk
      have hsz : (u.extract p (p + n)).size = u.size := by rw [hs]
      have hsz2 : (u.extract p (p + n)).size = n := by simp; omega
      obtain rfl : p = 0 := by omega
      obtain rfl : n = u.size := by omega
      rw [List.drop_zero] at h5
      unfold piece at h5
      split at h5
      · cases h5
      · unfold nextP at h5
        split at h5
        · cases h5
        · rename_i c l hc
          split at h5
          · split at h5
            · cases h5
            · rename_i h9 h10
              injection h5 with _ h5 _
              simp only [wordB, Bool.and_eq_true, decide_eq_true_eq]
              rw [hc, ← hc, hz, hc]
              refine ⟨⟨⟨h7, by omega⟩, by simpa using h9⟩, by rw [← hc]; exact h5⟩
          · split at h5
            · split at h5 <;> cases h5
            · split at h5 <;> cases h5
theorem res_word {u : ByteArray} (h : resB u = true) : wordB u.data.toList = true ∧ upperB u.data.toList = false := by
  rw [resB, List.any_eq_true] at h
  obtain ⟨x, hx, he⟩ := h
  have : u = x := by
    have := beq_iff_eq.1 he
    rw [ByteArray.toList_eq, ByteArray.toList_eq] at this
    exact bytes_eq this
  subst this
  have : ∀ x ∈ resW, wordB x.data.toList = true ∧ upperB x.data.toList = false := by decide
  exact this u hx

theorem from_at (s : ByteArray) : ∀ (k a : Nat), s.size - a ≤ k → a ≤ s.size → ∀ l, lexFrom s a = .ok l → ∀ t ∈ l, ∃ p : Nat, t.at_ = p ∧ p ≤ s.size := by
  intro k
  induction k with
  | zero =>
    intro a hk ha l hl t ht
    rw [lex_end (by omega)] at hl
    injection hl with hl
    rw [← hl] at ht
    simp at ht
    subst ht
    exact ⟨s.size, rfl, Nat.le_refl _⟩
  | succ k ih =>
    intro a hk ha l hl t ht
    obtain ⟨p, x, r, rfl, h2, h3, h4⟩ := from_head s _ a (Nat.le_refl _) ha l hl
    have hle := h2.le
    rcases h4 with ⟨rfl, rfl, rfl⟩ | ⟨kd, n, v, h4, h5, h6, h7, rfl, h9⟩
    · simp at ht
      subst ht
      exact ⟨s.size, rfl, Nat.le_refl _⟩
    · rcases List.mem_cons.1 ht with rfl | ht
      · exact ⟨p, rfl, h3⟩
      · exact ih (p + n) (by omega) h6 r h9 t ht
theorem lexB_at {s : ByteArray} {l : List Tk} (h : lexB s = .ok l) (hs : s.size ≤ 2000) {t : Tk} (ht : t ∈ l) : ∃ p : Nat, t.at_ = p ∧ p ≤ s.size := by
  rw [lexB, if_neg (by omega)] at h
  exact from_at s _ 0 (Nat.le_refl _) (Nat.zero_le _) l h t ht

/-! Places. -/
theorem piece_kind {l : List UInt8} {k : Int} {n : Nat} {v : Int} (h : piece l = .tok k n v) : (k = 1 ∨ k = 2 ∨ k = 3) := by
  unfold piece at h
  split at h
  · cases h
  · unfold nextP at h
    split at h
    · cases h
    · split at h
      · split at h
        · cases h
        · injection h with h; omega
      · split at h
        · split at h
          · cases h
          · injection h with h; omega
        · split at h
          · cases h
          · injection h with h; omega
structure Pl (s : ByteArray) (l : List Tk) (i E : Nat) : Prop where
  le : i ≤ l.length
  few : E ≤ s.size
  more : i < l.length → lexFrom s E = .ok (l.drop i)
  done : i = l.length → E = s.size
theorem Pl.start {s : ByteArray} {l : List Tk} (h : lexB s = .ok l) (hs : s.size ≤ 2000) : Pl s l 0 0 ∧ 0 < l.length := by
  rw [lexB, if_neg (by omega)] at h
  have hn := from_ne h
  have h0 : 0 < l.length := List.length_pos_iff.2 hn
  exact ⟨⟨Nat.zero_le _, Nat.zero_le _, fun _ => by simpa using h, fun q => by omega⟩, h0⟩
theorem Pl.step {s : ByteArray} {l : List Tk} {i E : Nat} (h : Pl s l i E) (hi : i < l.length) : ∃ (p n : Nat) (kz : Bool), l[i].at_ = (p : Int) ∧ E ≤ p ∧ p + n ≤ s.size ∧ l[i].s.size = n ∧ s.extract p (p + n) = l[i].s ∧ (l[i].k == 0) = kz ∧ decide (i + 1 = l.length) = kz ∧ decide (n = 0) = kz ∧ Skips s E p ∧ Pl s l (i + 1) (p + n) := by
  obtain ⟨p, t, r, h1, h2, h3, h4⟩ := from_head s _ E (Nat.le_refl _) h.few _ (h.more hi)
  have hd := List.drop_eq_getElem_cons hi
  rw [h1] at hd
  injection hd with e1 e2
  rw [← e1]
  have hle := h2.le
  have hlen : (l.drop (i + 1)).length = l.length - (i + 1) := List.length_drop
  rw [← e2] at hlen
  rcases h4 with ⟨rfl, rfl, rfl⟩ | ⟨k, n, v, h4, h5, h6, h7, rfl, h9⟩
  · have hl : i + 1 = l.length := by simp at hlen; omega
    refine ⟨s.size, 0, true, rfl, hle, by omega, rfl, ?_, rfl, by simp [hl], rfl, h2, by omega, by omega, fun q => by omega, fun _ => by omega⟩
    apply bytes_eq
    simp
  · have hr := List.length_pos_iff.2 (from_ne h9)
    have hl : i + 1 < l.length := by omega
    have hk := piece_kind h5
    refine ⟨p, n, false, rfl, hle, h6, by simp; omega, rfl, by simp; omega, by simp; omega, by simp; omega, h2, by omega, by omega, fun _ => by rw [h9, e2], fun q => by omega⟩
end Go.Proofs.YtjoiflokekebkaaDoor
