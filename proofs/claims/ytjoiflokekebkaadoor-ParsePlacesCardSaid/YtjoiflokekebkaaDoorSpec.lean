/- The tokens of a text, in plain Lean. -/
import Derived.Test.YtjoiflokekebkaaDoorL1
import Derived.Lib.AtoiAll
import Derived.Lib.Strings
import Derived.Lib.Bytealg
set_option linter.all false
namespace Go.Proofs.YtjoiflokekebkaaDoor

/-- A token. -/
structure Tk where
  k : Int
  s : ByteArray
  n : Int
  at_ : Int

/-- What a text begins with: bytes that are passed, a token, or nothing that may be. -/
inductive Pc where
  | skip (n : Nat)
  | tok (k : Int) (n : Nat) (v : Int)
  | bad (e : Int)

def valueFrom (acc : Nat) (l : List UInt8) : Nat := l.foldl (fun a c => a * 10 + (c.toNat - 48)) acc
def value (l : List UInt8) : Nat := valueFrom 0 l
def oneSigns : List UInt8 := [123, 125, 40, 41, 44, 59, 58, 46, 42, 38, 61, 43, 45, 60]
def twoSigns : List (List UInt8) := [[58, 58], [61, 61], [61, 62], [45, 62]]
def signLen (l : List UInt8) : Nat := if twoSigns.any (fun p => Lib.hasPrefix l p) then 2 else if l.head?.any (fun c => oneSigns.contains c) then 1 else 0
def passedN (l : List UInt8) : Nat :=
  if Lib.hasPrefix l [47, 47] then run notNl l else if l.head?.any (fun c => [(32 : UInt8), 9, 10].contains c) then 1 else 0
def nextP (l : List UInt8) : Pc :=
  match l with
  | [] => .bad 0
  | c :: _ =>
    if isL c = true then (if 24 < run isI l then .bad 42 else .tok 1 (run isI l) 0)
    else if isD c = true then (if 9223372036854775807 < value (l.take (run isD l)) then .bad 41 else .tok 2 (run isD l) (value (l.take (run isD l))))
    else if signLen l = 0 then .bad 40 else .tok 3 (signLen l) 0
def piece (l : List UInt8) : Pc := if 0 < passedN l then .skip (passedN l) else nextP l

theorem valueFrom_le (l : List UInt8) : ∀ acc, acc ≤ valueFrom acc l := by
  induction l with
  | nil => intro acc; exact Nat.le_refl _
  | cons c l ih => intro acc; exact Nat.le_trans (by omega) (ih (acc * 10 + (c.toNat - 48)))
theorem valueFrom_ten (c : UInt8) (l : List UInt8) (acc : Nat) : acc * 10 + (c.toNat - 48) ≤ valueFrom acc (c :: l) := valueFrom_le l _

theorem parse_digits (l : List UInt8) (h : ∀ c ∈ l, isD c = true) : ∀ acc, acc < 18446744073709551616 → Lib.parseUint10 acc l = if valueFrom acc l < 18446744073709551616 then .ok (valueFrom acc l) else .range := by
  induction l with
  | nil => intro acc ha; simp [Lib.parseUint10, valueFrom, ha]
  | cons c l ih =>
    intro acc ha
    have hc := h c (by simp)
    simp only [isD, Bool.and_eq_true, decide_eq_true_eq] at hc
    have hv := valueFrom_ten c l acc
    rw [Lib.parseUint10, if_pos hc]
    have e : valueFrom acc (c :: l) = valueFrom (acc * 10 + (c.toNat - 48)) l := rfl
    split
    · rw [if_neg (by omega)]
    · split
      · rw [if_neg (by omega)]
      · rw [ih (fun d hd => h d (by simp [hd])) _ (by omega), e]

theorem atoi_digits {l : List UInt8} (h : ∀ c ∈ l, isD c = true) (h0 : l ≠ []) : Lib.atoiAll l = if 9223372036854775807 < value l then .range else .ok (value l : Int) := by
  match l, h0 with
  | c :: r, _ =>
    have hc := h c (by simp)
    simp only [isD, Bool.and_eq_true, decide_eq_true_eq] at hc
    have hp := parse_digits (c :: r) h 0 (by omega)
    have hm : Lib.parseMag (c :: r) = if value (c :: r) < 18446744073709551616 then .ok (value (c :: r)) else .range := by
      rw [Lib.parseMag, if_neg (by simp)]
      exact hp
    unfold Lib.atoiAll
    simp only
    rw [if_neg (by omega), hm]
    by_cases h1 : value (c :: r) < 18446744073709551616
    · rw [if_pos h1]
      simp only
      have hn : ¬ c.toNat = 45 := by omega
      by_cases h2 : 9223372036854775807 < value (c :: r)
      · rw [if_pos h2, if_pos ⟨hn, by omega⟩]
      · rw [if_neg h2, if_neg (by omega), if_neg (by omega), if_neg hn]
    · rw [if_neg h1, if_pos (by omega)]

theorem run_all {p : UInt8 → Bool} {l : List UInt8} : ∀ c ∈ l.take (run p l), p c = true := by
  induction l with
  | nil => simp
  | cons x l ih =>
    cases hx : p x
    · simp [run, List.takeWhile, hx]
    · have e : run p (x :: l) = run p l + 1 := by simp [run, List.takeWhile, hx]
      rw [e, List.take_succ_cons]
      intro c hc
      rcases List.mem_cons.1 hc with rfl | hc
      · exact hx
      · exact ih c hc
theorem run_pos {p : UInt8 → Bool} {c : UInt8} {l : List UInt8} (h : p c = true) : 0 < run p (c :: l) := by simp [run, List.takeWhile, h]
theorem run_zero {p : UInt8 → Bool} {c : UInt8} {l : List UInt8} (h : p c = false) : run p (c :: l) = 0 := by simp [run, List.takeWhile, h]

theorem passedN_le (l : List UInt8) : passedN l ≤ l.length := by
  unfold passedN
  split
  · exact run_le _ _
  · split
    · cases l <;> simp at *
    · omega
theorem hasPrefix_two {l : List UInt8} {a b : UInt8} (h : Lib.hasPrefix l [a, b] = true) : 2 ≤ l.length := by
  have := (List.isPrefixOf_iff_prefix.1 h).length_le
  simpa using this
theorem signLen_le (l : List UInt8) : signLen l ≤ l.length := by
  unfold signLen
  split
  · rename_i h
    rw [List.any_eq_true] at h
    obtain ⟨p, hp, hq⟩ := h
    simp [twoSigns] at hp
    rcases hp with rfl | rfl | rfl | rfl <;> exact hasPrefix_two hq
  · split
    · cases l <;> simp at *
    · omega
theorem next_le {l : List UInt8} {k : Int} {n : Nat} {v : Int} (h : nextP l = .tok k n v) : 1 ≤ n ∧ n ≤ l.length := by
  unfold nextP at h
  split at h
  · cases h
  · rename_i c r
    split at h
    · split at h
      · cases h
      · rename_i hc _
        injection h with _ h _
        subst h
        exact ⟨run_pos (by simp [isI, hc]), run_le _ _⟩
    · split at h
      · split at h
        · cases h
        · rename_i hc _
          injection h with _ h _
          subst h
          exact ⟨run_pos hc, run_le _ _⟩
      · split at h
        · cases h
        · rename_i hs
          injection h with _ h _
          subst h
          exact ⟨by omega, signLen_le _⟩
theorem piece_skip {l : List UInt8} {n : Nat} (h : piece l = .skip n) : 1 ≤ n ∧ n ≤ l.length := by
  unfold piece at h
  split at h
  · injection h with h
    have := passedN_le l
    omega
  · unfold nextP at h
    split at h
    · cases h
    · split at h
      · split at h <;> cases h
      · split at h
        · split at h <;> cases h
        · split at h <;> cases h
theorem piece_tok {l : List UInt8} {k : Int} {n : Nat} {v : Int} (h : piece l = .tok k n v) : 1 ≤ n ∧ n ≤ l.length := by
  unfold piece at h
  split at h
  · cases h
  · exact next_le h

/-- The tokens from a place on, or what is wrong, and where. -/
def lexFrom (s : ByteArray) (at_ : Nat) : Except (Int × Nat) (List Tk) :=
  if h : at_ < s.size then
    match hp : piece (s.data.toList.drop at_) with
    | .skip n => lexFrom s (at_ + n)
    | .tok k n v => match lexFrom s (at_ + n) with
      | .ok l => .ok (⟨k, s.extract at_ (at_ + n), v, at_⟩ :: l)
      | .error e => .error e
    | .bad e => .error (e, at_)
  else .ok [⟨0, ⟨#[]⟩, 0, s.size⟩]
termination_by s.size - at_
decreasing_by
  · have := piece_skip hp; omega
  · have := piece_tok hp; omega
def lexB (s : ByteArray) : Except (Int × Nat) (List Tk) := if 65536 < s.size then .error (43, 0) else lexFrom s 0

theorem lex_skip {s : ByteArray} {a n : Nat} (h : a < s.size) (hp : piece (s.data.toList.drop a) = .skip n) : lexFrom s a = lexFrom s (a + n) := by
  rw [lexFrom, dif_pos h]
  split
  · rename_i m hm; rw [hp] at hm; injection hm with hm; rw [hm]
  · rename_i hm; rw [hp] at hm; cases hm
  · rename_i hm; rw [hp] at hm; cases hm
theorem lex_tok {s : ByteArray} {a n : Nat} {k v : Int} (h : a < s.size) (hp : piece (s.data.toList.drop a) = .tok k n v) :
    lexFrom s a = (lexFrom s (a + n)).map (fun l => ⟨k, s.extract a (a + n), v, a⟩ :: l) := by
  rw [lexFrom, dif_pos h]
  split
  · rename_i hm; rw [hp] at hm; cases hm
  · rename_i k' n' v' hm
    rw [hp] at hm
    injection hm with e1 e2 e3
    subst e1 e2 e3
    cases lexFrom s (a + n) <;> rfl
  · rename_i hm; rw [hp] at hm; cases hm
theorem lex_bad {s : ByteArray} {a : Nat} {e : Int} (h : a < s.size) (hp : piece (s.data.toList.drop a) = .bad e) : lexFrom s a = .error (e, a) := by
  rw [lexFrom, dif_pos h]
  split
  · rename_i hm; rw [hp] at hm; cases hm
  · rename_i hm; rw [hp] at hm; cases hm
  · rename_i hm; rw [hp] at hm; injection hm with hm; rw [hm]
theorem lex_end {s : ByteArray} {a : Nat} (h : ¬ a < s.size) : lexFrom s a = .ok [⟨0, ⟨#[]⟩, 0, s.size⟩] := by rw [lexFrom, dif_neg h]

end Go.Proofs.YtjoiflokekebkaaDoor
