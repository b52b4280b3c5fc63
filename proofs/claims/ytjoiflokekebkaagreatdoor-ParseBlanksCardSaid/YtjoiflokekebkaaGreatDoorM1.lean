/- Texts of this claim in one file: L1, Spec, Shelf, L2, Base, L3, L4. -/
import Derived.Test.YtjoiflokekebkaaGreatDoorProg
import Derived.WalkKit
import Derived.LoopTactic
import Derived.Lib.Hide
import Derived.Shelf.Abstract
import Derived.Lib.AtoiAll
import Derived.Lib.Strings
import Derived.Lib.Bytealg
import Derived.Shelf.Small.Strs
import Derived.Shelf.Strconv.Atoi
import Derived.Shelf.Strconv.Itoa0
import Derived.Shelf.Strconv.AtoiErrFast
import Derived.Shelf.Strconv.ParseIntEmpty
import Derived.Shelf.Strconv.AtoiFail
import Derived.Shelf.LaysM
import Derived.Shelf.Strconv.Clone
import Derived.Shelf.Strconv.SyntaxError
import Derived.Shelf.LaysC
import Derived.Shelf.Strconv.ToError
import Derived.Shelf.Strconv.Lower
import Derived.Shelf.Strconv.ParseUint10
import Derived.Shelf.Strconv.ParseUint10Empty
import Derived.Shelf.Strconv.ParseUint10Any
import Derived.Shelf.Strconv.ParseInt10
import Derived.Shelf.Strconv.AtoiLong
import Derived.Shelf.Strconv.AtoiInnerAll
import Derived.Shelf.Strconv.RangeError
import Derived.Shelf.Strconv.ToErrorRange
import Derived.Shelf.Strconv.AtoiAll
import Derived.Shelf.Strconv.ErrVarAll
import Derived.Shelf.Strings.Search1
import Derived.Shelf.Strings.Prefix
import Derived.BigCall
import Derived.Deep.Draws
import Derived.Maps.AppendAt
set_option linter.all false
section
/- Walks: bytes. -/
namespace Go.Proofs.YtjoiflokekebkaaGreatDoor
open Go.RowKit

def isL (c : UInt8) : Bool := (decide (97 ≤ c.toNat) && decide (c.toNat ≤ 122)) || (decide (65 ≤ c.toNat) && decide (c.toNat ≤ 90))
def isD (c : UInt8) : Bool := decide (48 ≤ c.toNat) && decide (c.toNat ≤ 57)
def isI (c : UInt8) : Bool := isL c || isD c || decide (c.toNat = 95)
def notNl (c : UInt8) : Bool := decide (c.toNat ≠ 10)

theorem or32_all : ((List.range 256).all fun n => (decide (97 ≤ bits BinOp.or IntKind.u8 (n : Int) 32) && decide (bits BinOp.or IntKind.u8 (n : Int) 32 ≤ 122)) == ((decide (97 ≤ n) && decide (n ≤ 122)) || (decide (65 ≤ n) && decide (n ≤ 90)))) = true := by kernel_rfl
theorem isL_eq (c : UInt8) : isL c = (decide (97 ≤ bits BinOp.or IntKind.u8 (c.toNat : Int) 32) && decide (bits BinOp.or IntKind.u8 (c.toNat : Int) 32 ≤ 122)) := by
  have h := List.all_eq_true.1 or32_all c.toNat (List.mem_range.2 c.toNat_lt)
  exact (eq_of_beq h).symm

theorem letter_any (c : UInt8) (W : World) : Calls Tryz.prog 121 #[.int .u8 c.toNat] W fun e W' => e = .returned (.bool (isL c)) ∧ W' = W := by
  rw [isL_eq]
  go_enter Tryz.func121, Tryz.ntmps121
  go_wp2
  all_goals
    go_ret
    refine ⟨congrArg (fun b => Ending.returned (Value.bool b)) ?_, rfl⟩
    rw [Bool.eq_iff_iff]
    (try simp)
    try (first | omega | (intros; omega) | (constructor <;> intros <;> omega))
theorem digit_any (c : UInt8) (W : World) : Calls Tryz.prog 123 #[.int .u8 c.toNat] W fun e W' => e = .returned (.bool (isD c)) ∧ W' = W := by
  unfold isD
  go_enter Tryz.func123, Tryz.ntmps123
  go_wp2
  all_goals
    go_ret
    refine ⟨congrArg (fun b => Ending.returned (Value.bool b)) ?_, rfl⟩
    rw [Bool.eq_iff_iff]
    (try simp)
    try (first | omega | (intros; omega) | (constructor <;> intros <;> omega))
theorem inner_any (c : UInt8) (W : World) : Calls Tryz.prog 122 #[.int .u8 c.toNat] W fun e W' => e = .returned (.bool (isI c)) ∧ W' = W := by
  unfold isI isD
  rw [isL_eq]
  go_enter Tryz.func122, Tryz.ntmps122
  go_wp2
  all_goals
    go_ret
    refine ⟨congrArg (fun b => Ending.returned (Value.bool b)) ?_, rfl⟩
    rw [Bool.eq_iff_iff]
    (try simp)
    try (first | omega | (intros; omega) | (constructor <;> intros <;> omega))
theorem nl_any (c : UInt8) (W : World) : Calls Tryz.prog 119 #[.int .u8 c.toNat] W fun e W' => e = .returned (.bool (notNl c)) ∧ W' = W := by
  unfold notNl
  go_enter Tryz.func119, Tryz.ntmps119
  go_wp2
  all_goals
    go_ret
    refine ⟨congrArg (fun b => Ending.returned (Value.bool b)) ?_, rfl⟩
    rw [Bool.eq_iff_iff]
    (try simp)
    try (first | omega | (intros; omega) | (constructor <;> intros <;> omega))

/-- How many bytes are so, from the beginning on. -/
def run (p : UInt8 → Bool) (l : List UInt8) : Nat := (l.takeWhile p).length
theorem run_le (p : UInt8 → Bool) (l : List UInt8) : run p l ≤ l.length := by
  induction l with
  | nil => simp [run]
  | cons x l ih => simp only [run, List.takeWhile] at ih ⊢; cases p x <;> simp <;> omega
theorem run_at {p : UInt8 → Bool} {l : List UInt8} {t : Nat} (h1 : ∀ j x, j < t → l[j]? = some x → p x = true) (h2 : ∀ x, l[t]? = some x → p x = false) (h3 : t ≤ l.length) : run p l = t := by
  induction l generalizing t with
  | nil => simp [run] at h3 ⊢; omega
  | cons y l ih =>
    cases t with
    | zero => have := h2 y rfl; simp [run, List.takeWhile, this]
    | succ t =>
      have := h1 0 y (by omega) rfl
      have e := ih (t := t) (fun j x hj hx => h1 (j + 1) x (by omega) (by simpa using hx)) (fun x hx => h2 x (by simpa using hx)) (by simp at h3; omega)
      simp only [run, List.takeWhile, this] at e ⊢
      simp [e]

theorem length_any (p : UInt8 → Bool) (k : Nat) (eg : ∀ args w, (callFunc k args).run Tryz.prog w = .ok (.enter k args) w) (hp : ∀ (c : UInt8) (W : World), Calls Tryz.prog k #[.int .u8 c.toNat] W fun e W' => e = .returned (.bool (p c)) ∧ W' = W) (s : ByteArray) (hs : s.size ≤ 1000000000000) (W : World) :
    Calls Tryz.prog 118 #[.string s, .func (.func k) #[] #[]] W fun e W' => e = .returned (.int .i64 (run p s.data.toList)) ∧ W' = W := by
  have HP := Lib.hid hp
  clear hp
  go_enter Tryz.func118, Tryz.ntmps118
  go_wp2_with fail
  have hsz : s.data.toList.length = s.size := Array.length_toList
  go_loopw [5] (fun i wr => ∃ t : Nat, t ≤ s.size ∧ i = .int .i64 t ∧ Hid (∀ j x, j < t → s.data.toList[j]? = some x → p x = true) ∧ wr = W) (fun i _ => s.size - (intOf i).toNat)
  case atStart => exact ⟨0, Nat.zero_le _, rfl, Lib.hid (fun j _ hj => absurd hj (Nat.not_lt_zero _)), rfl⟩
  case round =>
    obtain ⟨t, ht, rfl, hno, rfl⟩ := hrel
    have hti : (0 : Int) ≤ (t : Int) := by omega
    by_cases hlt : t < s.size
    · have htl : (t : Int) < (s.size : Int) := by omega
      have hx : s.data.toList[t]? = some s[t] := by rw [List.getElem?_eq_getElem (by omega)]; rfl
      have HX := Lib.hid hx
      clear hx
      have hpt := HP.out s[t] wr
      cases hv : p s[t]
      · rw [hv] at hpt
        have HT := Lib.hid hpt
        have hr : run p s.data.toList = t := run_at hno.out (fun x hx => by rw [HX.out] at hx; injection hx with hx; rw [← hx]; exact hv) (by omega)
        have HRr := Lib.hid hr
        clear hr hpt hv hsz
        go_wp2_with fail
        refine HT.out.mono ?_
        rintro e w2 ⟨rfl, rfl⟩
        go_wp2
        go_ret
        exact ⟨by rw [HRr.out]; rfl, rfl⟩
      · rw [hv] at hpt
        have HT := Lib.hid hpt
        have HN : Hid (∀ j x, j < t + 1 → s.data.toList[j]? = some x → p x = true) := Lib.hid (fun j x hj hx => by
          by_cases e : j = t
          · subst e; rw [HX.out] at hx; injection hx with hx; rw [← hx]; exact hv
          · exact hno.out j x (by omega) hx)
        clear hpt hv hsz
        go_wp2_with fail
        refine HT.out.mono ?_
        rintro e w2 ⟨rfl, rfl⟩
        go_wp2
        go_roundw
        case rel => exact ⟨t + 1, by omega, by go_num, HN, by trivial⟩
        case measure => simp [intOf]; omega
    · obtain rfl : t = s.size := by omega
      have hr : run p s.data.toList = s.size := run_at hno.out (fun x hx => by rw [List.getElem?_eq_none (by omega)] at hx; cases hx) (by omega)
      have HRr := Lib.hid hr
      clear hr hsz
      go_wp2
      go_ret
      exact ⟨by rw [HRr.out]; rfl, rfl⟩

theorem length_inner (s : ByteArray) (hs : s.size ≤ 1000000000000) (W : World) : Calls Tryz.prog 118 #[.string s, .func (.func 122) #[] #[]] W fun e W' => e = .returned (.int .i64 (run isI s.data.toList)) ∧ W' = W :=
  length_any isI 122 (Go.Proofs.enters_of Tryz.func122 (by kernel_rfl) rfl) inner_any s hs W
theorem length_digit (s : ByteArray) (hs : s.size ≤ 1000000000000) (W : World) : Calls Tryz.prog 118 #[.string s, .func (.func 123) #[] #[]] W fun e W' => e = .returned (.int .i64 (run isD s.data.toList)) ∧ W' = W :=
  length_any isD 123 (Go.Proofs.enters_of Tryz.func123 (by kernel_rfl) rfl) digit_any s hs W
theorem length_nl (s : ByteArray) (hs : s.size ≤ 1000000000000) (W : World) : Calls Tryz.prog 118 #[.string s, .func (.func 119) #[] #[]] W fun e W' => e = .returned (.int .i64 (run notNl s.data.toList)) ∧ W' = W :=
  length_any notNl 119 (Go.Proofs.enters_of Tryz.func119 (by kernel_rfl) rfl) nl_any s hs W
end Go.Proofs.YtjoiflokekebkaaGreatDoor
end

section
/- The tokens of a text, in plain Lean. -/
namespace Go.Proofs.YtjoiflokekebkaaGreatDoor

/-- A token. -/
structure Tk where
  k : Int
  s : ByteArray
  n : Int
  at_ : Int

/-- What a text begins with: bytes that are passed, a token, or nothing that may be. -/
inductive Pc where
  | skip (n : Nat)
  | tok (k : Int) (n : Nat) (v : Int)
  | bad (e : Int)

def valueFrom (acc : Nat) (l : List UInt8) : Nat := l.foldl (fun a c => a * 10 + (c.toNat - 48)) acc
def value (l : List UInt8) : Nat := valueFrom 0 l
def oneSigns : List UInt8 := [123, 125, 40, 41, 44, 59, 58, 46, 42, 38, 61, 43, 45, 60]
def twoSigns : List (List UInt8) := [[58, 58], [61, 61], [61, 62], [45, 62]]
def signLen (l : List UInt8) : Nat := if twoSigns.any (fun p => Lib.hasPrefix l p) then 2 else if l.head?.any (fun c => oneSigns.contains c) then 1 else 0
def passedN (l : List UInt8) : Nat :=
  if Lib.hasPrefix l [47, 47] then run notNl l else if l.head?.any (fun c => [(32 : UInt8), 9, 10].contains c) then 1 else 0
def nextP (l : List UInt8) : Pc :=
  match l with
  | [] => .bad 0
  | c :: _ =>
    if isL c = true then (if 24 < run isI l then .bad 42 else .tok 1 (run isI l) 0)
    else if isD c = true then (if 9223372036854775807 < value (l.take (run isD l)) then .bad 41 else .tok 2 (run isD l) (value (l.take (run isD l))))
    else if signLen l = 0 then .bad 40 else .tok 3 (signLen l) 0
def piece (l : List UInt8) : Pc := if 0 < passedN l then .skip (passedN l) else nextP l

theorem valueFrom_le (l : List UInt8) : ∀ acc, acc ≤ valueFrom acc l := by
  induction l with
  | nil => intro acc; exact Nat.le_refl _
  | cons c l ih => intro acc; exact Nat.le_trans (by omega) (ih (acc * 10 + (c.toNat - 48)))
theorem valueFrom_ten (c : UInt8) (l : List UInt8) (acc : Nat) : acc * 10 + (c.toNat - 48) ≤ valueFrom acc (c :: l) := valueFrom_le l _

theorem parse_digits (l : List UInt8) (h : ∀ c ∈ l, isD c = true) : ∀ acc, acc < 18446744073709551616 → Lib.parseUint10 acc l = if valueFrom acc l < 18446744073709551616 then .ok (valueFrom acc l) else .range := by
  induction l with
  | nil => intro acc ha; simp [Lib.parseUint10, valueFrom, ha]
  | cons c l ih =>
    intro acc ha
    have hc := h c (by simp)
    simp only [isD, Bool.and_eq_true, decide_eq_true_eq] at hc
    have hv := valueFrom_ten c l acc
    rw [Lib.parseUint10, if_pos hc]
    have e : valueFrom acc (c :: l) = valueFrom (acc * 10 + (c.toNat - 48)) l := rfl
    split
    · rw [if_neg (by omega)]
    · split
      · rw [if_neg (by omega)]
      · rw [ih (fun d hd => h d (by simp [hd])) _ (by omega), e]

theorem atoi_digits {l : List UInt8} (h : ∀ c ∈ l, isD c = true) (h0 : l ≠ []) : Lib.atoiAll l = if 9223372036854775807 < value l then .range else .ok (value l : Int) := by
  match l, h0 with
  | c :: r, _ =>
    have hc := h c (by simp)
    simp only [isD, Bool.and_eq_true, decide_eq_true_eq] at hc
    have hp := parse_digits (c :: r) h 0 (by omega)
    have hm : Lib.parseMag (c :: r) = if value (c :: r) < 18446744073709551616 then .ok (value (c :: r)) else .range := by
      rw [Lib.parseMag, if_neg (by simp)]
      exact hp
    unfold Lib.atoiAll
    simp only
    rw [if_neg (by omega), hm]
    by_cases h1 : value (c :: r) < 18446744073709551616
    · rw [if_pos h1]
      simp only
      have hn : ¬ c.toNat = 45 := by omega
      by_cases h2 : 9223372036854775807 < value (c :: r)
      · rw [if_pos h2, if_pos ⟨hn, by omega⟩]
      · rw [if_neg h2, if_neg (by omega), if_neg (by omega), if_neg hn]
    · rw [if_neg h1, if_pos (by omega)]

theorem run_all {p : UInt8 → Bool} {l : List UInt8} : ∀ c ∈ l.take (run p l), p c = true := by
  induction l with
  | nil => simp
  | cons x l ih =>
    cases hx : p x
    · simp [run, List.takeWhile, hx]
    · have e : run p (x :: l) = run p l + 1 := by simp [run, List.takeWhile, hx]
      rw [e, List.take_succ_cons]
      intro c hc
      rcases List.mem_cons.1 hc with rfl | hc
      · exact hx
      · exact ih c hc
theorem run_pos {p : UInt8 → Bool} {c : UInt8} {l : List UInt8} (h : p c = true) : 0 < run p (c :: l) := by simp [run, List.takeWhile, h]
theorem run_zero {p : UInt8 → Bool} {c : UInt8} {l : List UInt8} (h : p c = false) : run p (c :: l) = 0 := by simp [run, List.takeWhile, h]

theorem passedN_le (l : List UInt8) : passedN l ≤ l.length := by
  unfold passedN
  split
  · exact run_le _ _
  · split
    · cases l <;> simp at *
    · omega
theorem hasPrefix_two {l : List UInt8} {a b : UInt8} (h : Lib.hasPrefix l [a, b] = true) : 2 ≤ l.length := by
  have := (List.isPrefixOf_iff_prefix.1 h).length_le
  simpa using this
theorem signLen_le (l : List UInt8) : signLen l ≤ l.length := by
  unfold signLen
  split
  · rename_i h
    rw [List.any_eq_true] at h
    obtain ⟨p, hp, hq⟩ := h
    simp [twoSigns] at hp
    rcases hp with rfl | rfl | rfl | rfl <;> exact hasPrefix_two hq
  · split
    · cases l <;> simp at *
    · omega
theorem next_le {l : List UInt8} {k : Int} {n : Nat} {v : Int} (h : nextP l = .tok k n v) : 1 ≤ n ∧ n ≤ l.length := by
  unfold nextP at h
  split at h
  · cases h
  · rename_i c r
    split at h
    · split at h
      · cases h
      · rename_i hc _
        injection h with _ h _
        subst h
        exact ⟨run_pos (by simp [isI, hc]), run_le _ _⟩
    · split at h
      · split at h
        · cases h
        · rename_i hc _
          injection h with _ h _
          subst h
          exact ⟨run_pos hc, run_le _ _⟩
      · split at h
        · cases h
        · rename_i hs
          injection h with _ h _
          subst h
          exact ⟨by omega, signLen_le _⟩
theorem piece_skip {l : List UInt8} {n : Nat} (h : piece l = .skip n) : 1 ≤ n ∧ n ≤ l.length := by
  unfold piece at h
  split at h
  · injection h with h
    have := passedN_le l
    omega
  · unfold nextP at h
    split at h
    · cases h
    · split at h
      · split at h <;> cases h
      · split at h
        · split at h <;> cases h
        · split at h <;> cases h
theorem piece_tok {l : List UInt8} {k : Int} {n : Nat} {v : Int} (h : piece l = .tok k n v) : 1 ≤ n ∧ n ≤ l.length := by
  unfold piece at h
  split at h
  · cases h
  · exact next_le h

/-- The tokens from a place on, or what is wrong, and where. -/
def lexFrom (s : ByteArray) (at_ : Nat) : Except (Int × Nat) (List Tk) :=
  if h : at_ < s.size then
    match hp : piece (s.data.toList.drop at_) with
    | .skip n => lexFrom s (at_ + n)
    | .tok k n v => match lexFrom s (at_ + n) with
      | .ok l => .ok (⟨k, s.extract at_ (at_ + n), v, at_⟩ :: l)
      | .error e => .error e
    | .bad e => .error (e, at_)
  else .ok [⟨0, ⟨#[]⟩, 0, s.size⟩]
termination_by s.size - at_
decreasing_by
  · have := piece_skip hp; omega
  · have := piece_tok hp; omega
def lexB (s : ByteArray) : Except (Int × Nat) (List Tk) := if 65536 < s.size then .error (43, 0) else lexFrom s 0

theorem lex_skip {s : ByteArray} {a n : Nat} (h : a < s.size) (hp : piece (s.data.toList.drop a) = .skip n) : lexFrom s a = lexFrom s (a + n) := by
  rw [lexFrom, dif_pos h]
  split
  · rename_i m hm; rw [hp] at hm; injection hm with hm; rw [hm]
  · rename_i hm; rw [hp] at hm; cases hm
  · rename_i hm; rw [hp] at hm; cases hm
theorem lex_tok {s : ByteArray} {a n : Nat} {k v : Int} (h : a < s.size) (hp : piece (s.data.toList.drop a) = .tok k n v) :
    lexFrom s a = (lexFrom s (a + n)).map (fun l => ⟨k, s.extract a (a + n), v, a⟩ :: l) := by
  rw [lexFrom, dif_pos h]
  split
  · rename_i hm; rw [hp] at hm; cases hm
  · rename_i k' n' v' hm
    rw [hp] at hm
    injection hm with e1 e2 e3
    subst e1 e2 e3
    cases lexFrom s (a + n) <;> rfl
  · rename_i hm; rw [hp] at hm; cases hm
theorem lex_bad {s : ByteArray} {a : Nat} {e : Int} (h : a < s.size) (hp : piece (s.data.toList.drop a) = .bad e) : lexFrom s a = .error (e, a) := by
  rw [lexFrom, dif_pos h]
  split
  · rename_i hm; rw [hp] at hm; cases hm
  · rename_i hm; rw [hp] at hm; cases hm
  · rename_i hm; rw [hp] at hm; injection hm with hm; rw [hm]
theorem lex_end {s : ByteArray} {a : Nat} (h : ¬ a < s.size) : lexFrom s a = .ok [⟨0, ⟨#[]⟩, 0, s.size⟩] := by rw [lexFrom, dif_neg h]

end Go.Proofs.YtjoiflokekebkaaGreatDoor
end

section
/- The contracts of the functions of the library that are called, laid at this translation (by the kit's own program). -/
namespace Go.Proofs
open Go.Shelf
def Tryz.lays137_ren : Go.Shelf.Ren := ⟨fun | 137 => 120 | 217 => 178 | 266 => 203 | n => n, fun | 9 => 9 | 5 => 5 | 3 => 3 | n => n, fun | n => n⟩
theorem Tryz.lays137 : Go.Proofs.Lays.n137 Tryz.prog Tryz.lays137_ren := {
  mixed := by kernel_rfl
  f137 := Tryz.func120.trans (congrArg some (by kernel_rfl))
  f217 := Tryz.func178.trans (congrArg some (by kernel_rfl))
  f266 := Tryz.func203.trans (congrArg some (by kernel_rfl))
  t3 := Tryz.underlying3
  a3 := Tryz.isAgg3
  z3 := Tryz.sizeOf3
  v3 := Tryz.zeroValue3
  t5 := Tryz.underlying5
  a5 := Tryz.isAgg5
  z5 := Tryz.sizeOf5
  v5 := Tryz.zeroValue5
  t9 := Tryz.underlying9
  a9 := Tryz.isAgg9
  z9 := Tryz.sizeOf9
  v9 := Tryz.zeroValue9 }
open Go.RowKit in
theorem Tryz.strings_IndexByte (s : ByteArray) (c : Int) (w : World) :
    Calls Tryz.prog 120 #[.string s, .int .u8 c] w fun e w' => e = .returned (.int .i64 (Lib.indexByte s.data.toList c.toNat.toUInt8)) ∧ w' = w := Any.strings_IndexByte Tryz.lays137 s c w
def Tryz.laysC172_ren : Go.Shelf.Ren := ⟨fun | 172 => 124 | 244 => 179 | 245 => 180 | 247 => 204 | 279 => 205 | 280 => 206 | 281 => 207 | 282 => 208 | 287 => 221 | 316 => 222 | 171 => 224 | 205 => 223 | 321 => 229 | 322 => 230 | 243 => 231 | 246 => 235 | 283 => 237 | 284 => 238 | 285 => 239 | 286 => 240 | 129 => 242 | 317 => 241 | 318 => 243 | 319 => 244 | 320 => 245 | 337 => 246 | 338 => 247 | n => n, fun | 9 => 9 | 3 => 3 | 75 => 188 | 76 => 189 | 4 => 4 | 5 => 5 | 167 => 244 | 37 => 245 | 0 => 0 | 85 => 246 | 2 => 2 | 168 => 248 | 53 => 259 | 175 => 260 | 46 => 262 | 210 => 265 | 127 => 270 | 145 => 273 | 143 => 271 | 21 => 21 | 171 => 279 | 173 => 282 | 212 => 286 | 51 => 287 | 20 => 20 | 213 => 288 | 232 => 292 | 233 => 293 | 80 => 294 | n => n, fun | 15 => 1 | 16 => 2 | 17 => 3 | 18 => 4 | 19 => 5 | n => n⟩
theorem Tryz.laysC172 : Go.Proofs.LaysC.n172 Tryz.prog Tryz.laysC172_ren := {
  mixed := by kernel_rfl
  f129 := Tryz.func242.trans (congrArg some (by kernel_rfl))
  f171 := Tryz.func224.trans (congrArg some (by kernel_rfl))
  f172 := Tryz.func124.trans (congrArg some (by kernel_rfl))
  f205 := Tryz.func223.trans (congrArg some (by kernel_rfl))
  f243 := Tryz.func231.trans (congrArg some (by kernel_rfl))
  f244 := Tryz.func179.trans (congrArg some (by kernel_rfl))
  f245 := Tryz.func180.trans (congrArg some (by kernel_rfl))
  f246 := Tryz.func235.trans (congrArg some (by kernel_rfl))
  f247 := Tryz.func204.trans (congrArg some (by kernel_rfl))
  f279 := Tryz.func205.trans (congrArg some (by kernel_rfl))
  f280 := Tryz.func206.trans (congrArg some (by kernel_rfl))
  f281 := Tryz.func207.trans (congrArg some (by kernel_rfl))
  f282 := Tryz.func208.trans (congrArg some (by kernel_rfl))
  f283 := Tryz.func237.trans (congrArg some (by kernel_rfl))
  f284 := Tryz.func238.trans (congrArg some (by kernel_rfl))
  f285 := Tryz.func239.trans (congrArg some (by kernel_rfl))
  f286 := Tryz.func240.trans (congrArg some (by kernel_rfl))
  f287 := Tryz.func221.trans (congrArg some (by kernel_rfl))
  f316 := Tryz.func222.trans (congrArg some (by kernel_rfl))
  f317 := Tryz.func241.trans (congrArg some (by kernel_rfl))
  f318 := Tryz.func243.trans (congrArg some (by kernel_rfl))
  f319 := Tryz.func244.trans (congrArg some (by kernel_rfl))
  f320 := Tryz.func245.trans (congrArg some (by kernel_rfl))
  f321 := Tryz.func229.trans (congrArg some (by kernel_rfl))
  f322 := Tryz.func230.trans (congrArg some (by kernel_rfl))
  f337 := Tryz.func246.trans (congrArg some (by kernel_rfl))
  f338 := Tryz.func247.trans (congrArg some (by kernel_rfl))
  t0 := Tryz.underlying0
  a0 := Tryz.isAgg0
  z0 := Tryz.sizeOf0
  v0 := Tryz.zeroValue0
  t2 := Tryz.underlying2
  a2 := Tryz.isAgg2
  z2 := Tryz.sizeOf2
  v2 := Tryz.zeroValue2
  t3 := Tryz.underlying3
  a3 := Tryz.isAgg3
  z3 := Tryz.sizeOf3
  v3 := Tryz.zeroValue3
  t4 := Tryz.underlying4
  a4 := Tryz.isAgg4
  z4 := Tryz.sizeOf4
  v4 := Tryz.zeroValue4
  t5 := Tryz.underlying5
  a5 := Tryz.isAgg5
  z5 := Tryz.sizeOf5
  v5 := Tryz.zeroValue5
  t9 := Tryz.underlying9
  a9 := Tryz.isAgg9
  z9 := Tryz.sizeOf9
  v9 := Tryz.zeroValue9
  t20 := Tryz.underlying20
  a20 := Tryz.isAgg20
  z20 := Tryz.sizeOf20
  v20 := Tryz.zeroValue20
  t21 := Tryz.underlying21
  a21 := Tryz.isAgg21
  z21 := Tryz.sizeOf21
  v21 := Tryz.zeroValue21
  t37 := Tryz.underlying245
  a37 := Tryz.isAgg245
  z37 := Tryz.sizeOf245
  v37 := Tryz.zeroValue245
  t46 := Tryz.underlying262
  a46 := Tryz.isAgg262
  z46 := Tryz.sizeOf262
  v46 := Tryz.zeroValue262
  t51 := Tryz.underlying287
  a51 := Tryz.isAgg287
  z51 := Tryz.sizeOf287
  v51 := Tryz.zeroValue287
  t53 := Tryz.underlying259
  a53 := Tryz.isAgg259
  z53 := Tryz.sizeOf259
  v53 := Tryz.zeroValue259
  t75 := Tryz.underlying188
  a75 := Tryz.isAgg188
  z75 := Tryz.sizeOf188
  v75 := Tryz.zeroValue188
  t76 := Tryz.underlying189
  a76 := Tryz.isAgg189
  z76 := Tryz.sizeOf189
  v76 := Tryz.zeroValue189
  t85 := Tryz.underlying246
  a85 := Tryz.isAgg246
  z85 := Tryz.sizeOf246
  v85 := Tryz.zeroValue246
  t127 := Tryz.underlying270
  a127 := Tryz.isAgg270
  z127 := Tryz.sizeOf270
  v127 := Tryz.zeroValue270
  t143 := Tryz.underlying271
  a143 := Tryz.isAgg271
  z143 := Tryz.sizeOf271
  v143 := Tryz.zeroValue271
  t145 := Tryz.underlying273
  a145 := Tryz.isAgg273
  z145 := Tryz.sizeOf273
  v145 := Tryz.zeroValue273
  t167 := Tryz.underlying244
  a167 := Tryz.isAgg244
  z167 := Tryz.sizeOf244
  v167 := Tryz.zeroValue244
  t168 := Tryz.underlying248
  a168 := Tryz.isAgg248
  z168 := Tryz.sizeOf248
  v168 := Tryz.zeroValue248
  t171 := Tryz.underlying279
  a171 := Tryz.isAgg279
  z171 := Tryz.sizeOf279
  v171 := Tryz.zeroValue279
  t173 := Tryz.underlying282
  a173 := Tryz.isAgg282
  z173 := Tryz.sizeOf282
  v173 := Tryz.zeroValue282
  t175 := Tryz.underlying260
  a175 := Tryz.isAgg260
  z175 := Tryz.sizeOf260
  v175 := Tryz.zeroValue260
  t210 := Tryz.underlying265
  a210 := Tryz.isAgg265
  z210 := Tryz.sizeOf265
  v210 := Tryz.zeroValue265
  t212 := Tryz.underlying286
  a212 := Tryz.isAgg286
  z212 := Tryz.sizeOf286
  v212 := Tryz.zeroValue286
  t213 := Tryz.underlying288
  a213 := Tryz.isAgg288
  z213 := Tryz.sizeOf288
  t232 := Tryz.underlying292
  a232 := Tryz.isAgg292
  z232 := Tryz.sizeOf292
  v232 := Tryz.zeroValue292
  t233 := Tryz.underlying293
  a233 := Tryz.isAgg293
  z233 := Tryz.sizeOf293
  v233 := Tryz.zeroValue293
  g15 := by kernel_rfl
  g16 := by kernel_rfl
  g17 := by kernel_rfl
  g18 := by kernel_rfl
  g19 := by kernel_rfl
  t80 := Tryz.underlying294
  a80 := Tryz.isAgg294
  z80 := Tryz.sizeOf294
  v80 := Tryz.zeroValue294
  i0 := by kernel_rfl
  i2 := by kernel_rfl
  i3 := by kernel_rfl
  i4 := by kernel_rfl
  i5 := by kernel_rfl
  i9 := by kernel_rfl
  i20 := by kernel_rfl
  i21 := by kernel_rfl
  i37 := by kernel_rfl
  i46 := by kernel_rfl
  i51 := by kernel_rfl
  i53 := by kernel_rfl
  i75 := by kernel_rfl
  i76 := by kernel_rfl
  i80 := by kernel_rfl
  i85 := by kernel_rfl
  i127 := by kernel_rfl
  i143 := by kernel_rfl
  i145 := by kernel_rfl
  i167 := by kernel_rfl
  i168 := by kernel_rfl
  i171 := by kernel_rfl
  i173 := by kernel_rfl
  i175 := by kernel_rfl
  i210 := by kernel_rfl
  i212 := by kernel_rfl
  i232 := by kernel_rfl
  i233 := by kernel_rfl
  m15 := by kernel_rfl
  m16 := by kernel_rfl
  m17 := by kernel_rfl
  m18 := by kernel_rfl
  m19 := by kernel_rfl
  c0 := by kernel_rfl
  c2 := by kernel_rfl
  c3 := by kernel_rfl
  c4 := by kernel_rfl
  c5 := by kernel_rfl
  c9 := by kernel_rfl
  c20 := by kernel_rfl
  c21 := by kernel_rfl
  c37 := by kernel_rfl
  c46 := by kernel_rfl
  c51 := by kernel_rfl
  c53 := by kernel_rfl
  c75 := by kernel_rfl
  c76 := by kernel_rfl
  c80 := by kernel_rfl
  c85 := by kernel_rfl
  c127 := by kernel_rfl
  c143 := by kernel_rfl
  c145 := by kernel_rfl
  c167 := by kernel_rfl
  c168 := by kernel_rfl
  c171 := by kernel_rfl
  c173 := by kernel_rfl
  c175 := by kernel_rfl
  c210 := by kernel_rfl
  c212 := by kernel_rfl
  c213 := by kernel_rfl
  c232 := by kernel_rfl
  c233 := by kernel_rfl }
open Go.RowKit in
theorem Tryz.strconv_Atoi_ok (s : ByteArray) (hmax : s.size ≤ 9223372036854775806) (v : Int) (h : Lib.atoiAll s.data.toList = .ok v) (w : World) :
    Calls Tryz.prog 124 #[.string s] w fun e w' => e = .returned (.tuple #[.int .i64 v, .nilIface]) ∧ (w' = w ∨ ∃ t, w' = Lib.bytesWorld w 5 t) := Any.strconv_Atoi_ok Tryz.laysC172 s hmax v h w
open Go.RowKit in
theorem Tryz.strconv_Atoi_range (s : ByteArray) (hlim : s.size ≤ 281474976710656) (h : Lib.atoiAll s.data.toList = .range) (ev : Value) (w : World) (hv : w.cell? ⟨2, 0, none⟩ = some ev) (hev : ev = .nilIface ∨ ∃ te pe, ev = .iface te pe) :
    Calls Tryz.prog 124 #[.string s] w fun e w' => ∃ N, e = .returned (.tuple #[.int .i64 (Lib.atoiSat s.data.toList), .iface 248 (.pointer (some ⟨N, 0, none⟩))]) ∧ w.heap.size ≤ N ∧ w'.heap[N]? = some (.cells #[.string ⟨#[65, 116, 111, 105]⟩, .string s, ev] 265 (0, 0)) ∧ Below w.heap.size w w' := Any.strconv_Atoi_range Tryz.laysC172 s hlim h ev w hv hev
def Tryz.lays99_ren : Go.Shelf.Ren := ⟨fun | 99 => 117 | 206 => 177 | n => n, fun | 9 => 9 | 4 => 4 | 3 => 3 | n => n, fun | n => n⟩
theorem Tryz.lays99 : Go.Proofs.Lays.n99 Tryz.prog Tryz.lays99_ren := {
  mixed := by kernel_rfl
  f99 := Tryz.func117.trans (congrArg some (by kernel_rfl))
  f206 := Tryz.func177.trans (congrArg some (by kernel_rfl))
  t3 := Tryz.underlying3
  a3 := Tryz.isAgg3
  z3 := Tryz.sizeOf3
  v3 := Tryz.zeroValue3
  t4 := Tryz.underlying4
  a4 := Tryz.isAgg4
  z4 := Tryz.sizeOf4
  v4 := Tryz.zeroValue4
  t9 := Tryz.underlying9
  a9 := Tryz.isAgg9
  z9 := Tryz.sizeOf9
  v9 := Tryz.zeroValue9 }
open Go.RowKit Go.Lib in
theorem Tryz.strings_HasPrefix (s p : ByteArray) (w : World) :
    Calls Tryz.prog 117 #[.string s, .string p] w fun e w' => e = .returned (.bool (Lib.hasPrefix s.data.toList p.data.toList)) ∧ w' = w := Any.strings_HasPrefix Tryz.lays99 s p w

end Go.Proofs
end

section
/- Walks: passed, sign. -/
namespace Go.Proofs.YtjoiflokekebkaaGreatDoor
open Go.RowKit

theorem first_byte {u : ByteArray} (h : 0 < u.size) : ∃ r, u.data.toList = u[0] :: r := by
  have hl : u.data.toList.length = u.size := Array.length_toList
  cases e : u.data.toList with
  | nil => rw [e] at hl; simp at hl; omega
  | cons x r =>
    refine ⟨r, ?_⟩
    have h2 : u.data.toList[0]? = some u[0] := by rw [List.getElem?_eq_getElem (by omega)]; rfl
    rw [e] at h2
    simp at h2
    rw [h2]

theorem index_low (l : List UInt8) (c : UInt8) : -1 ≤ Lib.indexByte l c := by
  induction l with
  | nil => simp [Lib.indexByte]
  | cons d l ih =>
    simp only [Lib.indexByte]
    split
    · omega
    · split <;> omega
theorem index_mem (l : List UInt8) (c : UInt8) : 0 ≤ Lib.indexByte l c ↔ c ∈ l := by
  induction l with
  | nil => simp [Lib.indexByte]
  | cons b l ih =>
    have hlow := index_low l c
    simp only [Lib.indexByte]
    by_cases h : b = c
    · subst h; simp
    · have h1 : (b == c) = false := by simpa using h
      have h2 : ¬ c = b := fun e => h e.symm
      simp only [h1, List.mem_cons, h2, false_or, ← ih]
      by_cases h3 : Lib.indexByte l c = -1
      · simp [h3]
      · simp [h3]; omega
theorem empty_ne {u : ByteArray} (h : 0 < u.size) : u.toList.isEmpty = false := by
  obtain ⟨r, hr⟩ := first_byte h
  rw [ByteArray.toList_eq, hr]
  rfl
theorem indexByte_any (l : ByteArray) (c : UInt8) (W : World) : Calls Tryz.prog 120 #[.string l, .int .u8 c.toNat] W fun e W' => e = .returned (.int .i64 (Lib.indexByte l.data.toList c)) ∧ W' = W := by
  have := Tryz.strings_IndexByte l (c.toNat : Int) W
  rw [Int.toNat_natCast] at this
  have e : c.toNat.toUInt8 = c := UInt8.ofNat_toNat
  rw [e] at this
  exact this

theorem passed_any (u : ByteArray) (hs : u.size ≤ 1000000000000) (W : World) : Calls Tryz.prog 57 #[.string u] W fun e W' => e = .returned (.int .i64 (passedN u.data.toList)) ∧ W' = W := by
  have C1 := Lib.hid (Tryz.strings_HasPrefix u ⟨#[47, 47]⟩ W)
  go_enter Tryz.func57, Tryz.ntmps57
  go_wp2_with fail
  refine C1.out.mono ?_
  rintro e w1 ⟨rfl, rfl⟩
  clear C1
  cases hv : Lib.hasPrefix u.data.toList [47, 47]
  · by_cases h0 : u.size = 0
    · have hr : passedN u.data.toList = 0 := by
        have hl : u.data.toList.length = u.size := Array.length_toList
        have : u.data.toList = [] := List.length_eq_zero_iff.1 (by omega)
        rw [passedN, if_neg (by simp [hv]), this]
        rfl
      have hu : u = ⟨#[]⟩ := by
        have hl : u.data.size = 0 := h0
        cases u
        simp at hl
        simp [hl]
      have HRr := Lib.hid hr
      clear hr hv h0
      go_wp2
      go_ret
      exact ⟨by rw [HRr.out]; rfl, rfl⟩
    · have hu : 0 < u.size := by omega
      obtain ⟨r, hr0⟩ := first_byte hu
      have hne := empty_ne hu
      have C2 := Lib.hid (indexByte_any ⟨#[32, 9, 10]⟩ u[0] w1)
      have hm := index_mem [32, 9, 10] u[0]
      have hr : passedN u.data.toList = if (0 : Int) ≤ Lib.indexByte [32, 9, 10] u[0] then 1 else 0 := by
        rw [passedN, if_neg (by simp [hv]), hr0]
        by_cases h : u[0] ∈ [(32 : UInt8), 9, 10]
        · rw [if_pos (hm.2 h), if_pos (by simpa using h)]
        · rw [if_neg (fun q => h (hm.1 q)), if_neg (by simpa using h)]
      have HRr := Lib.hid hr
      clear hm hr hr0 hv
      go_wp2_with fail
      refine C2.out.mono ?_
      rintro e w2 ⟨rfl, rfl⟩
      clear C2
      have HR2 : Hid (passedN u.data.toList = if (0 : Int) ≤ Lib.indexByte (⟨#[32, 9, 10]⟩ : ByteArray).data.toList u[0] then 1 else 0) := HRr
      generalize Lib.indexByte (⟨#[32, 9, 10]⟩ : ByteArray).data.toList u[0] = x at *
      clear HRr
      by_cases hx : 0 ≤ x
      · go_wp2
        go_ret
        exact ⟨by rw [HR2.out, if_pos hx]; rfl, rfl⟩
      · go_wp2
        go_ret
        exact ⟨by rw [HR2.out, if_neg (by omega)]; rfl, rfl⟩
  · have hr : passedN u.data.toList = run notNl u.data.toList := by rw [passedN, if_pos hv]
    have HRr := Lib.hid hr
    have C2 := Lib.hid (length_nl u hs w1)
    clear hr
    go_wp2_with fail
    refine C2.out.mono ?_
    rintro e w2 ⟨rfl, rfl⟩
    go_wp2
    go_ret
    exact ⟨by rw [HRr.out]; rfl, rfl⟩

theorem two_0 (w : World) : (Instr.index 234 (.agg #[.string ⟨#[58, 58]⟩, .string ⟨#[61, 61]⟩, .string ⟨#[61, 62]⟩, .string ⟨#[45, 62]⟩]) (.int .i64 0)).run Tryz.prog w = .ok (.string ⟨#[58, 58]⟩) w := by kernel_rfl
theorem two_1 (w : World) : (Instr.index 234 (.agg #[.string ⟨#[58, 58]⟩, .string ⟨#[61, 61]⟩, .string ⟨#[61, 62]⟩, .string ⟨#[45, 62]⟩]) (.int .i64 1)).run Tryz.prog w = .ok (.string ⟨#[61, 61]⟩) w := by kernel_rfl
theorem two_2 (w : World) : (Instr.index 234 (.agg #[.string ⟨#[58, 58]⟩, .string ⟨#[61, 61]⟩, .string ⟨#[61, 62]⟩, .string ⟨#[45, 62]⟩]) (.int .i64 2)).run Tryz.prog w = .ok (.string ⟨#[61, 62]⟩) w := by kernel_rfl
theorem two_3 (w : World) : (Instr.index 234 (.agg #[.string ⟨#[58, 58]⟩, .string ⟨#[61, 61]⟩, .string ⟨#[61, 62]⟩, .string ⟨#[45, 62]⟩]) (.int .i64 3)).run Tryz.prog w = .ok (.string ⟨#[45, 62]⟩) w := by kernel_rfl
theorem sign_any (u : ByteArray) (hu : 0 < u.size) (W : World) : Calls Tryz.prog 125 #[.string u] W fun e W' => e = .returned (.int .i64 (signLen u.data.toList)) ∧ W' = W := by
  obtain ⟨r, hr0⟩ := first_byte hu
  have C0 := Lib.hid (fun p w => Tryz.strings_HasPrefix u p w)
  have HM : Hid ((0 : Int) ≤ Lib.indexByte oneSigns u[0] ↔ u[0] ∈ oneSigns) := Lib.hid (index_mem oneSigns u[0])
  have H0 := Lib.hid hr0
  clear hr0
  go_enter Tryz.func125, Tryz.ntmps125
  go_wp2_with fail
  go_loopw [6] (fun i wr => ∃ t : Nat, t ≤ 4 ∧ i = .int .i64 t ∧ Hid (∀ j p, j < t → twoSigns[j]? = some p → Lib.hasPrefix u.data.toList p = false) ∧ wr = W) (fun i _ => 4 - (intOf i).toNat)
  case atStart => exact ⟨0, by omega, rfl, Lib.hid (fun j _ hj => absurd hj (Nat.not_lt_zero _)), rfl⟩
  case round =>
    obtain ⟨t, ht, rfl, hno, rfl⟩ := hrel
    rcases (show t = 0 ∨ t = 1 ∨ t = 2 ∨ t = 3 ∨ t = 4 by omega) with rfl | rfl | rfl | rfl | rfl
    · have hidx := two_0
      by_cases hv : Lib.hasPrefix u.data.toList [58, 58] = true
      · have hr : signLen u.data.toList = 2 := by rw [signLen, if_pos (by simp [twoSigns, hv])]
        have HRr := Lib.hid hr
        clear hr
        go_wp2_with fail
        refine (C0.out ⟨#[58, 58]⟩ wr).mono ?_
        rintro e w2 ⟨rfl, rfl⟩
        rw [show Lib.hasPrefix u.data.toList (⟨#[58, 58]⟩ : ByteArray).data.toList = true from hv]
        go_wp2
        go_ret
        exact ⟨by rw [HRr.out]; rfl, rfl⟩
      · have hv2 : Lib.hasPrefix u.data.toList [58, 58] = false := by simpa using hv
        have HN : Hid (∀ j p, j < 1 → twoSigns[j]? = some p → Lib.hasPrefix u.data.toList p = false) := Lib.hid (fun j p hj hp => by
          by_cases e : j = 0
          · subst e; simp [twoSigns] at hp; subst hp; exact hv2
          · exact hno.out j p (by omega) hp)
        clear hv
        go_wp2_with fail
        refine (C0.out ⟨#[58, 58]⟩ wr).mono ?_
        rintro e w2 ⟨rfl, rfl⟩
        rw [show Lib.hasPrefix u.data.toList (⟨#[58, 58]⟩ : ByteArray).data.toList = false from hv2]
        go_wp2
        go_roundw
        case rel => exact ⟨1, by omega, rfl, HN, by trivial⟩
        case measure => simp [intOf]
    · have hidx := two_1
      by_cases hv : Lib.hasPrefix u.data.toList [61, 61] = true
      · have hr : signLen u.data.toList = 2 := by rw [signLen, if_pos (by simp [twoSigns, hv])]
        have HRr := Lib.hid hr
        clear hr
        go_wp2_with fail
        refine (C0.out ⟨#[61, 61]⟩ wr).mono ?_
        rintro e w2 ⟨rfl, rfl⟩
        rw [show Lib.hasPrefix u.data.toList (⟨#[61, 61]⟩ : ByteArray).data.toList = true from hv]
        go_wp2
        go_ret
        exact ⟨by rw [HRr.out]; rfl, rfl⟩
      · have hv2 : Lib.hasPrefix u.data.toList [61, 61] = false := by simpa using hv
        have HN : Hid (∀ j p, j < 2 → twoSigns[j]? = some p → Lib.hasPrefix u.data.toList p = false) := Lib.hid (fun j p hj hp => by
          by_cases e : j = 1
          · subst e; simp [twoSigns] at hp; subst hp; exact hv2
          · exact hno.out j p (by omega) hp)
        clear hv
        go_wp2_with fail
        refine (C0.out ⟨#[61, 61]⟩ wr).mono ?_
        rintro e w2 ⟨rfl, rfl⟩
        rw [show Lib.hasPrefix u.data.toList (⟨#[61, 61]⟩ : ByteArray).data.toList = false from hv2]
        go_wp2
        go_roundw
        case rel => exact ⟨2, by omega, rfl, HN, by trivial⟩
        case measure => simp [intOf]
    · have hidx := two_2
      by_cases hv : Lib.hasPrefix u.data.toList [61, 62] = true
      · have hr : signLen u.data.toList = 2 := by rw [signLen, if_pos (by simp [twoSigns, hv])]
        have HRr := Lib.hid hr
        clear hr
        go_wp2_with fail
        refine (C0.out ⟨#[61, 62]⟩ wr).mono ?_
        rintro e w2 ⟨rfl, rfl⟩
        rw [show Lib.hasPrefix u.data.toList (⟨#[61, 62]⟩ : ByteArray).data.toList = true from hv]
        go_wp2
        go_ret
        exact ⟨by rw [HRr.out]; rfl, rfl⟩
      · have hv2 : Lib.hasPrefix u.data.toList [61, 62] = false := by simpa using hv
        have HN : Hid (∀ j p, j < 3 → twoSigns[j]? = some p → Lib.hasPrefix u.data.toList p = false) := Lib.hid (fun j p hj hp => by
          by_cases e : j = 2
          · subst e; simp [twoSigns] at hp; subst hp; exact hv2
          · exact hno.out j p (by omega) hp)
        clear hv
        go_wp2_with fail
        refine (C0.out ⟨#[61, 62]⟩ wr).mono ?_
        rintro e w2 ⟨rfl, rfl⟩
        rw [show Lib.hasPrefix u.data.toList (⟨#[61, 62]⟩ : ByteArray).data.toList = false from hv2]
        go_wp2
        go_roundw
        case rel => exact ⟨3, by omega, rfl, HN, by trivial⟩
        case measure => simp [intOf]
    · have hidx := two_3
      by_cases hv : Lib.hasPrefix u.data.toList [45, 62] = true
      · have hr : signLen u.data.toList = 2 := by rw [signLen, if_pos (by simp [twoSigns, hv])]
        have HRr := Lib.hid hr
        clear hr
        go_wp2_with fail
        refine (C0.out ⟨#[45, 62]⟩ wr).mono ?_
        rintro e w2 ⟨rfl, rfl⟩
        rw [show Lib.hasPrefix u.data.toList (⟨#[45, 62]⟩ : ByteArray).data.toList = true from hv]
        go_wp2
        go_ret
        exact ⟨by rw [HRr.out]; rfl, rfl⟩
      · have hv2 : Lib.hasPrefix u.data.toList [45, 62] = false := by simpa using hv
        have HN : Hid (∀ j p, j < 4 → twoSigns[j]? = some p → Lib.hasPrefix u.data.toList p = false) := Lib.hid (fun j p hj hp => by
          by_cases e : j = 3
          · subst e; simp [twoSigns] at hp; subst hp; exact hv2
          · exact hno.out j p (by omega) hp)
        clear hv
        go_wp2_with fail
        refine (C0.out ⟨#[45, 62]⟩ wr).mono ?_
        rintro e w2 ⟨rfl, rfl⟩
        rw [show Lib.hasPrefix u.data.toList (⟨#[45, 62]⟩ : ByteArray).data.toList = false from hv2]
        go_wp2
        go_roundw
        case rel => exact ⟨4, by omega, rfl, HN, by trivial⟩
        case measure => simp [intOf]
    · have C2 := Lib.hid (indexByte_any ⟨#[123, 125, 40, 41, 44, 59, 58, 46, 42, 38, 61, 43, 45, 60]⟩ u[0] wr)
      have hr : signLen u.data.toList = if (0 : Int) ≤ Lib.indexByte oneSigns u[0] then 1 else 0 := by
        have hf : (twoSigns.any fun p => Lib.hasPrefix u.data.toList p) = false := by
          rw [List.any_eq_false]
          intro p hp
          obtain ⟨j, hj, rfl⟩ := List.getElem_of_mem hp
          rw [hno.out j _ (by simpa [twoSigns] using hj) (List.getElem?_eq_getElem hj)]
          simp
        rw [signLen, if_neg (by rw [hf]; simp), H0.out]
        by_cases h : u[0] ∈ oneSigns
        · rw [if_pos (HM.out.2 h), if_pos (by simpa using h)]
        · rw [if_neg (fun q => h (HM.out.1 q)), if_neg (by simpa using h)]
      have HR2 : Hid (signLen u.data.toList = if (0 : Int) ≤ Lib.indexByte (⟨#[123, 125, 40, 41, 44, 59, 58, 46, 42, 38, 61, 43, 45, 60]⟩ : ByteArray).data.toList u[0] then 1 else 0) := Lib.hid hr
      clear hr
      go_wp2_with fail
      refine C2.out.mono ?_
      rintro e w2 ⟨rfl, rfl⟩
      clear C2
      generalize Lib.indexByte (⟨#[123, 125, 40, 41, 44, 59, 58, 46, 42, 38, 61, 43, 45, 60]⟩ : ByteArray).data.toList u[0] = x at *
      by_cases hx : 0 ≤ x
      · go_wp2
        go_ret
        exact ⟨by rw [HR2.out, if_pos hx]; rfl, rfl⟩
      · go_wp2
        go_ret
        exact ⟨by rw [HR2.out, if_neg (by omega)]; rfl, rfl⟩
end Go.Proofs.YtjoiflokekebkaaGreatDoor
end

section
/- Blocks of the heap, and what is below. -/
namespace Go.Proofs.YtjoiflokekebkaaGreatDoor
open Go.RowKit

theorem blk_lt {w : World} {g : Nat} {o : Obj} (h : w.heap[g]? = some o) : g < w.heap.size := (Array.getElem?_eq_some_iff.1 h).1
theorem blk_cell {w : World} {g : Nat} {t : TypeId} {cs : Array Value} (h : w.heap[g]? = some (.cells cs t (0, 0))) (i : Nat) : w.cell? ⟨g, i, none⟩ = cs[i]? := cell_of_row w g i cs t (0, 0) h
theorem blk_frozen {w : World} {g : Nat} {t : TypeId} {cs : Array Value} (h : w.heap[g]? = some (.cells cs t (0, 0))) (i : Nat) : w.frozen? ⟨g, i, none⟩ = false := by simp [World.frozen?, h]
theorem blk_set {w : World} {g : Nat} {t : TypeId} {cs : Array Value} (h : w.heap[g]? = some (.cells cs t (0, 0))) (i : Nat) (u : Value) :
    (w.setCell ⟨g, i, none⟩ u).heap[g]? = some (.cells (cs.setIfInBounds i u) t (0, 0)) := by
  simp [World.setCell, Array.getElem?_modify, h]
theorem blk_far {w : World} {g : Nat} {o : Obj} (h : w.heap[g]? = some o) {p : Addr} (hp : g ≠ p.block) (u : Value) : (w.setCell p u).heap[g]? = some o :=
  (Below.heap_setCell w p u g hp).trans h
theorem blk_alloc {w : World} {g : Nat} {o : Obj} (h : w.heap[g]? = some o) (o' : Obj) : (w.alloc o').heap[g]? = some o := (Below.heap_alloc w o' g (blk_lt h)).trans h
theorem below_alloc {B : Nat} {w w' : World} (h : Below B w w') (o : Obj) (hB : B ≤ w'.heap.size) : Below B w (w'.alloc o) := h.alloc hB o
theorem Below.up {w w' : World} {B : Nat} (h : Below w.heap.size w w') (hB : B ≤ w.heap.size) : Below B w w' := h.mono hB
theorem bel_alloc {B : Nat} {w w' : World} (h : Below B w w') (hw : B ≤ w.heap.size) (o : Obj) : Below B w (w'.alloc o) := h.alloc (Nat.le_trans hw h.size) o
theorem bel_drewN {B : Nat} {w w' : World} (h : Below B w w') (n : Nat) : Below B w (w'.drewN n) := ⟨h.os, h.tape, h.output, h.size, h.block⟩
theorem bel_drew {B : Nat} {w w' : World} (h : Below B w w') : Below B w w'.drew := ⟨h.os, h.tape, h.output, h.size, h.block⟩
theorem bel_set {B : Nat} {w w' : World} (h : Below B w w') {p : Addr} (hp : B ≤ p.block) (u : Value) : Below B w (w'.setCell p u) := h.setCell hp u

/-- A block of cells, whole. -/
def Bx (t : TypeId) (w : World) (x : Nat) (cs : Array Value) : Prop := w.heap[x]? = some (.cells cs t (0, 0))
section
variable {t : TypeId} {w w' : World} {x : Nat} {cs : Array Value}
theorem Bx.newAt (h : x = w.heap.size) : Bx t (w.alloc (.cells cs t)) x cs := by subst h; exact heap_alloc_new w _
theorem Bx.alloc (h : Bx t w x cs) (o : Obj) : Bx t (w.alloc o) x cs := blk_alloc h o
theorem Bx.drew (h : Bx t w x cs) : Bx t w.drew x cs := h
theorem Bx.drewN (h : Bx t w x cs) (n : Nat) : Bx t (w.drewN n) x cs := h
theorem Bx.below (h : Bx t w x cs) (hb : Below w.heap.size w w') : Bx t w' x cs := (hb.block _ (blk_lt h)).trans h
theorem Bx.see (h : Bx t w x cs) : x < w.heap.size ∧ (∀ i, w.cell? ⟨x, i, none⟩ = cs[i]?) ∧ (∀ i, w.frozen? ⟨x, i, none⟩ = false) := ⟨blk_lt h, fun i => blk_cell h i, fun i => blk_frozen h i⟩
end

/-! Rows of the call's own. -/
theorem row_lt {w : World} {base : Nat} {e : TypeId} {size n : Nat} {v : Value} {xs : List Value} (h : w.ownsRow base e size v n xs) (k : Nat) (hk : v.ownBlock = some k) : base ≤ k ∧ ∃ cells, w.heap[k]? = some (.cells cells e (0, 0)) := by
  obtain ⟨_, ⟨rfl, _⟩ | ⟨g, cap, cur, hv, hb, hh, _⟩⟩ := h
  · simp [Value.ownBlock] at hk
  · rw [hv] at hk
    simp [Value.ownBlock] at hk
    exact hk ▸ ⟨hb, _, hh⟩
theorem row_move {w w1 : World} {base : Nat} {e : TypeId} {size n : Nat} {v : Value} {xs : List Value} (h : w.ownsRow base e size v n xs) (hm : ∀ k, v.ownBlock = some k → w1.heap[k]? = w.heap[k]?) : w1.ownsRow base e size v n xs := by
  obtain ⟨h1, h2⟩ := h
  refine ⟨h1, ?_⟩
  rcases h2 with h2 | ⟨g, cap, cur, hv, hg, hh, r⟩
  · exact .inl h2
  · exact .inr ⟨g, cap, cur, hv, hg, (hm g (by rw [hv]; rfl)).trans hh, r⟩
theorem row_below {w w1 : World} {base : Nat} {e : TypeId} {size n : Nat} {v : Value} {xs : List Value} (h : w.ownsRow base e size v n xs) (hb : Below w.heap.size w w1) : w1.ownsRow base e size v n xs :=
  row_move h (fun k hk => hb.block k (blk_lt (row_lt h k hk).2.choose_spec))
theorem row_slice {w : World} {base : Nat} {e : TypeId} {size n : Nat} {v : Value} {xs : List Value} (h : w.ownsRow base e size v n xs) : ∃ A c, v = .slice A n c := by
  obtain ⟨_, ⟨rfl, rfl⟩ | ⟨g, cap, cur, hv, _⟩⟩ := h
  · exact ⟨_, _, rfl⟩
  · exact ⟨_, _, hv⟩
theorem row_at {w : World} {base : Nat} {e : TypeId} {size n : Nat} {A : Option Addr} {c : Nat} {xs : List Value} (h : w.ownsRow base e size (.slice A n c) n xs) (h0 : 0 < n) :
    ∃ g, A = some ⟨g, 0, none⟩ ∧ base ≤ g ∧ g < w.heap.size ∧ (∀ i, w.frozen? ⟨g, i, none⟩ = false) ∧ ∀ j u, xs[j]? = some u → w.cell? ⟨g, j, none⟩ = some u := by
  obtain ⟨hl, ⟨_, rfl⟩ | ⟨g, cap, cur, hv, hb, hh, _, _, _, ht⟩⟩ := h
  · omega
  · injection hv with hv
    refine ⟨g, hv, hb, blk_lt hh, fun i => blk_frozen hh i, fun j u hj => ?_⟩
    rw [blk_cell hh, ← Array.getElem?_toList]
    rw [← ht] at hj
    rw [List.getElem?_take] at hj
    split at hj
    · exact hj
    · cases hj
theorem row_base {w : World} {base base' : Nat} {e : TypeId} {size n : Nat} {v : Value} {xs : List Value} (h : w.ownsRow base e size v n xs) (hb : base' ≤ base) : w.ownsRow base' e size v n xs := by
  obtain ⟨h1, h2⟩ := h
  refine ⟨h1, ?_⟩
  rcases h2 with h2 | ⟨g, cap, cur, hv, hg, r⟩
  · exact .inl h2
  · exact .inr ⟨g, cap, cur, hv, Nat.le_trans hb hg, r⟩
theorem cell_row {w : World} {m : Nat} (hm : m = w.heap.size) (cs : List Value) (t : TypeId) : ∀ j u, cs[j]? = some u → (w.alloc (.cells cs.toArray t)).cell? ((⟨m, 0, none⟩ : Addr).add j) = some u := by
  subst hm
  intro j u hj
  have e : (⟨w.heap.size, 0, none⟩ : Addr).add j = ⟨w.heap.size, j, none⟩ := by unfold Addr.add; split <;> simp_all
  rw [e, blk_cell (heap_alloc_new w (.cells cs.toArray t))]
  simpa using hj
end Go.Proofs.YtjoiflokekebkaaGreatDoor
end

section
/- Walks: next. -/
namespace Go.Proofs.YtjoiflokekebkaaGreatDoor
open Go.RowKit

theorem w1_alloc {w W : World} (h : Below w.heap.size w W) (o : Obj) : Below w.heap.size w (W.alloc o) := h.alloc h.size o
theorem w1_drewN {w W : World} (h : Below w.heap.size w W) (n : Nat) : Below w.heap.size w (W.drewN n) := ⟨h.os, h.tape, h.output, h.size, h.block⟩
theorem w1_set {w W : World} (h : Below w.heap.size w W) {p : Addr} (hp : w.heap.size ≤ p.block) (u : Value) : Below w.heap.size w (W.setCell p u) := h.setCell hp u

/-- The variable strconv.ErrRange holds some value of an interface's type. -/
def HasErr (W : World) : Prop := ∃ ev, W.cell? ⟨2, 0, none⟩ = some ev ∧ (ev = .nilIface ∨ ∃ te pe, ev = .iface te pe)
theorem HasErr.lt {W : World} (h : HasErr W) : 2 < W.heap.size := by
  obtain ⟨ev, h, _⟩ := h
  exact World.block_lt_of_cell? W ⟨2, 0, none⟩ h
theorem HasErr.below {W W' : World} (h : HasErr W) (hb : Below W.heap.size W W') : HasErr W' := by
  have := h.lt
  obtain ⟨ev, h1, h2⟩ := h
  exact ⟨ev, (hb.cell (p := ⟨2, 0, none⟩) this).trans h1, h2⟩

theorem atoi_ok (s : ByteArray) (hs : s.size ≤ 1000000000000) (v : Int) (h : Lib.atoiAll s.data.toList = .ok v) (w : World) :
    Calls Tryz.prog 124 #[.string s] w fun e w' => e = .returned (.tuple #[.int .i64 v, .nilIface]) ∧ Below w.heap.size w w' :=
  (Tryz.strconv_Atoi_ok s (by omega) v h w).mono fun e w' q => ⟨q.1, by
    rcases q.2 with rfl | ⟨t, rfl⟩
    · exact Below.refl _ _
    · exact Lib.bytesWorld_below _ _ _⟩
theorem atoi_range (s : ByteArray) (hs : s.size ≤ 1000000000000) (h : Lib.atoiAll s.data.toList = .range) (w : World) (hv : HasErr w) :
    Calls Tryz.prog 124 #[.string s] w fun e w' => (∃ n N, e = .returned (.tuple #[.int .i64 n, .iface 248 (.pointer (some ⟨N, 0, none⟩))])) ∧ Below w.heap.size w w' := by
  obtain ⟨ev, h1, h2⟩ := hv
  exact (Tryz.strconv_Atoi_range s (by omega) h ev w h1 h2).mono fun e w' ⟨N, q1, _, _, q2⟩ => ⟨⟨_, N, q1⟩, q2⟩

def pcV (u : ByteArray) : Pc → Value
  | .tok k n v => .tuple #[.agg #[.int .i64 k, .string (u.extract 0 n), .int .i64 v, .int .i64 0], .int .i64 0]
  | .bad e => .tuple #[.agg #[.int .i64 0, .string ⟨#[]⟩, .int .i64 0, .int .i64 0], .int .i64 e]
  | .skip _ => .tuple #[]
def nextV (u : ByteArray) : Value := pcV u (nextP u.data.toList)

theorem ext_list (u : ByteArray) (n : Nat) : (u.extract 0 n).data.toList = u.data.toList.take n := by simp

set_option maxHeartbeats 1000000 in
theorem next_any (u : ByteArray) (hu : 0 < u.size) (hs : u.size ≤ 1000000) (W : World) (hv : HasErr W) : Calls Tryz.prog 58 #[.string u] W fun e W' => e = .returned (nextV u) ∧ Below W.heap.size W W' := by
  obtain ⟨r, hr0⟩ := first_byte hu
  have H0 := Lib.hid hr0
  have HV := Lib.hid hv
  clear hr0 hv
  go_enter Tryz.func58, Tryz.ntmps58
  go_wp2_with fail
  refine (letter_any u[0] _).mono ?_
  rintro e w1 ⟨rfl, rfl⟩
  cases hl : isL u[0]
  · go_wp2_with fail
    refine (digit_any u[0] _).mono ?_
    rintro e w2 ⟨rfl, rfl⟩
    cases hd : isD u[0]
    · go_wp2_with fail
      refine (sign_any u hu _).mono ?_
      rintro e w3 ⟨rfl, rfl⟩
      have hp : nextP u.data.toList = if signLen u.data.toList = 0 then .bad 40 else .tok 3 (signLen u.data.toList) 0 := by
        rw [H0.out, nextP]
        simp [hl, hd]
      have hle := signLen_le u.data.toList
      have hsz : u.data.toList.length = u.size := Array.length_toList
      rw [hsz] at hle
      have HB := Lib.hid (Below.refl W.heap.size W)
      generalize signLen u.data.toList = n at *
      clear hsz
      by_cases hn : n = 0
      · subst hn
        have HRr : Hid (nextV u = pcV u (.bad 40)) := Lib.hid (by rw [nextV, hp]; rfl)
        clear hp
        go_wp2
        exact bodyPost_ret (v := .tuple #[.agg #[.int .i64 0, .string ⟨#[]⟩, .int .i64 0, .int .i64 0], .int .i64 40]) (by (simp only [results, Tryz.results58]); go_simp) rfl ⟨by rw [HRr.out]; rfl, by repeat (first | exact HB.out | exact Below.refl _ _ | (refine w1_set ?_ (by simp) _) | apply w1_alloc | apply w1_drewN)⟩
      · have hn2 : ((n : Int) == 0) = false := by simpa using hn
        have HRr : Hid (nextV u = pcV u (.tok 3 n 0)) := Lib.hid (by rw [nextV, hp, if_neg hn])
        clear hp
        have hn3 : (0 : Int) ≤ (n : Int) := by omega
        have hn4 : (n : Int) ≤ (u.size : Int) := by omega
        go_wp2
        exact bodyPost_ret (v := .tuple #[.agg #[.int .i64 3, .string (u.extract 0 n), .int .i64 0, .int .i64 0], .int .i64 0]) (by (simp only [results, Tryz.results58]); go_simp) rfl ⟨by rw [HRr.out]; rfl, by repeat (first | exact HB.out | exact Below.refl _ _ | (refine w1_set ?_ (by simp) _) | apply w1_alloc | apply w1_drewN)⟩
    · have hpos : 0 < run isD u.data.toList := by rw [H0.out]; exact run_pos hd
      have hle := run_le isD u.data.toList
      have hsz : u.data.toList.length = u.size := Array.length_toList
      rw [hsz] at hle
      have hall : ∀ c ∈ u.data.toList.take (run isD u.data.toList), isD c = true := run_all
      have hp : nextP u.data.toList = if 9223372036854775807 < value (u.data.toList.take (run isD u.data.toList)) then .bad 41 else .tok 2 (run isD u.data.toList) (value (u.data.toList.take (run isD u.data.toList))) := by
        generalize hn : run isD u.data.toList = n
        rw [H0.out] at hn ⊢
        rw [nextP]
        simp only [hl, hd, hn]
        rfl
      have hne : u.data.toList.take (run isD u.data.toList) ≠ [] := by
        intro e
        have := congrArg List.length e
        rw [List.length_take, List.length_nil, hsz] at this
        omega
      have hat := atoi_digits hall hne
      have C1 := Lib.hid (length_digit u (by omega))
      have HB := Lib.hid (Below.refl W.heap.size W)
      have hex := ext_list u (run isD u.data.toList)
      rw [← hex] at hat hp
      clear hall hne hsz hpos
      generalize run isD u.data.toList = n at *
      go_wp2_with fail
      refine (C1.out _).mono ?_
      rintro e w3 ⟨rfl, rfl⟩
      have hn3 : (0 : Int) ≤ (n : Int) := by omega
      have hn4 : (n : Int) ≤ (u.size : Int) := by omega
      have hts : (u.extract 0 n).size ≤ 1000000000000 := by simp; omega
      by_cases hv : 9223372036854775807 < value (u.extract 0 n).data.toList
      · have HRr : Hid (nextV u = pcV u (.bad 41)) := Lib.hid (by rw [nextV, hp, if_pos hv])
        rw [if_pos hv] at hat
        have C2 := Lib.hid (fun w h => atoi_range (u.extract 0 n) hts hat w h)
        clear hp hat hex hv C1
        go_wp2_with fail
        refine (C2.out _ (HV.out.below (by repeat (first | exact Below.refl _ _ | apply w1_alloc | apply w1_drewN)))).mono ?_
        rintro e w4 ⟨⟨m, N, rfl⟩, b4⟩
        have HB4 := Lib.hid (Below.trans (by repeat (first | exact Below.refl _ _ | apply w1_alloc | apply w1_drewN)) (b4.mono (by simp)) : Below W.heap.size W w4)
        have P4 := Lib.hid (Bx.below (Bx.newAt (t := 73) (w := W) (x := W.heap.size) (cs := #[.int .i64 0, .string ⟨#[]⟩, .int .i64 0, .int .i64 0]) rfl) b4)
        obtain ⟨lp, hp4, fp⟩ := P4.out.see
        clear b4
        go_wp2
        exact bodyPost_ret (v := .tuple #[.agg #[.int .i64 0, .string ⟨#[]⟩, .int .i64 0, .int .i64 0], .int .i64 41]) (by (simp only [results, Tryz.results58]); go_simp) rfl ⟨by rw [HRr.out]; rfl, by repeat (first | exact HB4.out | exact Below.refl _ _ | (refine w1_set ?_ (by simp) _) | apply w1_alloc | apply w1_drewN)⟩
      · have HRr : Hid (nextV u = pcV u (.tok 2 n (value (u.extract 0 n).data.toList))) := Lib.hid (by rw [nextV, hp, if_neg hv])
        rw [if_neg hv] at hat
        have C2 := Lib.hid (fun w => atoi_ok (u.extract 0 n) hts _ hat w)
        clear hp hat hex hv C1
        generalize (value (u.extract 0 n).data.toList : Int) = vv at *
        go_wp2_with fail
        refine (C2.out _).mono ?_
        rintro e w4 ⟨rfl, b4⟩
        have HB4 := Lib.hid (Below.trans (by repeat (first | exact Below.refl _ _ | apply w1_alloc | apply w1_drewN)) (b4.mono (by simp)) : Below W.heap.size W w4)
        have P4 := Lib.hid (Bx.below (Bx.newAt (t := 73) (w := W) (x := W.heap.size) (cs := #[.int .i64 0, .string ⟨#[]⟩, .int .i64 0, .int .i64 0]) rfl) b4)
        obtain ⟨lp, hp4, fp⟩ := P4.out.see
        clear b4
        go_wp2
        exact bodyPost_ret (v := .tuple #[.agg #[.int .i64 2, .string (u.extract 0 n), .int .i64 vv, .int .i64 0], .int .i64 0]) (by (simp only [results, Tryz.results58]); go_simp) rfl ⟨by rw [HRr.out]; rfl, by repeat (first | exact HB4.out | exact Below.refl _ _ | (refine w1_set ?_ (by simp) _) | apply w1_alloc | apply w1_drewN)⟩
  · have hle := run_le isI u.data.toList
    have hsz : u.data.toList.length = u.size := Array.length_toList
    rw [hsz] at hle
    have hp : nextP u.data.toList = if 24 < run isI u.data.toList then .bad 42 else .tok 1 (run isI u.data.toList) 0 := by
      generalize hn : run isI u.data.toList = n
      rw [H0.out] at hn ⊢
      rw [nextP]
      simp only [hl, hn]
      rfl
    have C1 := Lib.hid (length_inner u (by omega))
    have HB := Lib.hid (Below.refl W.heap.size W)
    clear hsz
    generalize run isI u.data.toList = n at *
    go_wp2_with fail
    refine (C1.out _).mono ?_
    rintro e w3 ⟨rfl, rfl⟩
    have hn3 : (0 : Int) ≤ (n : Int) := by omega
    have hn4 : (n : Int) ≤ (u.size : Int) := by omega
    by_cases hv : 24 < n
    · have HRr : Hid (nextV u = pcV u (.bad 42)) := Lib.hid (by rw [nextV, hp, if_pos hv])
      clear hp C1
      go_wp2
      exact bodyPost_ret (v := .tuple #[.agg #[.int .i64 0, .string ⟨#[]⟩, .int .i64 0, .int .i64 0], .int .i64 42]) (by (simp only [results, Tryz.results58]); go_simp) rfl ⟨by rw [HRr.out]; rfl, by repeat (first | exact HB.out | exact Below.refl _ _ | (refine w1_set ?_ (by simp) _) | apply w1_alloc | apply w1_drewN)⟩
    · have HRr : Hid (nextV u = pcV u (.tok 1 n 0)) := Lib.hid (by rw [nextV, hp, if_neg hv])
      clear hp C1
      go_wp2
      exact bodyPost_ret (v := .tuple #[.agg #[.int .i64 1, .string (u.extract 0 n), .int .i64 0, .int .i64 0], .int .i64 0]) (by (simp only [results, Tryz.results58]); go_simp) rfl ⟨by rw [HRr.out]; rfl, by repeat (first | exact HB.out | exact Below.refl _ _ | (refine w1_set ?_ (by simp) _) | apply w1_alloc | apply w1_drewN)⟩

/-- A text is one name. -/
def wordB (l : List UInt8) : Bool := decide (0 < l.length) && decide (l.length ≤ 24) && l.head?.any isL && decide (run isI l = l.length)
theorem word_any (u : ByteArray) (hs : u.size ≤ 9000000000000000000) (W : World) : Calls Tryz.prog 226 #[.string u] W fun e W' => e = .returned (.bool (wordB u.data.toList)) ∧ W' = W := by
  have hsz : u.data.toList.length = u.size := Array.length_toList
  go_enter Tryz.func226, Tryz.ntmps226
  by_cases h0 : u.size = 0
  · have hu : u = ⟨#[]⟩ := by
      have hl : u.data.size = 0 := h0
      cases u
      simp at hl
      simp [hl]
    subst hu
    go_wp2
    go_ret
    exact ⟨rfl, rfl⟩
  · have hu : 0 < u.size := by omega
    obtain ⟨r, hr0⟩ := first_byte hu
    have hne := empty_ne hu
    have H0 := Lib.hid hr0
    clear hr0
    by_cases h24 : u.size ≤ 24
    · go_wp2_with fail
      refine (letter_any u[0] _).mono ?_
      rintro e w2 ⟨rfl, rfl⟩
      cases hl : isL u[0]
      · have HRr : Hid (wordB u.data.toList = false) := Lib.hid (by rw [wordB, H0.out]; simp [hl])
        go_wp2
        go_ret
        exact ⟨by rw [HRr.out]; rfl, rfl⟩
      · go_wp2_with fail
        refine (length_inner u (by omega) _).mono ?_
        rintro e w3 ⟨rfl, rfl⟩
        have HRr : Hid (wordB u.data.toList = decide (run isI u.data.toList = u.size)) := Lib.hid (by
          rw [wordB, hsz]
          have : u.data.toList.head?.any isL = true := by rw [H0.out]; simpa using hl
          rw [this]
          simp [hu, h24])
        generalize run isI u.data.toList = n at *
        clear hsz
        by_cases hn : n = u.size
        · have hb : ((n : Int) == (u.size : Int)) = true := by simp [hn]
          have HN := Lib.hid hn
          clear hn
          go_wp2
          go_ret
          exact ⟨by rw [HRr.out, decide_eq_true HN.out]; rfl, rfl⟩
        · have hb : ((n : Int) == (u.size : Int)) = false := by simp; omega
          have HN := Lib.hid hn
          clear hn
          go_wp2
          go_ret
          exact ⟨by rw [HRr.out, decide_eq_false HN.out]; rfl, rfl⟩
    · have hr : wordB u.data.toList = false := by rw [wordB, hsz]; simp; omega
      have HRr := Lib.hid hr
      clear hr
      go_wp2
      go_ret
      exact ⟨by rw [HRr.out]; rfl, rfl⟩

def upperB (l : List UInt8) : Bool := wordB l && l.head?.any (fun c => decide (c.toNat ≤ 90))
theorem wordB_pos {u : ByteArray} (h : wordB u.data.toList = true) : 0 < u.size ∧ u.size ≤ 24 := by
  have hsz : u.data.toList.length = u.size := Array.length_toList
  simp only [wordB, Bool.and_eq_true, decide_eq_true_eq] at h
  omega
theorem upper_any (u : ByteArray) (hs : u.size ≤ 9000000000000000000) (W : World) : Calls Tryz.prog 213 #[.string u] W fun e W' => e = .returned (.bool (upperB u.data.toList)) ∧ W' = W := by
  have C1 := Lib.hid (word_any u hs W)
  go_enter Tryz.func213, Tryz.ntmps213
  go_wp2_with fail
  refine C1.out.mono ?_
  rintro e w1 ⟨rfl, rfl⟩
  cases hw : wordB u.data.toList
  · have HRr : Hid (upperB u.data.toList = false) := Lib.hid (by rw [upperB, hw]; rfl)
    go_wp2
    go_ret
    exact ⟨by rw [HRr.out]; rfl, rfl⟩
  · obtain ⟨hu, h24⟩ := wordB_pos hw
    obtain ⟨r, hr0⟩ := first_byte hu
    have HRr : Hid (upperB u.data.toList = decide (u[0].toNat ≤ 90)) := Lib.hid (by rw [upperB, hw, hr0]; simp)
    clear hr0 hw C1
    by_cases hz : u[0].toNat ≤ 90
    · go_wp2
      go_ret
      exact ⟨by rw [HRr.out, decide_eq_true hz]; simp; omega, rfl⟩
    · go_wp2
      go_ret
      exact ⟨by rw [HRr.out, decide_eq_false hz]; simp; omega, rfl⟩

def resW : List ByteArray := [⟨#[115, 116, 114, 117, 99, 116]⟩, ⟨#[101, 110, 117, 109]⟩, ⟨#[99, 111]⟩, ⟨#[108, 101, 116]⟩, ⟨#[105, 102]⟩, ⟨#[101, 108, 115, 101]⟩, ⟨#[119, 104, 105, 108, 101]⟩, ⟨#[109, 97, 116, 99, 104]⟩, ⟨#[121, 105, 101, 108, 100]⟩, ⟨#[114, 101, 116, 117, 114, 110]⟩, ⟨#[112, 114, 105, 110, 116]⟩, ⟨#[100, 114, 111, 112]⟩, ⟨#[98, 111, 120]⟩, ⟨#[117, 110, 98, 111, 120]⟩, ⟨#[115, 116, 97, 114, 116]⟩, ⟨#[97, 119, 97, 105, 116]⟩, ⟨#[112, 111, 108, 108]⟩, ⟨#[119, 97, 105, 116]⟩, ⟨#[109, 117, 116]⟩, ⟨#[105, 110, 116]⟩]
theorem res_idx : ∀ (t : Nat), t < 20 → ∀ w : World, (Instr.index 268 (.agg #[.string ⟨#[115, 116, 114, 117, 99, 116]⟩, .string ⟨#[101, 110, 117, 109]⟩, .string ⟨#[99, 111]⟩, .string ⟨#[108, 101, 116]⟩, .string ⟨#[105, 102]⟩, .string ⟨#[101, 108, 115, 101]⟩, .string ⟨#[119, 104, 105, 108, 101]⟩, .string ⟨#[109, 97, 116, 99, 104]⟩, .string ⟨#[121, 105, 101, 108, 100]⟩, .string ⟨#[114, 101, 116, 117, 114, 110]⟩, .string ⟨#[112, 114, 105, 110, 116]⟩, .string ⟨#[100, 114, 111, 112]⟩, .string ⟨#[98, 111, 120]⟩, .string ⟨#[117, 110, 98, 111, 120]⟩, .string ⟨#[115, 116, 97, 114, 116]⟩, .string ⟨#[97, 119, 97, 105, 116]⟩, .string ⟨#[112, 111, 108, 108]⟩, .string ⟨#[119, 97, 105, 116]⟩, .string ⟨#[109, 117, 116]⟩, .string ⟨#[105, 110, 116]⟩]) (.int .i64 (t : Int))).run Tryz.prog w = .ok (.string (resW.getD t ⟨#[]⟩)) w
  | 0, _, w => by kernel_rfl
  | 1, _, w => by kernel_rfl
  | 2, _, w => by kernel_rfl
  | 3, _, w => by kernel_rfl
  | 4, _, w => by kernel_rfl
  | 5, _, w => by kernel_rfl
  | 6, _, w => by kernel_rfl
  | 7, _, w => by kernel_rfl
  | 8, _, w => by kernel_rfl
  | 9, _, w => by kernel_rfl
  | 10, _, w => by kernel_rfl
  | 11, _, w => by kernel_rfl
  | 12, _, w => by kernel_rfl
  | 13, _, w => by kernel_rfl
  | 14, _, w => by kernel_rfl
  | 15, _, w => by kernel_rfl
  | 16, _, w => by kernel_rfl
  | 17, _, w => by kernel_rfl
  | 18, _, w => by kernel_rfl
  | 19, _, w => by kernel_rfl
  | n + 20, h, _ => absurd h (by omega)
def resB (u : ByteArray) : Bool := resW.any (fun w => u.toList == w.toList)
theorem reserved_any (u : ByteArray) (W : World) : Calls Tryz.prog 212 #[.string u] W fun e W' => e = .returned (.bool (resB u)) ∧ W' = W := by
  go_enter Tryz.func212, Tryz.ntmps212
  go_wp2_with fail
  go_loopw [6] (fun i wr => ∃ t : Nat, t ≤ 20 ∧ i = .int .i64 t ∧ Hid (∀ j, j < t → (u.toList == (resW.getD j ⟨#[]⟩).toList) = false) ∧ wr = W) (fun i _ => 20 - (intOf i).toNat)
  case atStart => exact ⟨0, by omega, rfl, Lib.hid (fun j hj => absurd hj (Nat.not_lt_zero _)), rfl⟩
  case round =>
    obtain ⟨t, ht, rfl, hno, rfl⟩ := hrel
    by_cases hlt : t < 20
    · have hidx := res_idx t hlt
      have HT := Lib.hid (show resW.getD t ⟨#[]⟩ ∈ resW by
        rw [List.getD_eq_getElem?_getD, List.getElem?_eq_getElem (by simpa [resW] using hlt)]
        exact List.getElem_mem _)
      generalize hx : resW.getD t ⟨#[]⟩ = x at *
      have HXx := Lib.hid hx
      clear hx
      have hti : (t : Int) < 20 := by omega
      cases hv : u.toList == x.toList
      · have HN : Hid (∀ j, j < t + 1 → (u.toList == (resW.getD j ⟨#[]⟩).toList) = false) := Lib.hid (fun j hj => by
          by_cases e : j = t
          · subst e; rw [HXx.out]; exact hv
          · exact hno.out j (by omega))
        go_wp2
        go_roundw
        case rel => exact ⟨t + 1, by omega, by go_num, HN, by trivial⟩
        case measure => simp [intOf]; omega
      · have HRr : Hid (resB u = true) := Lib.hid (by rw [resB, List.any_eq_true]; exact ⟨x, HT.out, hv⟩)
        go_wp2
        go_ret
        exact ⟨by rw [HRr.out]; rfl, rfl⟩
    · obtain rfl : t = 20 := by omega
      have HRr : Hid (resB u = false) := Lib.hid (by
        rw [resB, List.any_eq_false]
        intro x hx
        obtain ⟨j, hj, rfl⟩ := List.getElem_of_mem hx
        have := hno.out j (by simpa [resW] using hj)
        rw [List.getD_eq_getElem?_getD, List.getElem?_eq_getElem hj] at this
        simpa using this)
      go_wp2
      go_ret
      exact ⟨by rw [HRr.out]; rfl, rfl⟩
end Go.Proofs.YtjoiflokekebkaaGreatDoor
end

section
/- Walks: the program's Lex. -/
namespace Go.Proofs.YtjoiflokekebkaaGreatDoor
open Go.RowKit

def tcells (l : List Tk) : List Value := l.flatMap fun x => [.int .i64 x.k, .string x.s, .int .i64 x.n, .int .i64 x.at_]
theorem tcells_length (l : List Tk) : (tcells l).length = l.length * 4 := by
  induction l with
  | nil => rfl
  | cons x l ih => simp [tcells] at ih ⊢; omega
theorem tcells_append (a b : List Tk) : tcells (a ++ b) = tcells a ++ tcells b := by simp [tcells]
theorem tcells_at (l : List Tk) (i : Nat) (x : Tk) (h : l[i]? = some x) :
    (tcells l)[i * 4]? = some (.int .i64 x.k) ∧ (tcells l)[i * 4 + 1]? = some (.string x.s) ∧ (tcells l)[i * 4 + 2]? = some (.int .i64 x.n) ∧ (tcells l)[i * 4 + 3]? = some (.int .i64 x.at_) := by
  induction l generalizing i with
  | nil => simp at h
  | cons y l ih =>
    cases i with
    | zero => simp at h; subst h; simp [tcells]
    | succ i =>
      have := ih i (by simpa using h)
      have e : (i + 1) * 4 = i * 4 + 4 := by omega
      simpa [tcells, e] using this

theorem Tryz.infoTok : (Tryz.prog.info? 73).map (fun i => (i.zero, i.size, i.bytes)) = some (some (.agg #[.int .i64 0, .string ⟨#[]⟩, .int .i64 0, .int .i64 0]), 4, 40) := by kernel_rfl
theorem info_parts {t : TypeId} {z : Value} {s b : Nat} (h : (Tryz.prog.info? t).map (fun i => (i.zero, i.size, i.bytes)) = some (some z, s, b)) : ∃ i, Tryz.prog.info? t = some i ∧ i.zero = some z ∧ i.size = s ∧ i.bytes = b := by
  cases hi : Tryz.prog.info? t with
  | none => rw [hi] at h; cases h
  | some i =>
    rw [hi] at h
    simp at h
    exact ⟨i, rfl, h.1, h.2.1, h.2.2⟩

theorem next_noskip (l : List UInt8) (n : Nat) : nextP l ≠ .skip n := by
  unfold nextP
  split
  · simp
  · split
    · split <;> simp
    · split
      · split <;> simp
      · split <;> simp

theorem drop_ext (s : ByteArray) (a : Nat) : (s.extract a s.size).data.toList = s.data.toList.drop a := by
  have hsz : s.data.toList.length = s.size := Array.length_toList
  simp
  rw [List.take_of_length_le (by rw [List.length_drop]; omega)]
theorem bytes_eq {a b : ByteArray} (h : a.data.toList = b.data.toList) : a = b := by
  cases a; cases b
  exact congrArg ByteArray.mk (Array.toList_inj.1 h)
theorem ext_ext (s : ByteArray) (a n : Nat) (h : a + n ≤ s.size) : (s.extract a s.size).extract 0 n = s.extract a (a + n) := by
  apply bytes_eq
  simp [List.take_take]
  omega

/-- What a round of Lex keeps. -/
structure Lx (W wr : World) (s : ByteArray) (a : Nat) (ts : List Tk) (lv : Value) : Prop where
  row : wr.ownsRow W.heap.size 73 4 lv ts.length (tcells ts)
  all : lexFrom s 0 = (lexFrom s a).map (fun l => ts ++ l)
  few : ts.length ≤ a
  old : Below W.heap.size W wr

section
variable {W wr w' : World} {s : ByteArray} {a : Nat} {ts : List Tk} {lv : Value}
theorem Lx.below (h : Lx W wr s a ts lv) (hb : Below wr.heap.size wr w') : Lx W w' s a ts lv := ⟨row_below h.row hb, h.all, h.few, h.old.trans (hb.mono h.old.size)⟩
theorem Lx.skip (h : Lx W wr s a ts lv) {n : Nat} (ha : a < s.size) (hp : piece (s.data.toList.drop a) = .skip n) : Lx W wr s (a + n) ts lv :=
  ⟨h.row, by rw [h.all, lex_skip ha hp], by have := h.few; omega, h.old⟩
theorem Lx.push (h : Lx W wr s a ts lv) {n : Nat} {k v : Int} (ha : a < s.size) (hp : piece (s.data.toList.drop a) = .tok k n v) {w1 : World} {nv : Value}
    (own : w1.ownsRow W.heap.size 73 4 nv (ts.length + 1) (tcells ts ++ [.int .i64 k, .string (s.extract a (a + n)), .int .i64 v, .int .i64 a])) (grow : wr.grownBy w1 lv.ownBlock) : Lx W w1 s (a + n) (ts ++ [⟨k, s.extract a (a + n), v, a⟩]) nv := by
  have hn := piece_tok hp
  refine ⟨?_, ?_, ?_, h.old.grown grow (Nat.le_trans (Nat.le_refl _) h.old.size) (fun k hk => (row_lt h.row k hk).1)⟩
  · rw [tcells_append, List.length_append]
    exact own
  · rw [h.all, lex_tok ha hp]
    cases lexFrom s (a + n) <;> simp [Except.map]
  · have := h.few
    simp
    omega
end

theorem next_bad {l : List UInt8} {e : Int} (h : nextP l = .bad e) (h0 : l ≠ []) : 40 ≤ e ∧ e ≤ 42 := by
  unfold nextP at h
  split at h
  · exact absurd rfl h0
  · split at h
    · split at h
      · injection h with h; omega
      · cases h
    · split at h
      · split at h
        · injection h with h; omega
        · cases h
      · split at h
        · injection h with h; omega
        · cases h

theorem bx_grown {t : TypeId} {w w' : World} {row : Option Nat} {x : Nat} {cs : Array Value} (hg : w.grownBy w' row) (h : Bx t w x cs) (hne : some x ≠ row) : Bx t w' x cs := (hg.block x (blk_lt h) hne).trans h

/-- What Lex hands back. -/
def LexEnd (W W' : World) (s : ByteArray) (e : Ending) : Prop :=
  (∃ er at_, lexB s = .error (er, at_) ∧ e = .returned (.tuple #[.slice none 0 0, .int .i64 er, .int .i64 at_])) ∨
  (∃ l v, lexB s = .ok l ∧ W'.ownsRow W.heap.size 73 4 v l.length (tcells l) ∧ l.length ≤ s.size + 1 ∧ e = .returned (.tuple #[v, .int .i64 0, .int .i64 0]))

set_option maxHeartbeats 2000000 in
theorem lex_any (s : ByteArray) (hs : s.size ≤ 9000000000000000000) (W : World) (hv : HasErr W) : Calls Tryz.prog 27 #[.string s] W fun e W' => LexEnd W W' s e ∧ Below W.heap.size W W' := by
  by_cases h6 : 65536 < s.size
  · have hr : lexB s = .error (43, 0) := by rw [lexB, if_pos h6]
    have HRr := Lib.hid hr
    clear hr
    go_enter Tryz.func27, Tryz.ntmps27
    go_wp2
    exact bodyPost_ret (v := .tuple #[.slice none 0 0, .int .i64 43, .int .i64 0]) (by (simp only [results, Tryz.results27]); go_simp) rfl ⟨.inl ⟨43, 0, HRr.out, rfl⟩, Below.refl _ _⟩
  have hB : lexB s = lexFrom s 0 := by rw [lexB, if_neg h6]
  have HB := Lib.hid hB
  have HV := Lib.hid hv
  have HI := Lib.hid (info_parts Tryz.infoTok)
  have X0 : Hid (Lx W W s 0 [] (.slice none 0 0)) := Lib.hid ⟨World.ownsRow_nil _ _ _ _, by cases lexFrom s 0 <;> simp [Except.map], Nat.zero_le _, Below.refl _ _⟩
  clear hB hv
  go_enter Tryz.func27, Tryz.ntmps27
  go_wp2_with fail
  go_loopw [5, 6] (fun lv i wr => ∃ (a : Nat) (ts : List Tk), a ≤ s.size ∧ i = .int .i64 a ∧ Hid (Lx W wr s a ts lv)) (fun _ i _ => s.size - (intOf i).toNat)
  case atStart => exact ⟨0, [], Nat.zero_le _, rfl, X0⟩
  case round =>
    obtain ⟨a, ts, ha, rfl, x⟩ := hrel
    clear X0
    obtain ⟨lA, lc, rfl⟩ := row_slice x.out.row
    have hti : (0 : Int) ≤ (a : Int) := by omega
    by_cases hlt : a < s.size
    · have htl : (a : Int) < (s.size : Int) := by omega
      have hul : (s.extract a s.size).size = s.size - a := by simp
      have hdl := drop_ext s a
      have C1 := Lib.hid (passed_any (s.extract a s.size) (by omega))
      go_wp2_with fail
      refine (C1.out _).mono ?_
      rintro e w2 ⟨rfl, rfl⟩
      clear C1
      by_cases hn : 0 < passedN (s.extract a s.size).data.toList
      · have hp : piece (s.data.toList.drop a) = .skip (passedN (s.extract a s.size).data.toList) := by rw [← hdl, piece, if_pos hn]
        have hle := (piece_skip hp).2
        have X2 := Lib.hid (x.out.skip hlt hp)
        have hsz : s.data.toList.length = s.size := Array.length_toList
        rw [List.length_drop, hsz] at hle
        generalize passedN (s.extract a s.size).data.toList = n at *
        clear hsz hdl hul hp
        have hn3 : (0 : Int) < (n : Int) := by omega
        go_wp2
        go_roundw
        case rel => exact ⟨a + n, ts, by omega, by go_num, X2⟩
        case measure => simp [intOf]; omega
      · have hp : piece (s.data.toList.drop a) = nextP (s.extract a s.size).data.toList := by rw [← hdl, piece, if_neg hn]
        have C2 := Lib.hid (next_any (s.extract a s.size) (by omega) (by omega) w2 (HV.out.below x.out.old))
        have hz : passedN (s.extract a s.size).data.toList = 0 := by omega
        rw [hz]
        go_wp2_with fail
        refine C2.out.mono ?_
        rintro e w3 ⟨rfl, b3⟩
        have X3 := Lib.hid (x.out.below b3)
        rw [nextV]
        cases hq : nextP (s.extract a s.size).data.toList with
        | skip n => exact absurd hq (next_noskip _ _)
        | bad er =>
          rw [hq] at hp
          have HRr : Hid (lexB s = .error (er, a)) := Lib.hid (by rw [HB.out, x.out.all, lex_bad hlt hp]; rfl)
          simp only [pcV]
          have her := next_bad hq (by rw [hdl]; intro q; have := congrArg List.length q; simp at this; have e2 : s.data.size = s.size := rfl; omega)
          have hne : (er == 0) = false := by simp; omega
          clear hq hp hz hdl hul hn C2 x b3
          go_wp2
          exact bodyPost_ret (v := .tuple #[.slice none 0 0, .int .i64 er, .int .i64 a]) (by (simp only [results, Tryz.results27]); go_simp) rfl ⟨.inl ⟨er, a, HRr.out, rfl⟩, by repeat (first | exact X3.out.old | apply w1_alloc | apply w1_drewN)⟩
        | tok k n v =>
          rw [hq] at hp
          have hle := piece_tok hp
          have hsz : s.data.toList.length = s.size := Array.length_toList
          rw [List.length_drop, hsz] at hle
          simp only [pcV]
          rw [ext_ext s a n (by omega)]
          have X4a := fun (w1 : World) (nv : Value) (w0 : World) (hb : Below w3.heap.size w3 w0) own grow => Lx.push (X3.out.below hb) hlt hp (w1 := w1) (nv := nv) own grow
          have X4 := Lib.hid X4a
          clear X4a
          have hts : (s.extract a (a + n)).size = n := by simp; omega
          have few := X3.out.few
          have hold := X3.out.old.size
          clear hq hp hz hdl hul hn C2 x b3 hsz
          generalize s.extract a (a + n) = txt at *
          obtain ⟨i0, hi0, hz0, hz1, hz2⟩ := HI.out
          go_wp2_with (first
            | (at_builtin; refine wpList_append_own_at _ rfl (.tmp 39) (.tmp 41) 66 rfl W.heap.size 73 i0 _ 4 40 Tryz.underlying66 hi0 hz0 hz1 hz2 rfl (by decide) _ ts.length (tcells ts) rfl ?_ _ 1 1 [.int .i64 k, .string txt, .int .i64 v, .int .i64 a] rfl rfl ?_ ?_ ?_ ?_ ?_ ?_
               (exact row_below X3.out.row (by repeat (first | exact Below.refl _ _ | apply w1_alloc | apply w1_drewN)))
               (exact cell_row (by simp) _ _)
               (intro u hu; simp at hu; rcases hu with rfl | rfl | rfl | rfl <;> rfl)
               (simp only [maxLen]; omega)
               omega
               (simp <;> omega)
               (intro v4 w4 own4 grow4 nil4 at4
                clear nil4 at4
                have X5 := Lib.hid (X4.out w4 v4 _ (by repeat (first | exact Below.refl _ _ | apply w1_alloc | apply w1_drewN)) own4 grow4)
                have hb8 : Bx 73 w4 w3.heap.size #[.int .i64 k, .string txt, .int .i64 v, .int .i64 a] := bx_grown grow4 (by repeat (first | exact Bx.newAt rfl | apply Bx.alloc | apply Bx.drewN)) (fun e => by have := (row_lt X3.out.row _ e.symm).2.choose_spec; have := blk_lt this; omega)
                obtain ⟨l8, h8, f8⟩ := hb8.see
                clear own4 grow4 hb8)))
          go_roundw
          case rel => exact ⟨a + n, ts ++ [⟨k, txt, v, a⟩], by omega, by go_num, X5⟩
          case measure => simp [intOf]; omega
    · obtain rfl : a = s.size := by omega
      have few := x.out.few
      have hold := x.out.old.size
      obtain ⟨i0, hi0, hz0, hz1, hz2⟩ := HI.out
      have HRr : Hid (lexB s = .ok (ts ++ [⟨0, ⟨#[]⟩, 0, s.size⟩])) := Lib.hid (by rw [HB.out, x.out.all, lex_end hlt]; rfl)
      go_wp2_with (first
        | (at_builtin; refine wpList_append_own_at _ rfl (.tmp 48) (.tmp 52) 66 rfl W.heap.size 73 i0 _ 4 40 Tryz.underlying66 hi0 hz0 hz1 hz2 rfl (by decide) _ ts.length (tcells ts) rfl ?_ _ 1 1 [.int .i64 0, .string ⟨#[]⟩, .int .i64 0, .int .i64 s.size] rfl rfl ?_ ?_ ?_ ?_ ?_ ?_
           (exact row_below x.out.row (by repeat (first | exact Below.refl _ _ | apply w1_alloc | apply w1_drewN)))
           (exact cell_row (by simp) _ _)
           (intro u hu; simp at hu; rcases hu with rfl | rfl | rfl | rfl <;> rfl)
           (simp only [maxLen]; omega)
           omega
           (simp <;> omega)
           (intro v4 w4 own4 grow4 nil4 at4
            clear nil4 at4
            have HO := Lib.hid own4
            have HG := Lib.hid grow4
            clear own4 grow4)))
      refine bodyPost_ret (v := .tuple #[v4, .int .i64 0, .int .i64 0]) (by (simp only [results, Tryz.results27]); go_simp) rfl ?_
      refine ⟨.inr ⟨_, v4, HRr.out, ?_, by simp; omega, rfl⟩, ?_⟩
      · rw [tcells_append, List.length_append]
        exact HO.out
      · exact (Below.grown (show Below W.heap.size W _ by repeat (first | exact x.out.old | apply w1_alloc | apply w1_drewN)) HG.out (by simp <;> omega) (fun k hk => (row_lt x.out.row k hk).1))
end Go.Proofs.YtjoiflokekebkaaGreatDoor
end
