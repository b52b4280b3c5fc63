/- Walks: bytes. -/
import Derived.Test.YtjoiflokekebkaaDoorProg
import Derived.WalkKit
import Derived.LoopTactic
import Derived.Lib.Hide
import Derived.Shelf.Abstract
set_option linter.all false
namespace Go.Proofs.YtjoiflokekebkaaDoor
open Go.RowKit

def isL (c : UInt8) : Bool := (decide (97 ≤ c.toNat) && decide (c.toNat ≤ 122)) || (decide (65 ≤ c.toNat) && decide (c.toNat ≤ 90))
def isD (c : UInt8) : Bool := decide (48 ≤ c.toNat) && decide (c.toNat ≤ 57)
def isI (c : UInt8) : Bool := isL c || isD c || decide (c.toNat = 95)
def notNl (c : UInt8) : Bool := decide (c.toNat ≠ 10)

theorem or32_all : ((List.range 256).all fun n => (decide (97 ≤ bits BinOp.or IntKind.u8 (n : Int) 32) && decide (bits BinOp.or IntKind.u8 (n : Int) 32 ≤ 122)) == ((decide (97 ≤ n) && decide (n ≤ 122)) || (decide (65 ≤ n) && decide (n ≤ 90)))) = true := by kernel_rfl
theorem isL_eq (c : UInt8) : isL c = (decide (97 ≤ bits BinOp.or IntKind.u8 (c.toNat : Int) 32) && decide (bits BinOp.or IntKind.u8 (c.toNat : Int) 32 ≤ 122)) := by
  have h := List.all_eq_true.1 or32_all c.toNat (List.mem_range.2 c.toNat_lt)
  exact (eq_of_beq h).symm

theorem letter_any (c : UInt8) (W : World) : Calls Tryd.prog 17 #[.int .u8 c.toNat] W fun e W' => e = .returned (.bool (isL c)) ∧ W' = W := by
  rw [isL_eq]
  go_enter Tryd.func17, Tryd.ntmps17
  go_wp2
  all_goals
    go_ret
    refine ⟨congrArg (fun b => Ending.returned (Value.bool b)) ?_, rfl⟩
    rw [Bool.eq_iff_iff]
    (try simp)
    try (first | omega | (intros; omega) | (constructor <;> intros <;> omega))
theorem digit_any (c : UInt8) (W : World) : Calls Tryd.prog 19 #[.int .u8 c.toNat] W fun e W' => e = .returned (.bool (isD c)) ∧ W' = W := by
  unfold isD
  go_enter Tryd.func19, Tryd.ntmps19
  go_wp2
  all_goals
    go_ret
    refine ⟨congrArg (fun b => Ending.returned (Value.bool b)) ?_, rfl⟩
    rw [Bool.eq_iff_iff]
    (try simp)
    try (first | omega | (intros; omega) | (constructor <;> intros <;> omega))
theorem inner_any (c : UInt8) (W : World) : Calls Tryd.prog 18 #[.int .u8 c.toNat] W fun e W' => e = .returned (.bool (isI c)) ∧ W' = W := by
  unfold isI isD
  rw [isL_eq]
  go_enter Tryd.func18, Tryd.ntmps18
  go_wp2
  all_goals
    go_ret
    refine ⟨congrArg (fun b => Ending.returned (Value.bool b)) ?_, rfl⟩
    rw [Bool.eq_iff_iff]
    (try simp)
    try (first | omega | (intros; omega) | (constructor <;> intros <;> omega))
theorem nl_any (c : UInt8) (W : World) : Calls Tryd.prog 15 #[.int .u8 c.toNat] W fun e W' => e = .returned (.bool (notNl c)) ∧ W' = W := by
  unfold notNl
  go_enter Tryd.func15, Tryd.ntmps15
  go_wp2
  all_goals
    go_ret
    refine ⟨congrArg (fun b => Ending.returned (Value.bool b)) ?_, rfl⟩
    rw [Bool.eq_iff_iff]
    (try simp)
    try (first | omega | (intros; omega) | (constructor <;> intros <;> omega))

/-- How many bytes are so, from the beginning on. -/
def run (p : UInt8 → Bool) (l : List UInt8) : Nat := (l.takeWhile p).length
theorem run_le (p : UInt8 → Bool) (l : List UInt8) : run p l ≤ l.length := by
  induction l with
  | nil => simp [run]
  | cons x l ih => simp only [run, List.takeWhile] at ih ⊢; cases p x <;> simp <;> omega
theorem run_at {p : UInt8 → Bool} {l : List UInt8} {t : Nat} (h1 : ∀ j x, j < t → l[j]? = some x → p x = true) (h2 : ∀ x, l[t]? = some x → p x = false) (h3 : t ≤ l.length) : run p l = t := by
  induction l generalizing t with
  | nil => simp [run] at h3 ⊢; omega
  | cons y l ih =>
    cases t with
    | zero => have := h2 y rfl; simp [run, List.takeWhile, this]
    | succ t =>
      have := h1 0 y (by omega) rfl
      have e := ih (t := t) (fun j x hj hx => h1 (j + 1) x (by omega) (by simpa using hx)) (fun x hx => h2 x (by simpa using hx)) (by simp at h3; omega)
      simp only [run, List.takeWhile, this] at e ⊢
      simp [e]

theorem length_any (p : UInt8 → Bool) (k : Nat) (eg : ∀ args w, (callFunc k args).run Tryd.prog w = .ok (.enter k args) w) (hp : ∀ (c : UInt8) (W : World), Calls Tryd.prog k #[.int .u8 c.toNat] W fun e W' => e = .returned (.bool (p c)) ∧ W' = W) (s : ByteArray) (hs : s.size ≤ 1000000000000) (W : World) :
    Calls Tryd.prog 14 #[.string s, .func (.func k) #[] #[]] W fun e W' => e = .returned (.int .i64 (run p s.data.toList)) ∧ W' = W := by
  have HP := Lib.hid hp
  clear hp
  go_enter Tryd.func14, Tryd.ntmps14
  go_wp2_with fail
  have hsz : s.data.toList.length = s.size := Array.length_toList
  go_loopw [5] (fun i wr => ∃ t : Nat, t ≤ s.size ∧ i = .int .i64 t ∧ Hid (∀ j x, j < t → s.data.toList[j]? = some x → p x = true) ∧ wr = W) (fun i _ => s.size - (intOf i).toNat)
  case atStart => exact ⟨0, Nat.zero_le _, rfl, Lib.hid (fun j _ hj => absurd hj (Nat.not_lt_zero _)), rfl⟩
  case round =>
    obtain ⟨t, ht, rfl, hno, rfl⟩ := hrel
    have hti : (0 : Int) ≤ (t : Int) := by omega
    by_cases hlt : t < s.size
    · have htl : (t : Int) < (s.size : Int) := by omega
      have hx : s.data.toList[t]? = some s[t] := by rw [List.getElem?_eq_getElem (by omega)]; rfl
      have HX := Lib.hid hx
      clear hx
      have hpt := HP.out s[t] wr
      cases hv : p s[t]
      · rw [hv] at hpt
        have HT := Lib.hid hpt
        have hr : run p s.data.toList = t := run_at hno.out (fun x hx => by rw [HX.out] at hx; injection hx with hx; rw [← hx]; exact hv) (by omega)
        have HRr := Lib.hid hr
        clear hr hpt hv hsz
        go_wp2_with fail
        refine HT.out.mono ?_
        rintro e w2 ⟨rfl, rfl⟩
        go_wp2
        go_ret
        exact ⟨by rw [HRr.out]; rfl, rfl⟩
      · rw [hv] at hpt
        have HT := Lib.hid hpt
        have HN : Hid (∀ j x, j < t + 1 → s.data.toList[j]? = some x → p x = true) := Lib.hid (fun j x hj hx => by
          by_cases e : j = t
          · subst e; rw [HX.out] at hx; injection hx with hx; rw [← hx]; exact hv
          · exact hno.out j x (by omega) hx)
        clear hpt hv hsz
        go_wp2_with fail
        refine HT.out.mono ?_
        rintro e w2 ⟨rfl, rfl⟩
        go_wp2
        go_roundw
        case rel => exact ⟨t + 1, by omega, by go_num, HN, by trivial⟩
        case measure => simp [intOf]; omega
    · obtain rfl : t = s.size := by omega
      have hr : run p s.data.toList = s.size := run_at hno.out (fun x hx => by rw [List.getElem?_eq_none (by omega)] at hx; cases hx) (by omega)
      have HRr := Lib.hid hr
      clear hr hsz
      go_wp2
      go_ret
      exact ⟨by rw [HRr.out]; rfl, rfl⟩

theorem length_inner (s : ByteArray) (hs : s.size ≤ 1000000000000) (W : World) : Calls Tryd.prog 14 #[.string s, .func (.func 18) #[] #[]] W fun e W' => e = .returned (.int .i64 (run isI s.data.toList)) ∧ W' = W :=
  length_any isI 18 (Go.Proofs.enters_of Tryd.func18 (by kernel_rfl) rfl) inner_any s hs W
theorem length_digit (s : ByteArray) (hs : s.size ≤ 1000000000000) (W : World) : Calls Tryd.prog 14 #[.string s, .func (.func 19) #[] #[]] W fun e W' => e = .returned (.int .i64 (run isD s.data.toList)) ∧ W' = W :=
  length_any isD 19 (Go.Proofs.enters_of Tryd.func19 (by kernel_rfl) rfl) digit_any s hs W
theorem length_nl (s : ByteArray) (hs : s.size ≤ 1000000000000) (W : World) : Calls Tryd.prog 14 #[.string s, .func (.func 15) #[] #[]] W fun e W' => e = .returned (.int .i64 (run notNl s.data.toList)) ∧ W' = W :=
  length_any notNl 15 (Go.Proofs.enters_of Tryd.func15 (by kernel_rfl) rfl) nl_any s hs W
end Go.Proofs.YtjoiflokekebkaaDoor
