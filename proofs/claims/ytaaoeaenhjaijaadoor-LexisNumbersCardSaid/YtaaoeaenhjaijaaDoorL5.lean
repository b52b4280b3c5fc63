/- Walks: the document's letter, digit, name. -/
import Derived.Test.YtaaoeaenhjaijaaDoorL4
namespace Go.Proofs.YtaaoeaenhjaijaaDoor
open Go.RowKit

theorem rletter_any (c : UInt8) (W : World) : Calls Tryd.prog 34 #[.int .u8 c.toNat] W fun e W' => e = .returned (.bool (isL c)) ∧ W' = W := by
  unfold isL
  go_enter Tryd.func34, Tryd.ntmps34
  go_wp2
  all_goals
    go_ret
    refine ⟨congrArg (fun b => Ending.returned (Value.bool b)) ?_, rfl⟩
    rw [Bool.eq_iff_iff]
    (try simp)
    try (first | omega | (intros; omega) | (constructor <;> intros <;> omega))
theorem rdigit_any (c : UInt8) (W : World) : Calls Tryd.prog 22 #[.int .u8 c.toNat] W fun e W' => e = .returned (.bool (isD c)) ∧ W' = W := by
  unfold isD
  go_enter Tryd.func22, Tryd.ntmps22
  go_wp2
  all_goals
    go_ret
    refine ⟨congrArg (fun b => Ending.returned (Value.bool b)) ?_, rfl⟩
    rw [Bool.eq_iff_iff]
    (try simp)
    try (first | omega | (intros; omega) | (constructor <;> intros <;> omega))

def nameN (l : List UInt8) : Nat := if l.head?.any isL = true then run isI l else 0
theorem nameN_at {l : List UInt8} {t : Nat} (h0 : ∀ x, 0 < t → l[0]? = some x → isL x = true) (h1 : ∀ j x, j < t → l[j]? = some x → isI x = true) (h2 : ∀ x, l[t]? = some x → (if t = 0 then isL x else isI x) = false) (h3 : t ≤ l.length) : nameN l = t := by
  unfold nameN
  cases l with
  | nil => simp at h3; simp [h3]
  | cons y l =>
    by_cases ht : t = 0
    · have := h2 y (by subst ht; rfl)
      rw [if_pos ht] at this
      simp [this, ht]
    · have := h0 y (by omega) rfl
      rw [if_pos (by simpa using this)]
      exact run_at h1 (fun x hx => by have := h2 x hx; rwa [if_neg ht] at this) h3

set_option maxHeartbeats 1000000 in
theorem rname_any (s : ByteArray) (i : Nat) (hi : i ≤ s.size) (hs : s.size ≤ 1000000000000) (W : World) : Calls Tryd.prog 21 #[.string s, .int .i64 i] W fun e W' => e = .returned (.int .i64 (nameN (s.data.toList.drop i))) ∧ W' = W := by
  have hsz : s.data.toList.length = s.size := Array.length_toList
  go_enter Tryd.func21, Tryd.ntmps21
  go_wp2_with fail
  go_loopw [5] (fun n wr => ∃ t : Nat, i + t ≤ s.size ∧ n = .int .i64 t ∧ Hid (∀ j x, j < t → s.data.toList[i + j]? = some x → isI x = true ∧ (j = 0 → isL x = true)) ∧ wr = W) (fun n _ => s.size - (intOf n).toNat)
  case atStart => exact ⟨0, by omega, rfl, Lib.hid (fun j _ hj => absurd hj (Nat.not_lt_zero _)), rfl⟩
  case round =>
    obtain ⟨t, ht, rfl, hno, rfl⟩ := hrel
    have hti : (0 : Int) ≤ (t : Int) := by omega
    have hfin : ∀ (_ : ∀ x, s.data.toList[i + t]? = some x → (if t = 0 then isL x else isI x) = false), nameN (s.data.toList.drop i) = t := fun h2 =>
      nameN_at (fun x h0 hx => (hno.out 0 x h0 (by simpa using hx)).2 rfl) (fun j x hj hx => (hno.out j x hj (by simpa using hx)).1) (fun x hx => h2 x (by simpa using hx)) (by rw [List.length_drop]; omega)
    have HF := Lib.hid hfin
    clear hfin
    by_cases hlt : i + t < s.size
    · have htl : (i : Int) + (t : Int) < (s.size : Int) := by omega
      have hx : s.data.toList[i + t]? = some s[i + t] := by rw [List.getElem?_eq_getElem (by omega)]; rfl
      have HX := Lib.hid hx
      clear hx hsz
      have h00 : (0 : Int) ≤ (i : Int) + (t : Int) := by omega
      have CL := Lib.hid (rletter_any s[i + t])
      have CD := Lib.hid (rdigit_any s[i + t])
      go_wp2_with fail
      refine (CL.out _).mono ?_
      rintro e w2 ⟨rfl, rfl⟩
      cases hl : isL s[i + t]
      · by_cases ht0 : t = 0
        · subst ht0
          have HRr := Lib.hid (HF.out (fun x hx => by rw [HX.out] at hx; injection hx with hx; rw [← hx, if_pos rfl]; exact hl))
          go_wp2
          go_ret
          exact ⟨by rw [HRr.out]; rfl, rfl⟩
        · have htp : (0 : Int) < (t : Int) := by omega
          go_wp2_with fail
          refine (CD.out _).mono ?_
          rintro e w3 ⟨rfl, rfl⟩
          cases hd : isD s[i + t]
          · by_cases hu : s[i + t].toNat = 95
            · have hb : ((s[i + t].toNat : Int) == 95) = true := by simp [hu]
              have HU := Lib.hid hu
              clear hu
              have HN : Hid (∀ j x, j < t + 1 → s.data.toList[i + j]? = some x → isI x = true ∧ (j = 0 → isL x = true)) := Lib.hid (fun j x hj hx => by
                by_cases e : j = t
                · subst e; rw [HX.out] at hx; injection hx with hx; rw [← hx]; exact ⟨by simp [isI, HU.out], fun q => absurd q ht0⟩
                · exact hno.out j x (by omega) hx)
              go_wp2
              go_roundw
              case rel => exact ⟨t + 1, by omega, by go_num, HN, by trivial⟩
              case measure => simp [intOf]; omega
            · have hb : ((s[i + t].toNat : Int) == 95) = false := by simp; omega
              have HU := Lib.hid hu
              clear hu
              have HRr := Lib.hid (HF.out (fun x hx => by rw [HX.out] at hx; injection hx with hx; rw [← hx]; simp [ht0, isI, hl, hd, HU.out]))
              go_wp2
              go_ret
              exact ⟨by rw [HRr.out]; rfl, rfl⟩
          · skip
            have HN : Hid (∀ j x, j < t + 1 → s.data.toList[i + j]? = some x → isI x = true ∧ (j = 0 → isL x = true)) := Lib.hid (fun j x hj hx => by
              by_cases e : j = t
              · subst e; rw [HX.out] at hx; injection hx with hx; rw [← hx]; exact ⟨by simp [isI, hd], fun q => absurd q ht0⟩
              · exact hno.out j x (by omega) hx)
            go_wp2
            go_roundw
            case rel => exact ⟨t + 1, by omega, by go_num, HN, by trivial⟩
            case measure => simp [intOf]; omega
      · skip
        have HN : Hid (∀ j x, j < t + 1 → s.data.toList[i + j]? = some x → isI x = true ∧ (j = 0 → isL x = true)) := Lib.hid (fun j x hj hx => by
          by_cases e : j = t
          · subst e; rw [HX.out] at hx; injection hx with hx; rw [← hx]; exact ⟨by simp [isI, hl], fun _ => hl⟩
          · exact hno.out j x (by omega) hx)
        go_wp2
        go_roundw
        case rel => exact ⟨t + 1, by omega, by go_num, HN, by trivial⟩
        case measure => simp [intOf]; omega
    · have hit : i + t = s.size := by omega
      have HRr := Lib.hid (HF.out (fun x hx => by rw [List.getElem?_eq_none (by omega)] at hx; cases hx))
      have htl : ¬ ((i : Int) + (t : Int) < (s.size : Int)) := by omega
      clear hsz hit
      go_wp2
      go_ret
      exact ⟨by rw [HRr.out]; rfl, rfl⟩

theorem rword_eq (l : List UInt8) : wordB l = (decide (0 < l.length) && decide (l.length ≤ 24) && decide (nameN l = l.length)) := by
  unfold wordB nameN
  cases h : l.head?.any isL
  · cases l with
    | nil => rfl
    | cons x l => simp
  · simp
theorem rword_any (u : ByteArray) (hs : u.size ≤ 9000000000000000000) (W : World) : Calls Tryd.prog 14 #[.string u] W fun e W' => e = .returned (.bool (wordB u.data.toList)) ∧ W' = W := by
  have hsz : u.data.toList.length = u.size := Array.length_toList
  rw [rword_eq, hsz]
  by_cases h0 : 0 < u.size
  · by_cases h24 : u.size ≤ 24
    · have C := Lib.hid (rname_any u 0 (Nat.zero_le _) (by omega) W)
      rw [decide_eq_true h0, decide_eq_true h24]
      go_enter Tryd.func14, Tryd.ntmps14
      go_wp2_with fail
      refine C.out.mono ?_
      rintro e w2 ⟨rfl, rfl⟩
      clear C hsz
      generalize hgn : nameN (List.drop 0 u.data.toList) = n
      have hn2 : nameN u.data.toList = n := hgn
      have HN := Lib.hid hn2
      clear hgn hn2
      by_cases hn : n = u.size
      · have hb : ((n : Int) == (u.size : Int)) = true := by simp [hn]
        have HM := Lib.hid hn
        clear hn
        go_wp2
        go_ret
        exact ⟨by rw [HN.out, decide_eq_true HM.out]; rfl, rfl⟩
      · have hb : ((n : Int) == (u.size : Int)) = false := by simp; omega
        have HM := Lib.hid hn
        clear hn
        go_wp2
        go_ret
        exact ⟨by rw [HN.out, decide_eq_false HM.out]; rfl, rfl⟩
    · rw [decide_eq_false h24, Bool.and_false, Bool.false_and]
      clear hsz
      go_enter Tryd.func14, Tryd.ntmps14
      go_wp2
      go_ret
      exact ⟨rfl, rfl⟩
  · rw [decide_eq_false h0, Bool.false_and, Bool.false_and]
    clear hsz
    go_enter Tryd.func14, Tryd.ntmps14
    go_wp2
    go_ret
    exact ⟨rfl, rfl⟩

theorem isL_low (c : UInt8) (h : isL c = true) : 65 ≤ c.toNat := by
  simp only [isL, Bool.or_eq_true, Bool.and_eq_true, decide_eq_true_eq] at h
  omega
theorem rupper_any (u : ByteArray) (hs : u.size ≤ 9000000000000000000) (W : World) : Calls Tryd.prog 16 #[.string u] W fun e W' => e = .returned (.bool (upperB u.data.toList)) ∧ W' = W := by
  have C1 := Lib.hid (rword_any u hs W)
  go_enter Tryd.func16, Tryd.ntmps16
  go_wp2_with fail
  refine C1.out.mono ?_
  rintro e w1 ⟨rfl, rfl⟩
  cases hw : wordB u.data.toList
  · have HRr : Hid (upperB u.data.toList = false) := Lib.hid (by rw [upperB, hw]; rfl)
    go_wp2
    go_ret
    exact ⟨by rw [HRr.out]; rfl, rfl⟩
  · obtain ⟨hu, h24⟩ := wordB_pos hw
    obtain ⟨r, hr0⟩ := first_byte hu
    have hlow : 65 ≤ u[0].toNat := by
      refine isL_low _ ?_
      have : u.data.toList.head?.any isL = true := by
        simp only [wordB, Bool.and_eq_true] at hw
        exact hw.1.2
      rw [hr0] at this
      simpa using this
    have HRr : Hid (upperB u.data.toList = decide (u[0].toNat ≤ 90)) := Lib.hid (by rw [upperB, hw, hr0]; simp)
    clear hr0 hw C1
    by_cases hz : u[0].toNat ≤ 90
    · go_wp2
      go_ret
      exact ⟨by rw [HRr.out, decide_eq_true hz]; simp; omega, rfl⟩
    · go_wp2
      go_ret
      exact ⟨by rw [HRr.out, decide_eq_false hz]; simp; omega, rfl⟩
end Go.Proofs.YtaaoeaenhjaijaaDoor
