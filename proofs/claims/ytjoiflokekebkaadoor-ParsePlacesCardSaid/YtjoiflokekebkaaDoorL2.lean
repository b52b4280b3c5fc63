/- Walks: passed, sign. -/
import Derived.Test.YtjoiflokekebkaaDoorSpec
import Derived.Test.YtjoiflokekebkaaDoorShelf
import Derived.BigCall
set_option linter.all false
namespace Go.Proofs.YtjoiflokekebkaaDoor
open Go.RowKit

theorem first_byte {u : ByteArray} (h : 0 < u.size) : ∃ r, u.data.toList = u[0] :: r := by
  have hl : u.data.toList.length = u.size := Array.length_toList
  cases e : u.data.toList with
  | nil => rw [e] at hl; simp at hl; omega
  | cons x r =>
    refine ⟨r, ?_⟩
    have h2 : u.data.toList[0]? = some u[0] := by rw [List.getElem?_eq_getElem (by omega)]; rfl
    rw [e] at h2
    simp at h2
    rw [h2]

theorem index_low (l : List UInt8) (c : UInt8) : -1 ≤ Lib.indexByte l c := by
  induction l with
  | nil => simp [Lib.indexByte]
  | cons d l ih =>
    simp only [Lib.indexByte]
    split
    · omega
    · split <;> omega
theorem index_mem (l : List UInt8) (c : UInt8) : 0 ≤ Lib.indexByte l c ↔ c ∈ l := by
  induction l with
  | nil => simp [Lib.indexByte]
  | cons b l ih =>
    have hlow := index_low l c
    simp only [Lib.indexByte]
    by_cases h : b = c
    · subst h; simp
    · have h1 : (b == c) = false := by simpa using h
      have h2 : ¬ c = b := fun e => h e.symm
      simp only [h1, List.mem_cons, h2, false_or, ← ih]
      by_cases h3 : Lib.indexByte l c = -1
      · simp [h3]
      · simp [h3]; omega
theorem empty_ne {u : ByteArray} (h : 0 < u.size) : u.toList.isEmpty = false := by
  obtain ⟨r, hr⟩ := first_byte h
  rw [ByteArray.toList_eq, hr]
  rfl
theorem indexByte_any (l : ByteArray) (c : UInt8) (W : World) : Calls Tryd.prog 16 #[.string l, .int .u8 c.toNat] W fun e W' => e = .returned (.int .i64 (Lib.indexByte l.data.toList c)) ∧ W' = W := by
  have := Tryd.strings_IndexByte l (c.toNat : Int) W
  rw [Int.toNat_natCast] at this
  have e : c.toNat.toUInt8 = c := UInt8.ofNat_toNat
  rw [e] at this
  exact this

theorem passed_any (u : ByteArray) (hs : u.size ≤ 1000000000000) (W : World) : Calls Tryd.prog 10 #[.string u] W fun e W' => e = .returned (.int .i64 (passedN u.data.toList)) ∧ W' = W := by
  have C1 := Lib.hid (Tryd.strings_HasPrefix u ⟨#[47, 47]⟩ W)
  go_enter Tryd.func10, Tryd.ntmps10
  go_wp2_with fail
  refine C1.out.mono ?_
  rintro e w1 ⟨rfl, rfl⟩
  clear C1
  cases hv : Lib.hasPrefix u.data.toList [47, 47]
  · by_cases h0 : u.size = 0
    · have hr : passedN u.data.toList = 0 := by
        have hl : u.data.toList.length = u.size := Array.length_toList
        have : u.data.toList = [] := List.length_eq_zero_iff.1 (by omega)
        rw [passedN, if_neg (by simp [hv]), this]
        rfl
      have hu : u = ⟨#[]⟩ := by
        have hl : u.data.size = 0 := h0
        cases u
        simp at hl
        simp [hl]
      have HRr := Lib.hid hr
      clear hr hv h0
      go_wp2
      go_ret
      exact ⟨by rw [HRr.out]; rfl, rfl⟩
    · have hu : 0 < u.size := by omega
      obtain ⟨r, hr0⟩ := first_byte hu
      have hne := empty_ne hu
      have C2 := Lib.hid (indexByte_any ⟨#[32, 9, 10]⟩ u[0] w1)
      have hm := index_mem [32, 9, 10] u[0]
      have hr : passedN u.data.toList = if (0 : Int) ≤ Lib.indexByte [32, 9, 10] u[0] then 1 else 0 := by
        rw [passedN, if_neg (by simp [hv]), hr0]
        by_cases h : u[0] ∈ [(32 : UInt8), 9, 10]
        · rw [if_pos (hm.2 h), if_pos (by simpa using h)]
        · rw [if_neg (fun q => h (hm.1 q)), if_neg (by simpa using h)]
      have HRr := Lib.hid hr
      clear hm hr hr0 hv
      go_wp2_with fail
      refine C2.out.mono ?_
      rintro e w2 ⟨rfl, rfl⟩
      clear C2
      have HR2 : Hid (passedN u.data.toList = if (0 : Int) ≤ Lib.indexByte (⟨#[32, 9, 10]⟩ : ByteArray).data.toList u[0] then 1 else 0) := HRr
      generalize Lib.indexByte (⟨#[32, 9, 10]⟩ : ByteArray).data.toList u[0] = x at *
      clear HRr
      by_cases hx : 0 ≤ x
      · go_wp2
        go_ret
        exact ⟨by rw [HR2.out, if_pos hx]; rfl, rfl⟩
      · go_wp2
        go_ret
        exact ⟨by rw [HR2.out, if_neg (by omega)]; rfl, rfl⟩
  · have hr : passedN u.data.toList = run notNl u.data.toList := by rw [passedN, if_pos hv]
    have HRr := Lib.hid hr
    have C2 := Lib.hid (length_nl u hs w1)
    clear hr
    go_wp2_with fail
    refine C2.out.mono ?_
    rintro e w2 ⟨rfl, rfl⟩
    go_wp2
    go_ret
    exact ⟨by rw [HRr.out]; rfl, rfl⟩

theorem two_0 (w : World) : (Instr.index 90 (.agg #[.string ⟨#[58, 58]⟩, .string ⟨#[61, 61]⟩, .string ⟨#[61, 62]⟩, .string ⟨#[45, 62]⟩]) (.int .i64 0)).run Tryd.prog w = .ok (.string ⟨#[58, 58]⟩) w := by kernel_rfl
theorem two_1 (w : World) : (Instr.index 90 (.agg #[.string ⟨#[58, 58]⟩, .string ⟨#[61, 61]⟩, .string ⟨#[61, 62]⟩, .string ⟨#[45, 62]⟩]) (.int .i64 1)).run Tryd.prog w = .ok (.string ⟨#[61, 61]⟩) w := by kernel_rfl
theorem two_2 (w : World) : (Instr.index 90 (.agg #[.string ⟨#[58, 58]⟩, .string ⟨#[61, 61]⟩, .string ⟨#[61, 62]⟩, .string ⟨#[45, 62]⟩]) (.int .i64 2)).run Tryd.prog w = .ok (.string ⟨#[61, 62]⟩) w := by kernel_rfl
theorem two_3 (w : World) : (Instr.index 90 (.agg #[.string ⟨#[58, 58]⟩, .string ⟨#[61, 61]⟩, .string ⟨#[61, 62]⟩, .string ⟨#[45, 62]⟩]) (.int .i64 3)).run Tryd.prog w = .ok (.string ⟨#[45, 62]⟩) w := by kernel_rfl
theorem sign_any (u : ByteArray) (hu : 0 < u.size) (W : World) : Calls Tryd.prog 21 #[.string u] W fun e W' => e = .returned (.int .i64 (signLen u.data.toList)) ∧ W' = W := by
  obtain ⟨r, hr0⟩ := first_byte hu
  have C0 := Lib.hid (fun p w => Tryd.strings_HasPrefix u p w)
  have HM : Hid ((0 : Int) ≤ Lib.indexByte oneSigns u[0] ↔ u[0] ∈ oneSigns) := Lib.hid (index_mem oneSigns u[0])
  have H0 := Lib.hid hr0
  clear hr0
  go_enter Tryd.func21, Tryd.ntmps21
  go_wp2_with fail
  go_loopw [6] (fun i wr => ∃ t : Nat, t ≤ 4 ∧ i = .int .i64 t ∧ Hid (∀ j p, j < t → twoSigns[j]? = some p → Lib.hasPrefix u.data.toList p = false) ∧ wr = W) (fun i _ => 4 - (intOf i).toNat)
  case atStart => exact ⟨0, by omega, rfl, Lib.hid (fun j _ hj => absurd hj (Nat.not_lt_zero _)), rfl⟩
  case round =>
    obtain ⟨t, ht, rfl, hno, rfl⟩ := hrel
    rcases (show t = 0 ∨ t = 1 ∨ t = 2 ∨ t = 3 ∨ t = 4 by omega) with rfl | rfl | rfl | rfl | rfl
    · have hidx := two_0
      by_cases hv : Lib.hasPrefix u.data.toList [58, 58] = true
      · have hr : signLen u.data.toList = 2 := by rw [signLen, if_pos (by simp [twoSigns, hv])]
        have HRr := Lib.hid hr
        clear hr
        go_wp2_with fail
        refine (C0.out ⟨#[58, 58]⟩ wr).mono ?_
        rintro e w2 ⟨rfl, rfl⟩
        rw [show Lib.hasPrefix u.data.toList (⟨#[58, 58]⟩ : ByteArray).data.toList = true from hv]
        go_wp2
        go_ret
        exact ⟨by rw [HRr.out]; rfl, rfl⟩
      · have hv2 : Lib.hasPrefix u.data.toList [58, 58] = false := by simpa using hv
        have HN : Hid (∀ j p, j < 1 → twoSigns[j]? = some p → Lib.hasPrefix u.data.toList p = false) := Lib.hid (fun j p hj hp => by
          by_cases e : j = 0
          · subst e; simp [twoSigns] at hp; subst hp; exact hv2
          · exact hno.out j p (by omega) hp)
        clear hv
        go_wp2_with fail
        refine (C0.out ⟨#[58, 58]⟩ wr).mono ?_
        rintro e w2 ⟨rfl, rfl⟩
        rw [show Lib.hasPrefix u.data.toList (⟨#[58, 58]⟩ : ByteArray).data.toList = false from hv2]
        go_wp2
        go_roundw
        case rel => exact ⟨1, by omega, rfl, HN, by trivial⟩
        case measure => simp [intOf]
    · have hidx := two_1
      by_cases hv : Lib.hasPrefix u.data.toList [61, 61] = true
      · have hr : signLen u.data.toList = 2 := by rw [signLen, if_pos (by simp [twoSigns, hv])]
        have HRr := Lib.hid hr
        clear hr
        go_wp2_with fail
        refine (C0.out ⟨#[61, 61]⟩ wr).mono ?_
        rintro e w2 ⟨rfl, rfl⟩
        rw [show Lib.hasPrefix u.data.toList (⟨#[61, 61]⟩ : ByteArray).data.toList = true from hv]
        go_wp2
        go_ret
        exact ⟨by rw [HRr.out]; rfl, rfl⟩
      · have hv2 : Lib.hasPrefix u.data.toList [61, 61] = false := by simpa using hv
        have HN : Hid (∀ j p, j < 2 → twoSigns[j]? = some p → Lib.hasPrefix u.data.toList p = false) := Lib.hid (fun j p hj hp => by
          by_cases e : j = 1
          · subst e; simp [twoSigns] at hp; subst hp; exact hv2
          · exact hno.out j p (by omega) hp)
        clear hv
        go_wp2_with fail
        refine (C0.out ⟨#[61, 61]⟩ wr).mono ?_
        rintro e w2 ⟨rfl, rfl⟩
        rw [show Lib.hasPrefix u.data.toList (⟨#[61, 61]⟩ : ByteArray).data.toList = false from hv2]
        go_wp2
        go_roundw
        case rel => exact ⟨2, by omega, rfl, HN, by trivial⟩
        case measure => simp [intOf]
    · have hidx := two_2
      by_cases hv : Lib.hasPrefix u.data.toList [61, 62] = true
      · have hr : signLen u.data.toList = 2 := by rw [signLen, if_pos (by simp [twoSigns, hv])]
        have HRr := Lib.hid hr
        clear hr
        go_wp2_with fail
        refine (C0.out ⟨#[61, 62]⟩ wr).mono ?_
        rintro e w2 ⟨rfl, rfl⟩
        rw [show Lib.hasPrefix u.data.toList (⟨#[61, 62]⟩ : ByteArray).data.toList = true from hv]
        go_wp2
        go_ret
        exact ⟨by rw [HRr.out]; rfl, rfl⟩
      · have hv2 : Lib.hasPrefix u.data.toList [61, 62] = false := by simpa using hv
        have HN : Hid (∀ j p, j < 3 → twoSigns[j]? = some p → Lib.hasPrefix u.data.toList p = false) := Lib.hid (fun j p hj hp => by
          by_cases e : j = 2
          · subst e; simp [twoSigns] at hp; subst hp; exact hv2
          · exact hno.out j p (by omega) hp)
        clear hv
        go_wp2_with fail
        refine (C0.out ⟨#[61, 62]⟩ wr).mono ?_
        rintro e w2 ⟨rfl, rfl⟩
        rw [show Lib.hasPrefix u.data.toList (⟨#[61, 62]⟩ : ByteArray).data.toList = false from hv2]
        go_wp2
        go_roundw
        case rel => exact ⟨3, by omega, rfl, HN, by trivial⟩
        case measure => simp [intOf]
    · have hidx := two_3
      by_cases hv : Lib.hasPrefix u.data.toList [45, 62] = true
      · have hr : signLen u.data.toList = 2 := by rw [signLen, if_pos (by simp [twoSigns, hv])]
        have HRr := Lib.hid hr
        clear hr
        go_wp2_with fail
        refine (C0.out ⟨#[45, 62]⟩ wr).mono ?_
        rintro e w2 ⟨rfl, rfl⟩
        rw [show Lib.hasPrefix u.data.toList (⟨#[45, 62]⟩ : ByteArray).data.toList = true from hv]
        go_wp2
        go_ret
        exact ⟨by rw [HRr.out]; rfl, rfl⟩
      · have hv2 : Lib.hasPrefix u.data.toList [45, 62] = false := by simpa using hv
        have HN : Hid (∀ j p, j < 4 → twoSigns[j]? = some p → Lib.hasPrefix u.data.toList p = false) := Lib.hid (fun j p hj hp => by
          by_cases e : j = 3
          · subst e; simp [twoSigns] at hp; subst hp; exact hv2
          · exact hno.out j p (by omega) hp)
        clear hv
        go_wp2_with fail
        refine (C0.out ⟨#[45, 62]⟩ wr).mono ?_
        rintro e w2 ⟨rfl, rfl⟩
        rw [show Lib.hasPrefix u.data.toList (⟨#[45, 62]⟩ : ByteArray).data.toList = false from hv2]
        go_wp2
        go_roundw
        case rel => exact ⟨4, by omega, rfl, HN, by trivial⟩
        case measure => simp [intOf]
    · have C2 := Lib.hid (indexByte_any ⟨#[123, 125, 40, 41, 44, 59, 58, 46, 42, 38, 61, 43, 45, 60]⟩ u[0] wr)
      have hr : signLen u.data.toList = if (0 : Int) ≤ Lib.indexByte oneSigns u[0] then 1 else 0 := by
        have hf : (twoSigns.any fun p => Lib.hasPrefix u.data.toList p) = false := by
          rw [List.any_eq_false]
          intro p hp
          obtain ⟨j, hj, rfl⟩ := List.getElem_of_mem hp
          rw [hno.out j _ (by simpa [twoSigns] using hj) (List.getElem?_eq_getElem hj)]
          simp
        rw [signLen, if_neg (by rw [hf]; simp), H0.out]
        by_cases h : u[0] ∈ oneSigns
        · rw [if_pos (HM.out.2 h), if_pos (by simpa using h)]
        · rw [if_neg (fun q => h (HM.out.1 q)), if_neg (by simpa using h)]
      have HR2 : Hid (signLen u.data.toList = if (0 : Int) ≤ Lib.indexByte (⟨#[123, 125, 40, 41, 44, 59, 58, 46, 42, 38, 61, 43, 45, 60]⟩ : ByteArray).data.toList u[0] then 1 else 0) := Lib.hid hr
      clear hr
      go_wp2_with fail
      refine C2.out.mono ?_
      rintro e w2 ⟨rfl, rfl⟩
      clear C2
      generalize Lib.indexByte (⟨#[123, 125, 40, 41, 44, 59, 58, 46, 42, 38, 61, 43, 45, 60]⟩ : ByteArray).data.toList u[0] = x at *
      by_cases hx : 0 ≤ x
      · go_wp2
        go_ret
        exact ⟨by rw [HR2.out, if_pos hx]; rfl, rfl⟩
      · go_wp2
        go_ret
        exact ⟨by rw [HR2.out, if_neg (by omega)]; rfl, rfl⟩
end Go.Proofs.YtjoiflokekebkaaDoor
