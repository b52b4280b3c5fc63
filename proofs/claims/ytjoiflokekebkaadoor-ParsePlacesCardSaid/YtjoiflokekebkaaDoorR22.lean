/- Walks: begins, rising. -/
import Derived.Test.YtjoiflokekebkaaDoorR20
import Derived.Test.YtjoiflokekebkaaDoorP5
import Derived.Test.YtjoiflokekebkaaDoorPs
set_option linter.all false
namespace Go.Proofs.YtjoiflokekebkaaDoor
open Go.RowKit

theorem begins_drop {l : List Tk} {i : Nat} {t : Tk} {a : Int} {txt : ByteArray} (h : l[i]? = some t) (hne : ¬ t.at_ = a) : beginsB (l.drop i) a txt = beginsB (l.drop (i + 1)) a txt := by
  obtain ⟨hi, he⟩ := List.getElem?_eq_some_iff.1 h
  rw [List.drop_eq_getElem_cons hi, he, beginsB, if_neg hne]
theorem begins_here {l : List Tk} {i : Nat} {t : Tk} {a : Int} {txt : ByteArray} (h : l[i]? = some t) (he : t.at_ = a) : beginsB (l.drop i) a txt = (txt.toList == (⟨#[]⟩ : ByteArray).toList || t.s.toList == txt.toList) := by
  obtain ⟨hi, hx⟩ := List.getElem?_eq_some_iff.1 h
  rw [List.drop_eq_getElem_cons hi, hx, beginsB, if_pos he]
theorem row_len {w : World} {base : Nat} {e : TypeId} {size n : Nat} {v : Value} {xs : List Value} (h : w.ownsRow base e size v n xs) : n ≤ 9223372036854775807 := by
  obtain ⟨_, ⟨_, rfl⟩ | ⟨g, cap, cur, hv, hb, hh, h1, h2, _⟩⟩ := h
  · omega
  · have : maxLen = 9223372036854775807 := rfl; omega
set_option maxRecDepth 100000 in
set_option maxHeartbeats 4000000 in
theorem begins_any (l : List Tk) (v : Value) (a : Int) (txt : ByteArray) (W : World) (B : Nat) (ho : W.ownsRow B 48 4 v l.length (tcells l)) :
    Calls Tryd.prog 8 #[v, .int .i64 a, .string txt] W fun e w' => e = .returned (.bool (beginsB l a txt)) ∧ w' = W := by
  obtain ⟨A, c, rfl⟩ := row_slice ho
  have hlen := row_len ho
  have HO := Lib.hid ho
  clear ho
  go_enter Tryd.func8, Tryd.ntmps8
  go_wp2_with fail
  go_loopw [7] (fun v7 wr => ∃ i : Nat, v7 = .int .i64 i ∧ i ≤ l.length ∧ Hid (beginsB l a txt = beginsB (l.drop i) a txt) ∧ wr = W) (fun v7 _ => l.length - (intOf v7).toNat)
  case atStart => exact ⟨0, rfl, Nat.zero_le _, Lib.hid rfl, rfl⟩
  case round =>
    obtain ⟨i, rfl, hi, hp, hwr⟩ := hrel
    subst hwr
    by_cases hlt : i < l.length
    · have htl : (i : Int) < (l.length : Int) := by omega
      obtain ⟨t, ht⟩ : ∃ t, l[i]? = some t := ⟨_, List.getElem?_eq_getElem hlt⟩
      obtain ⟨g, rfl, _, hg, _, hc⟩ := row_at HO.out (by omega)
      obtain ⟨t0, t1, t2, t3⟩ := tcells_at l i t ht
      have c1 := hc _ _ t1
      have c3 := hc _ _ t3
      have HT := Lib.hid ht
      clear hc t0 t1 t2 t3 ht
      by_cases he : t.at_ = a
      · have HB := begins_here (txt := txt) HT.out he
        by_cases hemp : txt.toList.isEmpty = true
        · go_wp2_with fail
          go_ret
          refine ⟨?_, rfl⟩
          rw [hp.out, HB]
          have : txt.toList = [] := List.isEmpty_iff.1 hemp
          rw [this]
          simp [ByteArray.toList_eq]
        · go_wp2_with fail
          go_ret
          refine ⟨?_, rfl⟩
          rw [hp.out, HB]
          have : (txt.toList == (⟨#[]⟩ : ByteArray).toList) = false := by
            cases hx : txt.toList with
            | nil => rw [hx] at hemp; simp at hemp
            | cons a b => simp [ByteArray.toList_eq]
          rw [this]
          simp
      · have hnx := begins_drop (txt := txt) HT.out he
        have HP2 : Hid (beginsB l a txt = beginsB (l.drop (i + 1)) a txt) := Lib.hid (by rw [hp.out, hnx])
        clear hnx hp
        go_wp2_with fail
        go_roundw
        case rel => exact ⟨i + 1, by go_num, by omega, HP2, by first | rfl | trivial⟩
        case measure => simp [intOf]; omega
    · obtain rfl : i = l.length := by omega
      have HP : beginsB l a txt = false := by rw [hp.out, List.drop_length]; rfl
      go_wp2_with fail
      go_ret
      exact ⟨by rw [HP]; rfl, rfl⟩
end Go.Proofs.YtjoiflokekebkaaDoor
