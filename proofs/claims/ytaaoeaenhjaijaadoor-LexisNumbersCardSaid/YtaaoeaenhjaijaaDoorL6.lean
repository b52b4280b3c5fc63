/- Walks: the document's number. -/
import Derived.Test.YtaaoeaenhjaijaaDoorL5
import Derived.Deep.CutRange
namespace Go.Proofs.YtaaoeaenhjaijaaDoor
open Go.RowKit

theorem valueFrom_snoc (l : List UInt8) (c : UInt8) : value (l ++ [c]) = value l * 10 + (c.toNat - 48) := by simp [value, valueFrom]
theorem valueFrom_app (l m : List UInt8) : value l ≤ value (l ++ m) := by
  unfold value valueFrom
  rw [List.foldl_append]
  exact valueFrom_le m _
theorem value_take {l : List UInt8} {t : Nat} {c : UInt8} (h : l[t]? = some c) : value (l.take (t + 1)) = value (l.take t) * 10 + (c.toNat - 48) := by
  rw [List.take_add_one, h]
  exact valueFrom_snoc _ _
theorem value_take_le (l : List UInt8) (t : Nat) : value (l.take t) ≤ value l := by
  have := valueFrom_app (l.take t) (l.drop t)
  rwa [List.take_append_drop] at this

def numV (l : List UInt8) : Value := if 9223372036854775807 < value l then .tuple #[.int .i64 0, .bool false] else .tuple #[.int .i64 (value l), .bool true]
set_option maxRecDepth 100000 in
theorem rnumber_any (u : ByteArray) (hd : ∀ c ∈ u.data.toList, isD c = true) (hs : u.size ≤ 1000000000000) (W : World) :
    Calls Tryd.prog 23 #[.string u] W fun e W' => e = .returned (numV u.data.toList) ∧ W' = W := by
  have hsz : u.data.toList.length = u.size := Array.length_toList
  have HD := Lib.hid hd
  clear hd
  go_enter Tryd.func23, Tryd.ntmps23
  go_wp2_with fail
  go_loopw [4, 5] (fun n i wr => ∃ (t : Nat) (a : Int), t ≤ u.size ∧ i = .int .i64 t ∧ n = .int .i64 a ∧ Hid (a = value (u.data.toList.take t)) ∧ 0 ≤ a ∧ a ≤ 9223372036854775807 ∧ wr = W) (fun _ i _ => u.size - (intOf i).toNat)
  case atStart => exact ⟨0, 0, Nat.zero_le _, rfl, rfl, Lib.hid rfl, by omega, by omega, rfl⟩
  case round =>
    obtain ⟨t, a, ht, rfl, rfl, hv, ha0, ha1, rfl⟩ := hrel
    have hti : (0 : Int) ≤ (t : Int) := by omega
    by_cases hlt : t < u.size
    · have htl : (t : Int) < (u.size : Int) := by omega
      have hx : u.data.toList[t]? = some u[t] := by rw [List.getElem?_eq_getElem (by omega)]; rfl
      have hdc := HD.out _ (List.mem_of_getElem? hx)
      have hvt := value_take hx
      have hle := value_take_le u.data.toList (t + 1)
      rw [hvt, ] at hle
      have HVT := Lib.hid hvt
      have HLE := Lib.hid hle
      clear hvt hle hx hsz
      simp only [isD, Bool.and_eq_true, decide_eq_true_eq] at hdc
      obtain ⟨hd0, hd1⟩ := hdc
      go_upto_region 6 with fail
      have hd9 : 0 ≤ (u[t].toNat : Int) - 48 ∧ (u[t].toNat : Int) - 48 ≤ 9 := by omega
      generalize hdx : ((u[t].toNat : Int) - 48) = d at *
      have HDX := Lib.hid hdx
      obtain ⟨dd0, dd9⟩ := hd9
      clear hdx hd0 hd1
      by_cases hgt : (9223372036854775807 - d) / 10 < a
      · have HRr : Hid (numV u.data.toList = .tuple #[.int .i64 0, .bool false]) := Lib.hid (by
          have := HLE.out
          have h1 := hv.out
          have h2 := HDX.out
          rw [numV, if_pos (by omega)])
        go_wp2
        exact bodyPost_ret (v := .tuple #[.int .i64 0, .bool false]) (by (simp only [results, Tryd.results23]); go_simp) rfl ⟨by rw [HRr.out], rfl⟩
      · have hm0 : 0 ≤ a * 10 := by omega
        have hm1 : a * 10 + d ≤ 9223372036854775807 := by omega
        have HV2 : Hid (a * 10 + d = value (u.data.toList.take (t + 1))) := Lib.hid (by
          have := HVT.out
          have h1 := hv.out
          have h2 := HDX.out
          omega)
        go_wp2
        go_roundw
        case rel => exact ⟨t + 1, a * 10 + d, by omega, by go_num, rfl, HV2, by omega, by omega, by trivial⟩
        case measure => simp [intOf]; omega
    · obtain rfl : t = u.size := by omega
      have hv2 : a = value u.data.toList := by rw [hv.out, List.take_of_length_le (by omega)]
      have HRr : Hid (numV u.data.toList = .tuple #[.int .i64 a, .bool true]) := Lib.hid (by rw [numV, if_neg (by omega), ← hv2])
      clear hv2 hsz
      go_wp2
      exact bodyPost_ret (v := .tuple #[.int .i64 a, .bool true]) (by (simp only [results, Tryd.results23]); go_simp) rfl ⟨by rw [HRr.out], rfl⟩
end Go.Proofs.YtaaoeaenhjaijaaDoor
