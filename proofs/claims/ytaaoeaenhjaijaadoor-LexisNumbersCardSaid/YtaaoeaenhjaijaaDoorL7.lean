/- Walks: the document's sign, Reserved. -/
import Derived.Test.YtaaoeaenhjaijaaDoorL6
import Derived.BigQuiet
namespace Go.Proofs.YtaaoeaenhjaijaaDoor
open Go.RowKit

def signW : List ByteArray := [⟨#[58, 58]⟩, ⟨#[61, 61]⟩, ⟨#[61, 62]⟩, ⟨#[45, 62]⟩, ⟨#[123]⟩, ⟨#[125]⟩, ⟨#[40]⟩, ⟨#[41]⟩, ⟨#[44]⟩, ⟨#[59]⟩, ⟨#[58]⟩, ⟨#[46]⟩, ⟨#[42]⟩, ⟨#[38]⟩, ⟨#[61]⟩, ⟨#[43]⟩, ⟨#[45]⟩, ⟨#[60]⟩]
def signCells : Array Value := #[.string ⟨#[58, 58]⟩, .string ⟨#[61, 61]⟩, .string ⟨#[61, 62]⟩, .string ⟨#[45, 62]⟩, .string ⟨#[123]⟩, .string ⟨#[125]⟩, .string ⟨#[40]⟩, .string ⟨#[41]⟩, .string ⟨#[44]⟩, .string ⟨#[59]⟩, .string ⟨#[58]⟩, .string ⟨#[46]⟩, .string ⟨#[42]⟩, .string ⟨#[38]⟩, .string ⟨#[61]⟩, .string ⟨#[43]⟩, .string ⟨#[45]⟩, .string ⟨#[60]⟩]
theorem signCells_at : ∀ t : Nat, t < 18 → signCells[t]? = some (.string (signW.getD t ⟨#[]⟩))
  | 0, _ => rfl
  | 1, _ => rfl
  | 2, _ => rfl
  | 3, _ => rfl
  | 4, _ => rfl
  | 5, _ => rfl
  | 6, _ => rfl
  | 7, _ => rfl
  | 8, _ => rfl
  | 9, _ => rfl
  | 10, _ => rfl
  | 11, _ => rfl
  | 12, _ => rfl
  | 13, _ => rfl
  | 14, _ => rfl
  | 15, _ => rfl
  | 16, _ => rfl
  | 17, _ => rfl
  | n + 18, h => absurd h (by omega)
theorem signs_any (W : World) : Calls Tryd.prog 35 #[] W fun e W' => e = .returned (.slice (some ⟨W.heap.size, 0, none⟩) 18 18) ∧ Bx 9 W' W.heap.size signCells ∧ Below W.heap.size W W' := by
  go_enter Tryd.func35, Tryd.ntmps35
  go_wp2
  go_ret
  exact ⟨rfl, Bx.newAt rfl, w1_alloc (Below.refl _ _) _⟩

theorem prefix_eq (s x : ByteArray) (i : Nat) (hi : i ≤ s.size) : Lib.hasPrefix (s.data.toList.drop i) x.data.toList = (decide (x.size ≤ s.size - i) && ((s.extract i (i + x.size)).toList == x.toList)) := by
  have hsz : s.data.toList.length = s.size := Array.length_toList
  have hxz : x.data.toList.length = x.size := Array.length_toList
  have he : (s.extract i (i + x.size)).toList = (s.data.toList.drop i).take x.size := by rw [ByteArray.toList_eq]; simp
  rw [he, ByteArray.toList_eq, Bool.eq_iff_iff, Lib.hasPrefix, List.isPrefixOf_iff_prefix, List.prefix_iff_eq_take, hxz]
  simp only [Bool.and_eq_true, decide_eq_true_eq, beq_iff_eq]
  constructor
  · intro h
    refine ⟨?_, h.symm⟩
    have := congrArg List.length h
    rw [List.length_take, List.length_drop, hsz, hxz] at this
    omega
  · exact fun h => h.2.symm

theorem one_head {l : List UInt8} {c : UInt8} (h : Lib.hasPrefix l [c] = true) : l.head? = some c := by
  cases l with
  | nil => simp [Lib.hasPrefix] at h
  | cons x l => simp [Lib.hasPrefix] at h; simp [h]
theorem sign_two {l : List UInt8} {p : List UInt8} (hp : p ∈ twoSigns) (h : Lib.hasPrefix l p = true) : signLen l = 2 := by
  rw [signLen, if_pos (List.any_eq_true.2 ⟨p, hp, h⟩)]
theorem sign_one {l : List UInt8} {c : UInt8} (hno : ∀ p ∈ twoSigns, Lib.hasPrefix l p = false) (hc : c ∈ oneSigns) (h : Lib.hasPrefix l [c] = true) : signLen l = 1 := by
  have e : (twoSigns.any fun p => Lib.hasPrefix l p) = false := List.any_eq_false.2 (fun p hp => by rw [hno p hp]; simp)
  rw [signLen, if_neg (by rw [e]; simp), one_head h, if_pos (by simpa using hc)]
theorem sign_hit {l : List UInt8} {t : Nat} (ht : t < 18) (hno : ∀ j, j < t → Lib.hasPrefix l (signW.getD j ⟨#[]⟩).data.toList = false) (h : Lib.hasPrefix l (signW.getD t ⟨#[]⟩).data.toList = true) : signLen l = (signW.getD t ⟨#[]⟩).size := by
  have two : 4 ≤ t → ∀ p ∈ twoSigns, Lib.hasPrefix l p = false := by
    intro h4 p hp
    simp [twoSigns] at hp
    rcases hp with rfl | rfl | rfl | rfl
    · exact hno 0 (by omega)
    · exact hno 1 (by omega)
    · exact hno 2 (by omega)
    · exact hno 3 (by omega)
  match t, ht with
  | 0, _ => exact sign_two (p := [58, 58]) (by simp [twoSigns]) h
  | 1, _ => exact sign_two (p := [61, 61]) (by simp [twoSigns]) h
  | 2, _ => exact sign_two (p := [61, 62]) (by simp [twoSigns]) h
  | 3, _ => exact sign_two (p := [45, 62]) (by simp [twoSigns]) h
  | 4, _ => exact sign_one (c := 123) (two (by omega)) (by simp [oneSigns]) h
  | 5, _ => exact sign_one (c := 125) (two (by omega)) (by simp [oneSigns]) h
  | 6, _ => exact sign_one (c := 40) (two (by omega)) (by simp [oneSigns]) h
  | 7, _ => exact sign_one (c := 41) (two (by omega)) (by simp [oneSigns]) h
  | 8, _ => exact sign_one (c := 44) (two (by omega)) (by simp [oneSigns]) h
  | 9, _ => exact sign_one (c := 59) (two (by omega)) (by simp [oneSigns]) h
  | 10, _ => exact sign_one (c := 58) (two (by omega)) (by simp [oneSigns]) h
  | 11, _ => exact sign_one (c := 46) (two (by omega)) (by simp [oneSigns]) h
  | 12, _ => exact sign_one (c := 42) (two (by omega)) (by simp [oneSigns]) h
  | 13, _ => exact sign_one (c := 38) (two (by omega)) (by simp [oneSigns]) h
  | 14, _ => exact sign_one (c := 61) (two (by omega)) (by simp [oneSigns]) h
  | 15, _ => exact sign_one (c := 43) (two (by omega)) (by simp [oneSigns]) h
  | 16, _ => exact sign_one (c := 45) (two (by omega)) (by simp [oneSigns]) h
  | 17, _ => exact sign_one (c := 60) (two (by omega)) (by simp [oneSigns]) h
  | n + 18, h => exact absurd h (by omega)
theorem sign_none {l : List UInt8} (hno : ∀ j, j < 18 → Lib.hasPrefix l (signW.getD j ⟨#[]⟩).data.toList = false) : signLen l = 0 := by
  have e : (twoSigns.any fun p => Lib.hasPrefix l p) = false := by
    rw [List.any_eq_false]
    intro p hp
    simp [twoSigns] at hp
    rcases hp with rfl | rfl | rfl | rfl
    · exact Bool.eq_false_iff.1 (hno 0 (by omega))
    · exact Bool.eq_false_iff.1 (hno 1 (by omega))
    · exact Bool.eq_false_iff.1 (hno 2 (by omega))
    · exact Bool.eq_false_iff.1 (hno 3 (by omega))
  rw [signLen, if_neg (by rw [e]; simp)]
  cases l with
  | nil => rfl
  | cons x l =>
    rw [if_neg]
    intro hx
    simp [oneSigns] at hx
    have hp : ∀ c, x = c → Lib.hasPrefix (x :: l) [c] = true := fun c e => by subst e; simp [Lib.hasPrefix]
    rcases hx with h | h | h | h | h | h | h | h | h | h | h | h | h | h
    · have := hno 4 (by omega); rw [show Lib.hasPrefix (x :: l) (signW.getD 4 ⟨#[]⟩).data.toList = true from hp 123 h] at this; cases this
    · have := hno 5 (by omega); rw [show Lib.hasPrefix (x :: l) (signW.getD 5 ⟨#[]⟩).data.toList = true from hp 125 h] at this; cases this
    · have := hno 6 (by omega); rw [show Lib.hasPrefix (x :: l) (signW.getD 6 ⟨#[]⟩).data.toList = true from hp 40 h] at this; cases this
    · have := hno 7 (by omega); rw [show Lib.hasPrefix (x :: l) (signW.getD 7 ⟨#[]⟩).data.toList = true from hp 41 h] at this; cases this
    · have := hno 8 (by omega); rw [show Lib.hasPrefix (x :: l) (signW.getD 8 ⟨#[]⟩).data.toList = true from hp 44 h] at this; cases this
    · have := hno 9 (by omega); rw [show Lib.hasPrefix (x :: l) (signW.getD 9 ⟨#[]⟩).data.toList = true from hp 59 h] at this; cases this
    · have := hno 10 (by omega); rw [show Lib.hasPrefix (x :: l) (signW.getD 10 ⟨#[]⟩).data.toList = true from hp 58 h] at this; cases this
    · have := hno 11 (by omega); rw [show Lib.hasPrefix (x :: l) (signW.getD 11 ⟨#[]⟩).data.toList = true from hp 46 h] at this; cases this
    · have := hno 12 (by omega); rw [show Lib.hasPrefix (x :: l) (signW.getD 12 ⟨#[]⟩).data.toList = true from hp 42 h] at this; cases this
    · have := hno 13 (by omega); rw [show Lib.hasPrefix (x :: l) (signW.getD 13 ⟨#[]⟩).data.toList = true from hp 38 h] at this; cases this
    · have := hno 14 (by omega); rw [show Lib.hasPrefix (x :: l) (signW.getD 14 ⟨#[]⟩).data.toList = true from hp 61 h] at this; cases this
    · have := hno 15 (by omega); rw [show Lib.hasPrefix (x :: l) (signW.getD 15 ⟨#[]⟩).data.toList = true from hp 43 h] at this; cases this
    · have := hno 16 (by omega); rw [show Lib.hasPrefix (x :: l) (signW.getD 16 ⟨#[]⟩).data.toList = true from hp 45 h] at this; cases this
    · have := hno 17 (by omega); rw [show Lib.hasPrefix (x :: l) (signW.getD 17 ⟨#[]⟩).data.toList = true from hp 60 h] at this; cases this


set_option maxHeartbeats 2000000 in
theorem rsign_any (s : ByteArray) (i : Nat) (hi : i < s.size) (hs : s.size ≤ 1000000000000) (W : World) :
    Calls Tryd.prog 24 #[.string s, .int .i64 i] W fun e W' => e = .returned (.string (s.extract i (i + signLen (s.data.toList.drop i)))) ∧ Below W.heap.size W W' := by
  have C := Lib.hid (signs_any W)
  go_enter Tryd.func24, Tryd.ntmps24
  go_wp2_with fail
  refine C.out.mono ?_
  rintro e w1 ⟨rfl, bx, b1⟩
  have B1 := Lib.hid bx
  have Z1 := Lib.hid b1
  clear bx b1 C
  go_wp2_with fail
  go_loopw [6] (fun n wr => ∃ t : Nat, t ≤ 18 ∧ n = .int .i64 t ∧ Hid (∀ j, j < t → Lib.hasPrefix (s.data.toList.drop i) (signW.getD j ⟨#[]⟩).data.toList = false) ∧ Hid (Bx 9 wr W.heap.size signCells) ∧ Hid (Below W.heap.size W wr)) (fun n _ => 18 - (intOf n).toNat)
  case atStart => exact ⟨0, by omega, rfl, Lib.hid (fun j hj => absurd hj (Nat.not_lt_zero _)), B1, Z1⟩
  case round =>
    obtain ⟨t, ht, rfl, hno, hb, hz⟩ := hrel
    clear B1 Z1
    obtain ⟨lb, hbc, fb⟩ := hb.out.see
    have hti : (0 : Int) ≤ (t : Int) := by omega
    by_cases hlt : t < 18
    · have htl : (t : Int) < 18 := by omega
      have hc0 := hbc t
      rw [signCells_at t hlt] at hc0
      have hpe := prefix_eq s (signW.getD t ⟨#[]⟩) i (by omega)
      have HIT := Lib.hid (fun h => sign_hit (l := s.data.toList.drop i) hlt hno.out h)
      have HN : Hid (Lib.hasPrefix (s.data.toList.drop i) (signW.getD t ⟨#[]⟩).data.toList = false → ∀ j, j < t + 1 → Lib.hasPrefix (s.data.toList.drop i) (signW.getD j ⟨#[]⟩).data.toList = false) := Lib.hid (fun h j hj => by
        by_cases e : j = t
        · subst e; exact h
        · exact hno.out j (by omega))
      have hsz18 : (signW.getD t ⟨#[]⟩).size ≤ 2 := by
        have : ∀ x ∈ signW, x.size ≤ 2 := by decide
        apply this
        rw [List.getD_eq_getElem?_getD, List.getElem?_eq_getElem (by simpa [signW] using hlt)]
        exact List.getElem_mem _
      generalize signW.getD t ⟨#[]⟩ = x at *
      clear hbc
      have hwr1 : IntKind.i64.wrap ((s.size : Int) - (i : Int)) = (s.size : Int) - (i : Int) := by rw [IntKind.wrap_i64]; omega
      have hwr2 : IntKind.i64.wrap ((i : Int) + (x.size : Int)) = (i : Int) + (x.size : Int) := by rw [IntKind.wrap_i64]; omega
      by_cases hfit : x.size ≤ s.size - i
      · have d1 : decide ((x.size : Int) ≤ (s.size : Int) - (i : Int)) = true := by simp; omega
        have hsl0 : (0 : Int) ≤ (i : Int) := by omega
        have hsl1 : (i : Int) ≤ (i : Int) + (x.size : Int) := by omega
        have hsl2 : (i : Int) + (x.size : Int) ≤ (s.size : Int) := by omega
        have htn : ((i : Int) + (x.size : Int)).toNat = i + x.size := by omega
        rw [decide_eq_true hfit, Bool.true_and] at hpe
        cases heq : (s.extract i (i + x.size)).toList == x.toList
        · rw [heq] at hpe
          have HN2 := Lib.hid (HN.out hpe)
          clear hpe HN HIT
          go_wp2_with fail
          go_quiet (fail)
          go_wp2
          go_roundw
          case rel => exact ⟨t + 1, by omega, by go_num, HN2, Lib.hid (Bx.drewN hb.out _), Lib.hid (bel_drewN hz.out _)⟩
          case measure => simp [intOf]; omega
        · rw [heq] at hpe
          have HSL := Lib.hid (HIT.out hpe)
          have HEX : Hid (s.extract i (i + x.size) = x) := Lib.hid (by
            have := beq_iff_eq.1 heq
            rw [ByteArray.toList_eq, ByteArray.toList_eq] at this
            exact bytes_eq this)
          clear hpe HN HIT
          go_wp2_with fail
          go_quiet (fail)
          go_wp2
          go_ret
          exact ⟨by rw [HSL.out, HEX.out]; rfl, bel_drewN hz.out _⟩
      · have d1 : decide ((x.size : Int) ≤ (s.size : Int) - (i : Int)) = false := by simp; omega
        rw [decide_eq_false hfit, Bool.false_and] at hpe
        have HN2 := Lib.hid (HN.out hpe)
        clear hpe HN HIT
        go_wp2_with fail
        go_quiet (fail)
        go_wp2
        go_roundw
        case rel => exact ⟨t + 1, by omega, by go_num, HN2, Lib.hid (Bx.drewN hb.out _), Lib.hid (bel_drewN hz.out _)⟩
        case measure => simp [intOf]; omega
    · obtain rfl : t = 18 := by omega
      have hr := sign_none hno.out
      have HRr : Hid (s.extract i (i + signLen (s.data.toList.drop i)) = ⟨#[]⟩) := Lib.hid (by
        rw [hr]
        apply bytes_eq
        simp)
      clear hbc hr
      go_wp2
      go_ret
      exact ⟨by rw [HRr.out]; rfl, hz.out⟩

def resCells : Array Value := #[.string ⟨#[115, 116, 114, 117, 99, 116]⟩, .string ⟨#[101, 110, 117, 109]⟩, .string ⟨#[99, 111]⟩, .string ⟨#[108, 101, 116]⟩, .string ⟨#[105, 102]⟩, .string ⟨#[101, 108, 115, 101]⟩, .string ⟨#[119, 104, 105, 108, 101]⟩, .string ⟨#[109, 97, 116, 99, 104]⟩, .string ⟨#[121, 105, 101, 108, 100]⟩, .string ⟨#[114, 101, 116, 117, 114, 110]⟩, .string ⟨#[112, 114, 105, 110, 116]⟩, .string ⟨#[100, 114, 111, 112]⟩, .string ⟨#[98, 111, 120]⟩, .string ⟨#[117, 110, 98, 111, 120]⟩, .string ⟨#[115, 116, 97, 114, 116]⟩, .string ⟨#[97, 119, 97, 105, 116]⟩, .string ⟨#[112, 111, 108, 108]⟩, .string ⟨#[119, 97, 105, 116]⟩, .string ⟨#[109, 117, 116]⟩, .string ⟨#[105, 110, 116]⟩]
theorem resCells_at : ∀ t : Nat, t < 20 → resCells[t]? = some (.string (resW.getD t ⟨#[]⟩))
  | 0, _ => rfl
  | 1, _ => rfl
  | 2, _ => rfl
  | 3, _ => rfl
  | 4, _ => rfl
  | 5, _ => rfl
  | 6, _ => rfl
  | 7, _ => rfl
  | 8, _ => rfl
  | 9, _ => rfl
  | 10, _ => rfl
  | 11, _ => rfl
  | 12, _ => rfl
  | 13, _ => rfl
  | 14, _ => rfl
  | 15, _ => rfl
  | 16, _ => rfl
  | 17, _ => rfl
  | 18, _ => rfl
  | 19, _ => rfl
  | n + 20, h => absurd h (by omega)
theorem rreserved_any (u : ByteArray) (W : World) : Calls Tryd.prog 18 #[.string u] W fun e W' => e = .returned (.bool (resB u)) ∧ Below W.heap.size W W' := by
  have B1 : Hid (Bx 9 (W.alloc (.cells resCells 9)) W.heap.size resCells) := Lib.hid (Bx.newAt rfl)
  have Z1 : Hid (Below W.heap.size W (W.alloc (.cells resCells 9))) := Lib.hid (w1_alloc (Below.refl _ _) _)
  go_enter Tryd.func18, Tryd.ntmps18
  go_wp2_with fail
  go_loopw [4] (fun n wr => ∃ t : Nat, t ≤ 20 ∧ n = .int .i64 t ∧ Hid (∀ j, j < t → (u.toList == (resW.getD j ⟨#[]⟩).toList) = false) ∧ Hid (Bx 9 wr W.heap.size resCells) ∧ Hid (Below W.heap.size W wr)) (fun n _ => 20 - (intOf n).toNat)
  case atStart => exact ⟨0, by omega, rfl, Lib.hid (fun j hj => absurd hj (Nat.not_lt_zero _)), B1, Z1⟩
  case round =>
    obtain ⟨t, ht, rfl, hno, hb, hz⟩ := hrel
    clear B1 Z1
    obtain ⟨lb, hbc, fb⟩ := hb.out.see
    have hti : (0 : Int) ≤ (t : Int) := by omega
    by_cases hlt : t < 20
    · have htl : (t : Int) < 20 := by omega
      have hc0 := hbc t
      rw [resCells_at t hlt] at hc0
      have HT := Lib.hid (show resW.getD t ⟨#[]⟩ ∈ resW by
        rw [List.getD_eq_getElem?_getD, List.getElem?_eq_getElem (by simpa [resW] using hlt)]
        exact List.getElem_mem _)
      generalize hx : resW.getD t ⟨#[]⟩ = x at *
      have HXx := Lib.hid hx
      clear hx hbc
      have hcm : (x.toList == u.toList) = (u.toList == x.toList) := by rw [Bool.eq_iff_iff]; simp only [beq_iff_eq]; exact eq_comm
      cases hv : u.toList == x.toList
      · rw [hv] at hcm
        have HN : Hid (∀ j, j < t + 1 → (u.toList == (resW.getD j ⟨#[]⟩).toList) = false) := Lib.hid (fun j hj => by
          by_cases e : j = t
          · subst e; rw [HXx.out]; exact hv
          · exact hno.out j (by omega))
        clear hv
        go_wp2
        go_roundw
        case rel => exact ⟨t + 1, by omega, by go_num, HN, hb, hz⟩
        case measure => simp [intOf]; omega
      · rw [hv] at hcm
        have HRr : Hid (resB u = true) := Lib.hid (by rw [resB, List.any_eq_true]; exact ⟨x, HT.out, hv⟩)
        clear hv
        go_wp2
        go_ret
        exact ⟨by rw [HRr.out]; rfl, hz.out⟩
    · obtain rfl : t = 20 := by omega
      have HRr : Hid (resB u = false) := Lib.hid (by
        rw [resB, List.any_eq_false]
        intro x hx
        obtain ⟨j, hj, rfl⟩ := List.getElem_of_mem hx
        have := hno.out j (by simpa [resW] using hj)
        rw [List.getD_eq_getElem?_getD, List.getElem?_eq_getElem hj] at this
        simpa using this)
      clear hbc
      go_wp2
      go_ret
      exact ⟨by rw [HRr.out]; rfl, hz.out⟩
end Go.Proofs.YtaaoeaenhjaijaaDoor
