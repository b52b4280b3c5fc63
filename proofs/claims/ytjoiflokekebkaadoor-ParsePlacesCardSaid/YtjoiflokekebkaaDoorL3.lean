/- Walks: next. -/
import Derived.Test.YtjoiflokekebkaaDoorL2
import Derived.Test.YtjoiflokekebkaaDoorBase
set_option linter.all false
namespace Go.Proofs.YtjoiflokekebkaaDoor
open Go.RowKit

theorem w1_alloc {w W : World} (h : Below w.heap.size w W) (o : Obj) : Below w.heap.size w (W.alloc o) := h.alloc h.size o
theorem w1_drewN {w W : World} (h : Below w.heap.size w W) (n : Nat) : Below w.heap.size w (W.drewN n) := ⟨h.os, h.tape, h.output, h.size, h.block⟩
theorem w1_set {w W : World} (h : Below w.heap.size w W) {p : Addr} (hp : w.heap.size ≤ p.block) (u : Value) : Below w.heap.size w (W.setCell p u) := h.setCell hp u

/-- The variable strconv.ErrRange holds some value of an interface's type. -/
def HasErr (W : World) : Prop := ∃ ev, W.cell? ⟨2, 0, none⟩ = some ev ∧ (ev = .nilIface ∨ ∃ te pe, ev = .iface te pe)
theorem HasErr.lt {W : World} (h : HasErr W) : 2 < W.heap.size := by
  obtain ⟨ev, h, _⟩ := h
  exact World.block_lt_of_cell? W ⟨2, 0, none⟩ h
theorem HasErr.below {W W' : World} (h : HasErr W) (hb : Below W.heap.size W W') : HasErr W' := by
  have := h.lt
  obtain ⟨ev, h1, h2⟩ := h
  exact ⟨ev, (hb.cell (p := ⟨2, 0, none⟩) this).trans h1, h2⟩

theorem atoi_ok (s : ByteArray) (hs : s.size ≤ 1000000000000) (v : Int) (h : Lib.atoiAll s.data.toList = .ok v) (w : World) :
    Calls Tryd.prog 20 #[.string s] w fun e w' => e = .returned (.tuple #[.int .i64 v, .nilIface]) ∧ Below w.heap.size w w' :=
  (Tryd.strconv_Atoi_ok s (by omega) v h w).mono fun e w' q => ⟨q.1, by
    rcases q.2 with rfl | ⟨t, rfl⟩
    · exact Below.refl _ _
    · exact Lib.bytesWorld_below _ _ _⟩
theorem atoi_range (s : ByteArray) (hs : s.size ≤ 1000000000000) (h : Lib.atoiAll s.data.toList = .range) (w : World) (hv : HasErr w) :
    Calls Tryd.prog 20 #[.string s] w fun e w' => (∃ n N, e = .returned (.tuple #[.int .i64 n, .iface 106 (.pointer (some ⟨N, 0, none⟩))])) ∧ Below w.heap.size w w' := by
  obtain ⟨ev, h1, h2⟩ := hv
  exact (Tryd.strconv_Atoi_range s (by omega) h ev w h1 h2).mono fun e w' ⟨N, q1, _, _, q2⟩ => ⟨⟨_, N, q1⟩, q2⟩

def pcV (u : ByteArray) : Pc → Value
  | .tok k n v => .tuple #[.agg #[.int .i64 k, .string (u.extract 0 n), .int .i64 v, .int .i64 0], .int .i64 0]
  | .bad e => .tuple #[.agg #[.int .i64 0, .string ⟨#[]⟩, .int .i64 0, .int .i64 0], .int .i64 e]
  | .skip _ => .tuple #[]
def nextV (u : ByteArray) : Value := pcV u (nextP u.data.toList)

theorem ext_list (u : ByteArray) (n : Nat) : (u.extract 0 n).data.toList = u.data.toList.take n := by simp

set_option maxHeartbeats 1000000 in
theorem next_any (u : ByteArray) (hu : 0 < u.size) (hs : u.size ≤ 1000000) (W : World) (hv : HasErr W) : Calls Tryd.prog 11 #[.string u] W fun e W' => e = .returned (nextV u) ∧ Below W.heap.size W W' := by
  obtain ⟨r, hr0⟩ := first_byte hu
  have H0 := Lib.hid hr0
  have HV := Lib.hid hv
  clear hr0 hv
  go_enter Tryd.func11, Tryd.ntmps11
  go_wp2_with fail
  refine (letter_any u[0] _).mono ?_
  rintro e w1 ⟨rfl, rfl⟩
  cases hl : isL u[0]
  · go_wp2_with fail
    refine (digit_any u[0] _).mono ?_
    rintro e w2 ⟨rfl, rfl⟩
    cases hd : isD u[0]
    · go_wp2_with fail
      refine (sign_any u hu _).mono ?_
      rintro e w3 ⟨rfl, rfl⟩
      have hp : nextP u.data.toList = if signLen u.data.toList = 0 then .bad 40 else .tok 3 (signLen u.data.toList) 0 := by
        rw [H0.out, nextP]
        simp [hl, hd]
      have hle := signLen_le u.data.toList
      have hsz : u.data.toList.length = u.size := Array.length_toList
      rw [hsz] at hle
      have HB := Lib.hid (Below.refl W.heap.size W)
      generalize signLen u.data.toList = n at *
      clear hsz
      by_cases hn : n = 0
      · subst hn
        have HRr : Hid (nextV u = pcV u (.bad 40)) := Lib.hid (by rw [nextV, hp]; rfl)
        clear hp
        go_wp2
        exact bodyPost_ret (v := .tuple #[.agg #[.int .i64 0, .string ⟨#[]⟩, .int .i64 0, .int .i64 0], .int .i64 40]) (by (simp only [results, Tryd.results11]); go_simp) rfl ⟨by rw [HRr.out]; rfl, by repeat (first | exact HB.out | exact Below.refl _ _ | (refine w1_set ?_ (by simp) _) | apply w1_alloc | apply w1_drewN)⟩
      · have hn2 : ((n : Int) == 0) = false := by simpa using hn
        have HRr : Hid (nextV u = pcV u (.tok 3 n 0)) := Lib.hid (by rw [nextV, hp, if_neg hn])
        clear hp
        have hn3 : (0 : Int) ≤ (n : Int) := by omega
        have hn4 : (n : Int) ≤ (u.size : Int) := by omega
        go_wp2
        exact bodyPost_ret (v := .tuple #[.agg #[.int .i64 3, .string (u.extract 0 n), .int .i64 0, .int .i64 0], .int .i64 0]) (by (simp only [results, Tryd.results11]); go_simp) rfl ⟨by rw [HRr.out]; rfl, by repeat (first | exact HB.out | exact Below.refl _ _ | (refine w1_set ?_ (by simp) _) | apply w1_alloc | apply w1_drewN)⟩
    · have hpos : 0 < run isD u.data.toList := by rw [H0.out]; exact run_pos hd
      have hle := run_le isD u.data.toList
      have hsz : u.data.toList.length = u.size := Array.length_toList
      rw [hsz] at hle
      have hall : ∀ c ∈ u.data.toList.take (run isD u.data.toList), isD c = true := run_all
      have hp : nextP u.data.toList = if 9223372036854775807 < value (u.data.toList.take (run isD u.data.toList)) then .bad 41 else .tok 2 (run isD u.data.toList) (value (u.data.toList.take (run isD u.data.toList))) := by
        generalize hn : run isD u.data.toList = n
        rw [H0.out] at hn ⊢
        rw [nextP]
        simp only [hl, hd, hn]
        rfl
      have hne : u.data.toList.take (run isD u.data.toList) ≠ [] := by
        intro e
        have := congrArg List.length e
        rw [List.length_take, List.length_nil, hsz] at this
        omega
      have hat := atoi_digits hall hne
      have C1 := Lib.hid (length_digit u (by omega))
      have HB := Lib.hid (Below.refl W.heap.size W)
      have hex := ext_list u (run isD u.data.toList)
      rw [← hex] at hat hp
      clear hall hne hsz hpos
      generalize run isD u.data.toList = n at *
      go_wp2_with fail
      refine (C1.out _).mono ?_
      rintro e w3 ⟨rfl, rfl⟩
      have hn3 : (0 : Int) ≤ (n : Int) := by omega
      have hn4 : (n : Int) ≤ (u.size : Int) := by omega
      have hts : (u.extract 0 n).size ≤ 1000000000000 := by simp; omega
      by_cases hv : 9223372036854775807 < value (u.extract 0 n).data.toList
      · have HRr : Hid (nextV u = pcV u (.bad 41)) := Lib.hid (by rw [nextV, hp, if_pos hv])
        rw [if_pos hv] at hat
        have C2 := Lib.hid (fun w h => atoi_range (u.extract 0 n) hts hat w h)
        clear hp hat hex hv C1
        go_wp2_with fail
        refine (C2.out _ (HV.out.below (by repeat (first | exact Below.refl _ _ | apply w1_alloc | apply w1_drewN)))).mono ?_
        rintro e w4 ⟨⟨m, N, rfl⟩, b4⟩
        have HB4 := Lib.hid (Below.trans (by repeat (first | exact Below.refl _ _ | apply w1_alloc | apply w1_drewN)) (b4.mono (by simp)) : Below W.heap.size W w4)
        have P4 := Lib.hid (Bx.below (Bx.newAt (t := 48) (w := W) (x := W.heap.size) (cs := #[.int .i64 0, .string ⟨#[]⟩, .int .i64 0, .int .i64 0]) rfl) b4)
        obtain ⟨lp, hp4, fp⟩ := P4.out.see
        clear b4
        go_wp2
        exact bodyPost_ret (v := .tuple #[.agg #[.int .i64 0, .string ⟨#[]⟩, .int .i64 0, .int .i64 0], .int .i64 41]) (by (simp only [results, Tryd.results11]); go_simp) rfl ⟨by rw [HRr.out]; rfl, by repeat (first | exact HB4.out | exact Below.refl _ _ | (refine w1_set ?_ (by simp) _) | apply w1_alloc | apply w1_drewN)⟩
      · have HRr : Hid (nextV u = pcV u (.tok 2 n (value (u.extract 0 n).data.toList))) := Lib.hid (by rw [nextV, hp, if_neg hv])
        rw [if_neg hv] at hat
        have C2 := Lib.hid (fun w => atoi_ok (u.extract 0 n) hts _ hat w)
        clear hp hat hex hv C1
        generalize (value (u.extract 0 n).data.toList : Int) = vv at *
        go_wp2_with fail
        refine (C2.out _).mono ?_
        rintro e w4 ⟨rfl, b4⟩
        have HB4 := Lib.hid (Below.trans (by repeat (first | exact Below.refl _ _ | apply w1_alloc | apply w1_drewN)) (b4.mono (by simp)) : Below W.heap.size W w4)
        have P4 := Lib.hid (Bx.below (Bx.newAt (t := 48) (w := W) (x := W.heap.size) (cs := #[.int .i64 0, .string ⟨#[]⟩, .int .i64 0, .int .i64 0]) rfl) b4)
        obtain ⟨lp, hp4, fp⟩ := P4.out.see
        clear b4
        go_wp2
        exact bodyPost_ret (v := .tuple #[.agg #[.int .i64 2, .string (u.extract 0 n), .int .i64 vv, .int .i64 0], .int .i64 0]) (by (simp only [results, Tryd.results11]); go_simp) rfl ⟨by rw [HRr.out]; rfl, by repeat (first | exact HB4.out | exact Below.refl _ _ | (refine w1_set ?_ (by simp) _) | apply w1_alloc | apply w1_drewN)⟩
  · have hle := run_le isI u.data.toList
    have hsz : u.data.toList.length = u.size := Array.length_toList
    rw [hsz] at hle
    have hp : nextP u.data.toList = if 24 < run isI u.data.toList then .bad 42 else .tok 1 (run isI u.data.toList) 0 := by
      generalize hn : run isI u.data.toList = n
      rw [H0.out] at hn ⊢
      rw [nextP]
      simp only [hl, hn]
      rfl
    have C1 := Lib.hid (length_inner u (by omega))
    have HB := Lib.hid (Below.refl W.heap.size W)
    clear hsz
    generalize run isI u.data.toList = n at *
    go_wp2_with fail
    refine (C1.out _).mono ?_
    rintro e w3 ⟨rfl, rfl⟩
    have hn3 : (0 : Int) ≤ (n : Int) := by omega
    have hn4 : (n : Int) ≤ (u.size : Int) := by omega
    by_cases hv : 24 < n
    · have HRr : Hid (nextV u = pcV u (.bad 42)) := Lib.hid (by rw [nextV, hp, if_pos hv])
      clear hp C1
      go_wp2
      exact bodyPost_ret (v := .tuple #[.agg #[.int .i64 0, .string ⟨#[]⟩, .int .i64 0, .int .i64 0], .int .i64 42]) (by (simp only [results, Tryd.results11]); go_simp) rfl ⟨by rw [HRr.out]; rfl, by repeat (first | exact HB.out | exact Below.refl _ _ | (refine w1_set ?_ (by simp) _) | apply w1_alloc | apply w1_drewN)⟩
    · have HRr : Hid (nextV u = pcV u (.tok 1 n 0)) := Lib.hid (by rw [nextV, hp, if_neg hv])
      clear hp C1
      go_wp2
      exact bodyPost_ret (v := .tuple #[.agg #[.int .i64 1, .string (u.extract 0 n), .int .i64 0, .int .i64 0], .int .i64 0]) (by (simp only [results, Tryd.results11]); go_simp) rfl ⟨by rw [HRr.out]; rfl, by repeat (first | exact HB.out | exact Below.refl _ _ | (refine w1_set ?_ (by simp) _) | apply w1_alloc | apply w1_drewN)⟩

/-- A text is one name. -/
def wordB (l : List UInt8) : Bool := decide (0 < l.length) && decide (l.length ≤ 24) && l.head?.any isL && decide (run isI l = l.length)
theorem word_any (u : ByteArray) (hs : u.size ≤ 9000000000000000000) (W : World) : Calls Tryd.prog 65 #[.string u] W fun e W' => e = .returned (.bool (wordB u.data.toList)) ∧ W' = W := by
  have hsz : u.data.toList.length = u.size := Array.length_toList
  go_enter Tryd.func65, Tryd.ntmps65
  by_cases h0 : u.size = 0
  · have hu : u = ⟨#[]⟩ := by
      have hl : u.data.size = 0 := h0
      cases u
      simp at hl
      simp [hl]
    subst hu
    go_wp2
    go_ret
    exact ⟨rfl, rfl⟩
  · have hu : 0 < u.size := by omega
    obtain ⟨r, hr0⟩ := first_byte hu
    have hne := empty_ne hu
    have H0 := Lib.hid hr0
    clear hr0
    by_cases h24 : u.size ≤ 24
    · go_wp2_with fail
      refine (letter_any u[0] _).mono ?_
      rintro e w2 ⟨rfl, rfl⟩
      cases hl : isL u[0]
      · have HRr : Hid (wordB u.data.toList = false) := Lib.hid (by rw [wordB, H0.out]; simp [hl])
        go_wp2
        go_ret
        exact ⟨by rw [HRr.out]; rfl, rfl⟩
      · go_wp2_with fail
        refine (length_inner u (by omega) _).mono ?_
        rintro e w3 ⟨rfl, rfl⟩
        have HRr : Hid (wordB u.data.toList = decide (run isI u.data.toList = u.size)) := Lib.hid (by
          rw [wordB, hsz]
          have : u.data.toList.head?.any isL = true := by rw [H0.out]; simpa using hl
          rw [this]
          simp [hu, h24])
        generalize run isI u.data.toList = n at *
        clear hsz
        by_cases hn : n = u.size
        · have hb : ((n : Int) == (u.size : Int)) = true := by simp [hn]
          have HN := Lib.hid hn
          clear hn
          go_wp2
          go_ret
          exact ⟨by rw [HRr.out, decide_eq_true HN.out]; rfl, rfl⟩
        · have hb : ((n : Int) == (u.size : Int)) = false := by simp; omega
          have HN := Lib.hid hn
          clear hn
          go_wp2
          go_ret
          exact ⟨by rw [HRr.out, decide_eq_false HN.out]; rfl, rfl⟩
    · have hr : wordB u.data.toList = false := by rw [wordB, hsz]; simp; omega
      have HRr := Lib.hid hr
      clear hr
      go_wp2
      go_ret
      exact ⟨by rw [HRr.out]; rfl, rfl⟩

def upperB (l : List UInt8) : Bool := wordB l && l.head?.any (fun c => decide (c.toNat ≤ 90))
theorem wordB_pos {u : ByteArray} (h : wordB u.data.toList = true) : 0 < u.size ∧ u.size ≤ 24 := by
  have hsz : u.data.toList.length = u.size := Array.length_toList
  simp only [wordB, Bool.and_eq_true, decide_eq_true_eq] at h
  omega
theorem upper_any (u : ByteArray) (hs : u.size ≤ 9000000000000000000) (W : World) : Calls Tryd.prog 56 #[.string u] W fun e W' => e = .returned (.bool (upperB u.data.toList)) ∧ W' = W := by
  have C1 := Lib.hid (word_any u hs W)
  go_enter Tryd.func56, Tryd.ntmps56
  go_wp2_with fail
  refine C1.out.mono ?_
  rintro e w1 ⟨rfl, rfl⟩
  cases hw : wordB u.data.toList
  · have HRr : Hid (upperB u.data.toList = false) := Lib.hid (by rw [upperB, hw]; rfl)
    go_wp2
    go_ret
    exact ⟨by rw [HRr.out]; rfl, rfl⟩
  · obtain ⟨hu, h24⟩ := wordB_pos hw
    obtain ⟨r, hr0⟩ := first_byte hu
    have HRr : Hid (upperB u.data.toList = decide (u[0].toNat ≤ 90)) := Lib.hid (by rw [upperB, hw, hr0]; simp)
    clear hr0 hw C1
    by_cases hz : u[0].toNat ≤ 90
    · go_wp2
      go_ret
      exact ⟨by rw [HRr.out, decide_eq_true hz]; simp; omega, rfl⟩
    · go_wp2
      go_ret
      exact ⟨by rw [HRr.out, decide_eq_false hz]; simp; omega, rfl⟩

def resW : List ByteArray := [⟨#[115, 116, 114, 117, 99, 116]⟩, ⟨#[101, 110, 117, 109]⟩, ⟨#[99, 111]⟩, ⟨#[108, 101, 116]⟩, ⟨#[105, 102]⟩, ⟨#[101, 108, 115, 101]⟩, ⟨#[119, 104, 105, 108, 101]⟩, ⟨#[109, 97, 116, 99, 104]⟩, ⟨#[121, 105, 101, 108, 100]⟩, ⟨#[114, 101, 116, 117, 114, 110]⟩, ⟨#[112, 114, 105, 110, 116]⟩, ⟨#[100, 114, 111, 112]⟩, ⟨#[98, 111, 120]⟩, ⟨#[117, 110, 98, 111, 120]⟩, ⟨#[115, 116, 97, 114, 116]⟩, ⟨#[97, 119, 97, 105, 116]⟩, ⟨#[112, 111, 108, 108]⟩, ⟨#[119, 97, 105, 116]⟩, ⟨#[109, 117, 116]⟩, ⟨#[105, 110, 116]⟩]
theorem res_idx : ∀ (t : Nat), t < 20 → ∀ w : World, (Instr.index 136 (.agg #[.string ⟨#[115, 116, 114, 117, 99, 116]⟩, .string ⟨#[101, 110, 117, 109]⟩, .string ⟨#[99, 111]⟩, .string ⟨#[108, 101, 116]⟩, .string ⟨#[105, 102]⟩, .string ⟨#[101, 108, 115, 101]⟩, .string ⟨#[119, 104, 105, 108, 101]⟩, .string ⟨#[109, 97, 116, 99, 104]⟩, .string ⟨#[121, 105, 101, 108, 100]⟩, .string ⟨#[114, 101, 116, 117, 114, 110]⟩, .string ⟨#[112, 114, 105, 110, 116]⟩, .string ⟨#[100, 114, 111, 112]⟩, .string ⟨#[98, 111, 120]⟩, .string ⟨#[117, 110, 98, 111, 120]⟩, .string ⟨#[115, 116, 97, 114, 116]⟩, .string ⟨#[97, 119, 97, 105, 116]⟩, .string ⟨#[112, 111, 108, 108]⟩, .string ⟨#[119, 97, 105, 116]⟩, .string ⟨#[109, 117, 116]⟩, .string ⟨#[105, 110, 116]⟩]) (.int .i64 (t : Int))).run Tryd.prog w = .ok (.string (resW.getD t ⟨#[]⟩)) w
  | 0, _, w => by kernel_rfl
  | 1, _, w => by kernel_rfl
  | 2, _, w => by kernel_rfl
  | 3, _, w => by kernel_rfl
  | 4, _, w => by kernel_rfl
  | 5, _, w => by kernel_rfl
  | 6, _, w => by kernel_rfl
  | 7, _, w => by kernel_rfl
  | 8, _, w => by kernel_rfl
  | 9, _, w => by kernel_rfl
  | 10, _, w => by kernel_rfl
  | 11, _, w => by kernel_rfl
  | 12, _, w => by kernel_rfl
  | 13, _, w => by kernel_rfl
  | 14, _, w => by kernel_rfl
  | 15, _, w => by kernel_rfl
  | 16, _, w => by kernel_rfl
  | 17, _, w => by kernel_rfl
  | 18, _, w => by kernel_rfl
  | 19, _, w => by kernel_rfl
  | n + 20, h, _ => absurd h (by omega)
def resB (u : ByteArray) : Bool := resW.any (fun w => u.toList == w.toList)
theorem reserved_any (u : ByteArray) (W : World) : Calls Tryd.prog 55 #[.string u] W fun e W' => e = .returned (.bool (resB u)) ∧ W' = W := by
  go_enter Tryd.func55, Tryd.ntmps55
  go_wp2_with fail
  go_loopw [6] (fun i wr => ∃ t : Nat, t ≤ 20 ∧ i = .int .i64 t ∧ Hid (∀ j, j < t → (u.toList == (resW.getD j ⟨#[]⟩).toList) = false) ∧ wr = W) (fun i _ => 20 - (intOf i).toNat)
  case atStart => exact ⟨0, by omega, rfl, Lib.hid (fun j hj => absurd hj (Nat.not_lt_zero _)), rfl⟩
  case round =>
    obtain ⟨t, ht, rfl, hno, rfl⟩ := hrel
    by_cases hlt : t < 20
    · have hidx := res_idx t hlt
      have HT := Lib.hid (show resW.getD t ⟨#[]⟩ ∈ resW by
        rw [List.getD_eq_getElem?_getD, List.getElem?_eq_getElem (by simpa [resW] using hlt)]
        exact List.getElem_mem _)
      generalize hx : resW.getD t ⟨#[]⟩ = x at *
      have HXx := Lib.hid hx
      clear hx
      have hti : (t : Int) < 20 := by omega
      cases hv : u.toList == x.toList
      · have HN : Hid (∀ j, j < t + 1 → (u.toList == (resW.getD j ⟨#[]⟩).toList) = false) := Lib.hid (fun j hj => by
          by_cases e : j = t
          · subst e; rw [HXx.out]; exact hv
          · exact hno.out j (by omega))
        go_wp2
        go_roundw
        case rel => exact ⟨t + 1, by omega, by go_num, HN, by trivial⟩
        case measure => simp [intOf]; omega
      · have HRr : Hid (resB u = true) := Lib.hid (by rw [resB, List.any_eq_true]; exact ⟨x, HT.out, hv⟩)
        go_wp2
        go_ret
        exact ⟨by rw [HRr.out]; rfl, rfl⟩
    · obtain rfl : t = 20 := by omega
      have HRr : Hid (resB u = false) := Lib.hid (by
        rw [resB, List.any_eq_false]
        intro x hx
        obtain ⟨j, hj, rfl⟩ := List.getElem_of_mem hx
        have := hno.out j (by simpa [resW] using hj)
        rw [List.getD_eq_getElem?_getD, List.getElem?_eq_getElem hj] at this
        simpa using this)
      go_wp2
      go_ret
      exact ⟨by rw [HRr.out]; rfl, rfl⟩
end Go.Proofs.YtjoiflokekebkaaDoor
