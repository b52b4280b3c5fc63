/- Walks: the law on numbers. -/
import Derived.Test.YtaaoeaenhjaijaaDoorL8
import Derived.Test.YtaaoeaenhjaijaaDoorP1
import Derived.Lib.SlBytesRow
import Derived.Laws.OwnMore
namespace Go.Proofs.YtaaoeaenhjaijaaDoor
open Go.RowKit

theorem valueFrom_eq (l : List UInt8) : ∀ acc, valueFrom acc l = acc * 10 ^ l.length + value l := by
  induction l with
  | nil => intro acc; simp [valueFrom, value]
  | cons c l ih =>
    intro acc
    have e : ∀ acc, valueFrom acc (c :: l) = valueFrom (acc * 10 + (c.toNat - 48)) l := fun _ => rfl
    have e2 : value (c :: l) = valueFrom (0 * 10 + (c.toNat - 48)) l := rfl
    rw [e, e2, ih, ih, List.length_cons, Nat.pow_succ, Nat.zero_mul, Nat.zero_add, Nat.add_mul, Nat.add_assoc]
    congr 1
    rw [Nat.mul_assoc, Nat.mul_comm 10]
theorem value_cons (c : UInt8) (l : List UInt8) : value (c :: l) = (c.toNat - 48) * 10 ^ l.length + value l := by
  have e : value (c :: l) = valueFrom (0 * 10 + (c.toNat - 48)) l := rfl
  rw [e, valueFrom_eq, Nat.zero_mul, Nat.zero_add]
theorem value_noughts (l : List UInt8) : ∀ m, value (List.replicate m 48 ++ l) = value l
  | 0 => by simp
  | m + 1 => by
    rw [List.replicate_succ, List.cons_append, value_cons, value_noughts l m]
    simp
theorem digits_lex {u : ByteArray} (h : ∀ c ∈ u.data.toList, isD c = true) (h0 : 0 < u.size) (hs : u.size ≤ 65536) {n : Nat} (hn : value u.data.toList = n) (hv : n ≤ 9223372036854775807) :
    lexB u = .ok [⟨2, u, (n : Int), 0⟩, ⟨0, ⟨#[]⟩, 0, u.size⟩] := by
  subst hn
  have hz := bsize u
  have hrun : run isD u.data.toList = u.data.toList.length := run_at (fun j x _ hx => h x (List.mem_of_getElem? hx)) (fun x hx => by rw [List.getElem?_eq_none (Nat.le_refl _)] at hx; cases hx) (Nat.le_refl _)
  have hp : piece (u.data.toList.drop 0) = .tok 2 u.size (value u.data.toList) := by
    rw [List.drop_zero]
    have htk : u.data.toList.take u.data.toList.length = u.data.toList := List.take_of_length_le (Nat.le_refl _)
    cases hl : u.data.toList with
    | nil => rw [hl] at hz; simp at hz; omega
    | cons c t =>
      have hc : isD c = true := h c (by rw [hl]; simp)
      have hlc : isL c = false := by
        cases hq : isL c
        · rfl
        · have := isL_low c hq
          simp only [isD, Bool.and_eq_true, decide_eq_true_eq] at hc
          omega
      have hc1 : ¬ (c = 47 ∨ c = 32 ∨ c = 9 ∨ c = 10) := by
        rintro (rfl | rfl | rfl | rfl) <;> exact absurd hc (by decide)
      have hps : passedN (c :: t) = 0 := by
        unfold passedN
        rw [if_neg, if_neg]
        · intro q
          simp at q
          exact hc1 (.inr q)
        · intro q
          simp [Lib.hasPrefix] at q
          exact hc1 (.inl q.1.symm)
      rw [hl] at hrun htk
      rw [piece, hps, if_neg (by omega), nextP, hlc, if_neg (by simp), if_pos hc, hrun, htk, if_neg (by rw [← hl]; omega), ← hl, hz]
  rw [lexB, if_neg (by omega), lex_tok (by omega) hp, Nat.zero_add, lex_end (by omega)]
  simp [Except.map]

theorem mk_u8 (n : Nat) (hn : n ≤ 1000) (w : World) : (Instr.makeSlice 33 (.int .i64 n) (.int .i64 n)).run Tryd.prog w = .ok (.slice (some ⟨w.heap.size, 0, none⟩) n n) (w.alloc (.cells (Array.replicate n (.int .u8 0)) 5)) := by
  obtain ⟨i, hi, hz, hs, hb⟩ := info_parts (t := 5) (z := .int .u8 0) (s := 1) (b := 1) (by kernel_rfl)
  have hr := run_make (P := Tryd.prog) w 33 5 i _ Tryd.underlying33 hi hz .i64 .i64 n n (by omega) (Int.le_refl _) (by rw [hb]; omega) (by omega)
  rw [hs] at hr
  simp only [Int.toNat_natCast] at hr
  rw [hr]
  congr 3
  apply Array.toList_inj.1
  rw [Nat.mul_one]
  exact (toList_madeCells_one _ n).trans (by simp)

theorem wf_range {n : Int} (h : (Lit.int .i64 n).wf = true) : -9223372036854775808 ≤ n ∧ n ≤ 9223372036854775807 := by
  simp only [Lit.wf, Bool.and_eq_true, decide_eq_true_eq] at h
  have e1 : IntKind.min .i64 = -9223372036854775808 := by decide
  have e2 : IntKind.max .i64 = 9223372036854775807 := by decide
  rw [e1, e2] at h
  exact h

def emptyV : Value → Nat
  | .string u => if u.size = 0 then 1 else 0
  | _ => 0
/-- What a round of the digits keeps. -/
structure Nv (n k : Nat) (u : ByteArray) : Prop where
  digits : ∀ c ∈ u.data.toList, isD c = true
  sum : k * 10 ^ u.size + value u.data.toList = n
  few : u.size ≤ 1 ∨ 10 ^ (u.size - 1) ≤ n
theorem Nv.start (n : Nat) : Nv n n ⟨#[]⟩ := ⟨fun c hc => by simp at hc, by
  have e : ByteArray.size ⟨#[]⟩ = 0 := rfl
  rw [e]
  simp [value, valueFrom], .inl (by decide)⟩
theorem Nv.size {n k : Nat} {u : ByteArray} (h : Nv n k u) (hn : n ≤ 9223372036854775807) : u.size ≤ 20 := by
  rcases h.few with h1 | h1
  · omega
  · by_cases h2 : u.size ≤ 20
    · exact h2
    · have h3 : 10 ^ 20 ≤ 10 ^ (u.size - 1) := Nat.pow_le_pow_right (by omega) (by omega)
      have h4 : (10 : Nat) ^ 20 = 100000000000000000000 := by decide
      omega
theorem Nv.step {n k : Nat} {u : ByteArray} (h : Nv n k u) (hk : 0 < k ∨ u.size = 0) {c : UInt8} (hc : c.toNat = 48 + k % 10) : Nv n (k / 10) (⟨#[c]⟩ ++ u) := by
  have hz := bsize u
  have hd : (⟨#[c]⟩ ++ u : ByteArray).data.toList = c :: u.data.toList := ByteArray.toList_data_append
  have hs : (⟨#[c]⟩ ++ u : ByteArray).size = u.size + 1 := by rw [ByteArray.size_append]; show 1 + u.size = _; omega
  refine ⟨?_, ?_, ?_⟩
  · rw [hd]
    intro x hx
    rcases List.mem_cons.1 hx with rfl | hx
    · simp [isD]; omega
    · exact h.digits x hx
  · rw [hd, hs, value_cons, hz, Nat.pow_succ, ← h.sum, ← Nat.add_assoc]
    congr 1
    have e1 : c.toNat - 48 = k % 10 := by omega
    rw [e1, Nat.mul_comm (10 ^ u.size), ← Nat.mul_assoc, ← Nat.add_mul]
    congr 1
    omega
  · rw [hs]
    rcases hk with hk | hk
    · right
      rw [Nat.add_sub_cancel, ← h.sum]
      have : 1 * 10 ^ u.size ≤ k * 10 ^ u.size := Nat.mul_le_mul_right _ hk
      omega
    · left; omega

theorem str_one (w : World) (c : UInt8) (x : Int) (hx : x = (c.toNat : Int)) : (convert 33 9 (.slice (some ⟨w.heap.size, 0, none⟩) 1 1)).run Tryd.prog (w.alloc (.cells #[.int .u8 x] 5)) = .ok (.string ⟨#[c]⟩) (w.alloc (.cells #[.int .u8 x] 5)) := by
  subst hx
  refine Lib.run_convert_whole (P := Tryd.prog) _ 33 5 9 Tryd.underlying33 Tryd.underlying5 Tryd.underlying9 w.heap.size 0 ⟨#[c]⟩ ?_ 1
  intro i h
  have hs : ByteArray.size ⟨#[c]⟩ = 1 := rfl
  obtain rfl : i = 0 := by omega
  rw [blk_cell (heap_alloc_new w _)]
  rfl
def noughts (m : Nat) : ByteArray := ⟨Array.replicate m 48⟩
theorem noughts_size (m : Nat) : (noughts m).size = m := Array.size_replicate
def fillV (m j : Nat) : Array Value := Array.replicate j (.int .u8 48) ++ Array.replicate (m - j) (.int .u8 0)
theorem fillV_zero (m : Nat) : fillV m 0 = Array.replicate m (.int .u8 0) := by simp [fillV]
theorem fillV_step {m j : Nat} (h : j < m) : (fillV m j).setIfInBounds j (.int .u8 48) = fillV m (j + 1) := by
  apply Array.ext_getElem?
  intro i
  rw [Array.getElem?_setIfInBounds]
  simp only [fillV, Array.size_append, Array.size_replicate, Array.getElem?_append, Array.getElem?_replicate]
  by_cases hi : j = i
  · subst hi
    simp only [show j < j + (m - j) by omega, show j < j + 1 by omega, if_true]
  · rw [if_neg hi]
    by_cases h1 : i < j
    · simp only [h1, show i < j + 1 by omega, if_true]
    · simp only [h1, show ¬ i < j + 1 by omega, if_false]
      by_cases h2 : i < m
      · simp only [show i - j < m - j by omega, show i - (j + 1) < m - (j + 1) by omega, if_true]
      · simp only [show ¬ i - j < m - j by omega, show ¬ i - (j + 1) < m - (j + 1) by omega, if_false]
theorem str_noughts (w : World) (g m : Nat) (h : Bx 5 w g (fillV m m)) : (convert 33 9 (.slice (some ⟨g, 0, none⟩) m m)).run Tryd.prog w = .ok (.string (noughts m)) w := by
  have hr := Lib.run_convert_whole (P := Tryd.prog) w 33 5 9 Tryd.underlying33 Tryd.underlying5 Tryd.underlying9 g 0 (noughts m) (by
    intro i hi
    rw [noughts_size] at hi
    rw [Nat.zero_add, blk_cell h]
    simp only [fillV, Nat.sub_self, Array.replicate_zero, Array.append_empty, Array.getElem?_replicate, if_pos hi]
    have e : (noughts m)[i] = 48 := by
      show (Array.replicate m (48 : UInt8))[i]'(by simpa using hi) = 48
      rw [Array.getElem_replicate]
    rw [e]
    rfl) m
  rw [noughts_size] at hr
  exact hr

set_option maxRecDepth 100000 in
set_option maxHeartbeats 4000000 in
theorem lexisNumbers_walk (W : World) (n : Int) (hn : (Lit.int .i64 n).wf = true) (m : Int) (hm : (Lit.int .i64 m).wf = true) (hv : HasErr W) :
    Calls Tryd.prog 8 #[.int .i64 n, .int .i64 m] W fun e W' => e = .returned (.bool true) ∧ Below W.heap.size W W' := by
  have HV := Lib.hid hv
  have C1 := Lib.hid (works_any W hv)
  clear hv
  by_cases hn0 : n < 0
  · go_enter Tryd.func8, Tryd.ntmps8
    go_wp2_with fail
    refine C1.out.mono ?_
    rintro e w1 ⟨rfl, b1⟩
    go_wp2
    go_ret
    exact ⟨rfl, b1⟩
  by_cases hm0 : m < 0
  · go_enter Tryd.func8, Tryd.ntmps8
    go_wp2_with fail
    refine C1.out.mono ?_
    rintro e w1 ⟨rfl, b1⟩
    go_wp2
    go_ret
    exact ⟨rfl, b1⟩
  by_cases hm1 : 100 < m
  · go_enter Tryd.func8, Tryd.ntmps8
    go_wp2_with fail
    refine C1.out.mono ?_
    rintro e w1 ⟨rfl, b1⟩
    go_wp2
    go_ret
    exact ⟨rfl, b1⟩
  obtain ⟨m, rfl⟩ : ∃ k : Nat, m = (k : Int) := ⟨m.toNat, by omega⟩
  obtain ⟨n, rfl⟩ : ∃ k : Nat, n = (k : Int) := ⟨n.toNat, by omega⟩
  have hnb : n ≤ 9223372036854775807 := by have := (wf_range hn).2; omega
  have hmb : m ≤ 100 := by omega
  have HMK := Lib.hid (mk_u8 m (by omega))
  have d0 : ¬ (n : Int) < 0 := by omega
  have d1 : ¬ (m : Int) < 0 := by omega
  have d2 : ¬ (100 : Int) < (m : Int) := by omega
  clear hn hm hn0 hm0 hm1
  go_enter Tryd.func8, Tryd.ntmps8
  go_wp2_with fail
  refine C1.out.mono ?_
  rintro e w1 ⟨rfl, b1⟩
  have Z1 := Lib.hid b1
  have HV1 := Lib.hid (HV.out.below b1)
  clear b1
  go_wp2_with fail
  go_loopw [6, 7] (fun v6 v7 wr => ∃ (u : ByteArray) (k : Nat), v6 = .string u ∧ v7 = .int .i64 k ∧ Hid (Nv n k u) ∧ k ≤ n ∧ Hid (Below W.heap.size W wr)) (fun v6 k _ => (intOf k).toNat * 2 + emptyV v6)
  case atStart => exact ⟨⟨#[]⟩, n, rfl, rfl, Lib.hid (Nv.start n), Nat.le_refl _, Z1⟩
  case round =>
    obtain ⟨u, k, rfl, rfl, hN, hkn, hz⟩ := hrel
    clear Z1
    go_upto_region 8 with fail
    go_cut [7, 33] from 28 to 43 (fun v7 c wx => ∃ d : Bool, v7 = .int .i64 k ∧ c = .bool d ∧ Hid (d = true ↔ (0 < k ∨ u.size = 0)) ∧ wx = wr)
    case first =>
      by_cases hk : 0 < k
      · have hk1 : (0 : Int) < (k : Int) := by omega
        have HK := Lib.hid hk
        clear hk
        go_wp2_with fail
        go_meet
        case rel => exact ⟨_, rfl, rfl, Lib.hid (by simp; exact .inl HK.out), rfl⟩
      · have hk1 : ¬ (0 : Int) < (k : Int) := by omega
        have HK := Lib.hid hk
        have HK0 : Hid (k = 0) := Lib.hid (by omega)
        clear hk
        cases hu : u.toList.isEmpty
        · have HU : Hid (¬ u.size = 0) := Lib.hid (by
            rw [List.isEmpty_eq_false_iff, ByteArray.toList_eq] at hu
            intro q
            rw [← bsize] at q
            exact hu (List.length_eq_zero_iff.1 q))
          go_wp2_with fail
          go_meet
          case rel => exact ⟨false, by rw [HK0.out]; rfl, by simp [*], Lib.hid ⟨fun q => (by cases q), fun q => absurd q (by have := HK0.out; have := HU.out; omega)⟩, rfl⟩
        · have HU : Hid (u.size = 0) := Lib.hid (by
            rw [List.isEmpty_iff, ByteArray.toList_eq] at hu
            rw [← bsize, hu]; rfl)
          go_wp2_with fail
          go_meet
          case rel => exact ⟨true, by rw [HK0.out]; rfl, by simp [*], Lib.hid ⟨fun _ => .inr HU.out, fun _ => rfl⟩, rfl⟩
    case rest =>
      obtain ⟨d, rfl, rfl, hd, hw⟩ := hcut
      obtain rfl : wr = wc := hw.symm
      clear hw
      cases d
      · have hk0 : k = 0 := by
          have : ¬ (0 < k ∨ u.size = 0) := fun q => by have := hd.out.2 q; cases this
          omega
        have hu0 : 0 < u.size := by
          have : ¬ (0 < k ∨ u.size = 0) := fun q => by have := hd.out.2 q; cases this
          omega
        subst hk0
        have hul := hN.out.size hnb
        obtain ⟨w0, rfl⟩ : ∃ w0 : World, w0 = wr := ⟨_, rfl⟩
        have B0 : Hid (Bx 5 (w0.alloc (.cells (Array.replicate m (.int .u8 0)) 5)) w0.heap.size (fillV m 0)) := Lib.hid (by rw [fillV_zero]; exact Bx.newAt rfl)
        have Z0 : Hid (Below W.heap.size W (w0.alloc (.cells (Array.replicate m (.int .u8 0)) 5))) := Lib.hid (w1_alloc hz.out _)
        have hgW := hz.out.size
        have hmk := HMK.out w0
        have HMK2 := Lib.hid hd
        clear hd
        go_wp2_with fail
        clear hmk
        go_loopw [9] (fun v9 wr => ∃ (j : Nat), v9 = .int .i64 j ∧ j ≤ m ∧ Hid (Bx 5 wr w0.heap.size (fillV m j)) ∧ Hid (Below W.heap.size W wr)) (fun j _ => m - (intOf j).toNat)
        case atStart => exact ⟨0, rfl, Nat.zero_le _, B0, Z0⟩
        case round =>
          obtain ⟨j, rfl, hj, hb, hz2⟩ := hrel
          clear B0 Z0
          obtain ⟨l8, h8, f8⟩ := hb.out.see
          by_cases hlt : j < m
          · have htl : (j : Int) < (m : Int) := by omega
            have htj : (0 : Int) ≤ (j : Int) := by omega
            have HB2 : Hid (Bx 5 (wr.setCell ⟨w0.heap.size, j, none⟩ (.int .u8 48)) w0.heap.size (fillV m (j + 1))) := Lib.hid (by
              have := blk_set hb.out j (.int .u8 48)
              rw [fillV_step hlt] at this
              exact this)
            have hc8 : (fillV m j)[j]? = some (.int .u8 0) := by
              simp only [fillV, Array.getElem?_append, Array.size_replicate, Array.getElem?_replicate]
              rw [if_neg (Nat.lt_irrefl j), if_pos (by omega)]
            have h8j := h8 j
            rw [hc8] at h8j
            have f8j := f8 j
            clear h8 hc8 f8
            go_wp2
            go_roundw
            case rel => exact ⟨j + 1, by go_num, by omega, HB2, Lib.hid (bel_set hz2.out hgW _)⟩
            case measure => simp [intOf]; omega
          · obtain rfl : j = m := by omega
            have hcv := str_noughts wr w0.heap.size j hb.out
            have hzu : (noughts j ++ u).size = j + u.size := by rw [ByteArray.size_append, noughts_size]
            have hdl : (noughts j ++ u).data.toList = List.replicate j 48 ++ u.data.toList := by
              rw [ByteArray.toList_data_append]
              simp [noughts]
            have hsum := hN.out.sum
            have hL := digits_lex (u := noughts j ++ u) (n := n) (by
              rw [hdl]
              intro c hc
              rcases List.mem_append.1 hc with hc | hc
              · rw [List.mem_replicate] at hc
                rw [hc.2]; decide
              · exact hN.out.digits c hc) (by omega) (by omega) (by
              rw [hdl, value_noughts]
              omega) hnb
            have C2 := Lib.hid (lex_ok hL (by omega))
            have HV2 := Lib.hid (HV.out.below hz2.out)
            have hnz := noughts_size j
            have hzz : j + u.size ≤ 9223372036854775807 := by omega
            clear l8 h8 f8 hdl hL hsum hzu
            go_wp2_with fail
            refine (C2.out _ HV2.out).mono ?_
            rintro e w2 ⟨⟨A, c, rfl, own⟩, hl, b2⟩
            obtain ⟨g, rfl, _, hg, hf, hc⟩ := row_at own (by simp)
            obtain ⟨t0, t1, t2, t3⟩ := tcells_at [⟨2, noughts j ++ u, (n : Int), 0⟩, ⟨0, ⟨#[]⟩, 0, (noughts j ++ u).size⟩] 0 _ rfl
            have c0 := hc _ _ t0
            have c2 := hc _ _ t2
            clear hc t0 t1 t2 t3 own hcv
            have hlen : ([⟨2, noughts j ++ u, (n : Int), 0⟩, ⟨0, ⟨#[]⟩, 0, (noughts j ++ u).size⟩] : List Tk).length = 2 := rfl
            rw [hlen]
            go_wp2
            go_ret
            exact ⟨by simp, hz2.out.trans (b2.mono hz2.out.size)⟩
      · obtain ⟨c, hc⟩ : ∃ c : UInt8, c.toNat = 48 + k % 10 := ⟨UInt8.ofNat (48 + k % 10), by simp; omega⟩
        have hN2 := Lib.hid (hN.out.step (hd.out.1 rfl) hc)
        have hcv := str_one wr c (48 + (k : Int) % 10) (by omega)
        have hk2 : k / 10 ≤ n := by omega
        have hks : Hid (k / 10 * 2 + emptyV (.string (⟨#[c]⟩ ++ u)) < k * 2 + emptyV (.string u)) := Lib.hid (by
          have hs : (⟨#[c]⟩ ++ u : ByteArray).size = u.size + 1 := by rw [ByteArray.size_append]; show 1 + u.size = _; omega
          have := hd.out.1 rfl
          simp only [emptyV, hs]
          rw [if_neg (by omega)]
          split <;> omega)
        clear hc hd
        have hul : 1 + u.size ≤ 9223372036854775807 := by have := hN.out.size hnb; omega
        go_wp2
        go_roundw
        case rel => exact ⟨⟨#[c]⟩ ++ u, k / 10, rfl, by go_num, hN2, hk2, Lib.hid (w1_alloc hz.out _)⟩
        case measure =>
          have hk8 : ((k : Int) / 10).toNat = k / 10 := by omega
          simp only [intOf, hk8, Int.toNat_natCast]
          exact hks.out
end Go.Proofs.YtaaoeaenhjaijaaDoor
